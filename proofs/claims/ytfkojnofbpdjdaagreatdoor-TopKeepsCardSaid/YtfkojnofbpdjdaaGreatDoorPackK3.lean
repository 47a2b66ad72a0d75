/-
  Contracts and plain laws that this claim leans on, part 3.
-/
import Derived.Test.YtfkojnofbpdjdaaGreatDoorPackK2
import Derived.Lib.IndexMore
import Derived.Test.YtfkojnofbpdjdaaGreatDoorPackK1
import Derived.Shelf.Strings.SlTrimAscii
import Derived.Maps.Own
import Derived.Maps.OwnOps
import Derived.Maps.Views
import Derived.Lib.AppendZeros
import Derived.Shelf.Strings.Builder1
import Derived.Lib.Bytealg
import Derived.Shelf.Abstract
import Derived.Deep.DeepCutAuto
import Derived.Deep.CutBlock
import Derived.Great.BuildSlice
import Derived.Great.Walk
set_option linter.unusedVariables false
set_option linter.unusedSimpArgs false
set_option maxHeartbeats 16000000
set_option maxRecDepth 100000
namespace Go.Proofs.YtfkojnofbpdjdaaGreatDoor
def NumTo:List Tk→Nat→List Tk→Nat→List Tk→Prop
 | [],c,op,c',op'=>c=c'∧op=op'
 | x::u,c,op,c',op'=>
   if x.k=2 then x.d=((c+1:Nat):Int)∧NumTo u (c+1) (x::op) c' op'
   else if x.k=4 then x.d=((c+1:Nat):Int)∧NumTo u (c+1) op c' op'
   else if x.k=3 then ∃ y r,op=y::r∧J8 y.t=x.t∧x.d=y.d∧NumTo u c r c' op'
   else NumTo u c op c' op'
theorem NumTo.ok:∀ {u:List Tk} {c:Nat} {op:List Tk} {c':Nat},NumTo u c op c' []→NumOk u c op
 | [],_,_,_,h=>h.2
 | x::u,c,op,c',h=>by
   unfold NumTo at h;unfold NumOk;split at h
   ·rename_i h2;rw [if_pos h2];exact ⟨h.1,NumTo.ok h.2⟩
   ·rename_i h2;rw [if_neg h2];split at h
    ·rename_i h4;rw [if_pos h4];exact ⟨h.1,NumTo.ok h.2⟩
    ·rename_i h4;rw [if_neg h4];split at h
     ·rename_i h3;rw [if_pos h3];obtain ⟨y,r,a,b,d,h⟩:=h;exact ⟨y,r,a,b,d,NumTo.ok h⟩
     ·rename_i h3;rw [if_neg h3];exact NumTo.ok h
theorem NumTo.app:∀ {u v:List Tk} {c:Nat} {op:List Tk} {c1:Nat} {op1:List Tk} {c2:Nat} {op2:List Tk},NumTo u c op c1 op1→NumTo v c1 op1 c2 op2→NumTo (u++v) c op c2 op2
 | [],v,_,_,_,_,_,_,h,g=>by
   rw [List.nil_append];obtain ⟨rfl,rfl⟩:=h;exact g
 | x::u,v,c,op,c1,op1,c2,op2,h,g=>by
   rw [List.cons_append];unfold NumTo at h ⊢;split at h
   ·rename_i h2;rw [if_pos h2];exact ⟨h.1,NumTo.app h.2 g⟩
   ·rename_i h2;rw [if_neg h2];split at h
    ·rename_i h4;rw [if_pos h4];exact ⟨h.1,NumTo.app h.2 g⟩
    ·rename_i h4;rw [if_neg h4];split at h
     ·rename_i h3;rw [if_pos h3];obtain ⟨y,r,a,b,d,h⟩:=h;exact ⟨y,r,a,b,d,NumTo.app h g⟩
     ·rename_i h3;rw [if_neg h3];exact NumTo.app h g
def N7 (u:List Tk):List Tk:=u.filter fun x=>decide (N1 x)
theorem NumTo.tags:∀ {u:List Tk} {c:Nat} {op:List Tk} {c':Nat} {op':List Tk},NumTo u c op c' op'↔NumTo (N7 u) c op c' op'
 | [],_,_,_,_=>Iff.rfl
 | x::u,c,op,c',op'=>by
   by_cases ht:N1 x
   ·have e:N7 (x::u)=x::N7 u:=(by unfold N7;rw [List.filter_cons,if_pos (by simpa using ht)]);rw [e];unfold NumTo;split
    ·exact and_congr_right fun _=>NumTo.tags
    ·split
     ·exact and_congr_right fun _=>NumTo.tags
     ·split
      ·constructor
       ·rintro ⟨y,r,a,b,d,h⟩;exact ⟨y,r,a,b,d,NumTo.tags.1 h⟩
       ·rintro ⟨y,r,a,b,d,h⟩;exact ⟨y,r,a,b,d,NumTo.tags.2 h⟩
      ·exact NumTo.tags
   ·have e:N7 (x::u)=N7 u:=(by unfold N7;rw [List.filter_cons,if_neg (by simpa using ht)]);rw [e];unfold N1 at ht;have h2:¬ x.k=2:=fun h=>ht (Or.inl h);have h3:¬ x.k=3:=fun h=>ht (Or.inr (Or.inl h));have h4:¬ x.k=4:=fun h=>ht (Or.inr (Or.inr h));rw [NumTo,if_neg h2,if_neg h4,if_neg h3];exact NumTo.tags
theorem NumOk.tags:∀ {u:List Tk} {c:Nat} {op:List Tk},NumOk u c op↔NumOk (N7 u) c op
 | [],_,_=>Iff.rfl
 | x::u,c,op=>by
   by_cases ht:N1 x
   ·have e:N7 (x::u)=x::N7 u:=(by unfold N7;rw [List.filter_cons,if_pos (by simpa using ht)]);rw [e];unfold NumOk;split
    ·exact and_congr_right fun _=>NumOk.tags
    ·split
     ·exact and_congr_right fun _=>NumOk.tags
     ·split
      ·constructor
       ·rintro ⟨y,r,a,b,d,h⟩;exact ⟨y,r,a,b,d,NumOk.tags.1 h⟩
       ·rintro ⟨y,r,a,b,d,h⟩;exact ⟨y,r,a,b,d,NumOk.tags.2 h⟩
      ·exact NumOk.tags
   ·have e:N7 (x::u)=N7 u:=(by unfold N7;rw [List.filter_cons,if_neg (by simpa using ht)]);rw [e];unfold N1 at ht;have h2:¬ x.k=2:=fun h=>ht (Or.inl h);have h3:¬ x.k=3:=fun h=>ht (Or.inr (Or.inl h));have h4:¬ x.k=4:=fun h=>ht (Or.inr (Or.inr h));rw [NumOk,if_neg h2,if_neg h4,if_neg h3];exact NumOk.tags
theorem Q1p (u v:List Tk):N7 (u++v)=N7 u++N7 v:=by simp [N7]
theorem Q2k (x:Tk) (h:x.k=1):N7 [x]=[]:=by
 unfold N7;rw [List.filter_cons,if_neg (by rw [decide_eq_true_iff];unfold N1;omega)];rfl
theorem Z0y (out:List Tk) (x:Tk):N7 (X3 out x)=N7 (out++[x]):=by
 by_cases hk:x.k=1
 ·rw [Q1p,Q2k x hk,List.append_nil];by_cases h2:x.t.size=0
  ·rw [G1 out x hk h2]
  ·rcases List.eq_nil_or_concat out with rfl | ⟨o,y,rfl⟩
   ·rw [V7 x hk h2];exact Q2k _ rfl
   ·rw [List.concat_eq_append];by_cases hy:y.k=1
    ·rw [J3 o y x hk h2 hy,Q1p,Q1p,Q2k y hy,Q2k _ rfl]
    ·rw [D1 o y x hk h2 hy,Q1p,Q2k _ rfl,List.append_nil]
 ·rw [K6 out x hk]
theorem X7w:∀ (f out:List Tk),N7 (f.foldl X3 out)=N7 (out++f)
 | [],out=>by simp
 | x::f,out=>by rw [List.foldl_cons,X7w f,Q1p,Z0y,←Q1p];simp
theorem Q9g (f:List Tk):N7 (Q9 f)=N7 f:=by
 have:=X7w f [];simpa [Q9] using this
theorem Z7c (f:List Tk):N7 (Y2 f)=N7 f:=by
 rw [←Q9g (Y2 f),X2o,Q9g]
theorem Z5r (f:List Tk) (h:NumOk f 0 []):NumOk (Y2 f) 0 []:=by
 rw [NumOk.tags,Z7c,←NumOk.tags];exact h
/-! ### Made fragments -/
def N0 (x:Tk):Prop:=x.k=1∨(x.k=5∧V8 x.t.data.toList=true∧x.d=0)∨((x.k=2∨x.k=4)∧N5 x.t.data.toList=true∧J4 (Z1 x.t.data.toList)=false)∨(x.k=3∧V8 x.t.data.toList=true∧J4 x.t.data.toList=false)
def Y7w (y:Tk):Prop:=y.k=2∧N5 y.t.data.toList=true∧J4 (Z1 y.t.data.toList)=false
theorem X9j (t:ByteArray) (h:N5 t.data.toList=true) (hb:J4 (Z1 t.data.toList)=false):V8 (J8 t).data.toList=true∧J4 (J8 t).data.toList=false:=by
 rw [Q8w];exact ⟨(U7 _ h).2.2.2.1,hb⟩
theorem V0d (k:Nat) (h:k < 3):N5 (Q6d.getD k ⟨#[]⟩).data.toList=true∧J4 (Z1 (Q6d.getD k ⟨#[]⟩).data.toList)=false:=by
 rcases (show k=0∨k=1∨k=2 by omega) with rfl | rfl | rfl<;>decide
theorem Z4j (k:Nat) (h:k < 2):N5 (Q4j.getD k ⟨#[]⟩).data.toList=true∧J4 (Z1 (Q4j.getD k ⟨#[]⟩).data.toList)=false:=by
 rcases (show k=0∨k=1 by omega) with rfl | rfl<;>decide
theorem Z5a (out:List Tk) (x:Tk) (h:∀ y∈out,N0 y) (hx:N0 x):∀ y∈X3 out x,N0 y:=by
 intro z hz;by_cases hk:x.k=1
 ·by_cases h2:x.t.size=0
  ·rw [G1 out x hk h2] at hz;exact h z hz
  ·rcases List.eq_nil_or_concat out with rfl | ⟨o,y,rfl⟩
   ·rw [V7 x hk h2] at hz;rw [List.mem_singleton.1 hz];exact Or.inl rfl
   ·rw [List.concat_eq_append] at h hz;by_cases hy:y.k=1
    ·rw [J3 o y x hk h2 hy] at hz;rcases List.mem_append.1 hz with hz | hz
     ·exact h z (List.mem_append.2 (.inl hz))
     ·rw [List.mem_singleton.1 hz];exact Or.inl rfl
    ·rw [D1 o y x hk h2 hy] at hz;rcases List.mem_append.1 hz with hz | hz
     ·exact h z hz
     ·rw [List.mem_singleton.1 hz];exact Or.inl rfl
 ·rw [K6 out x hk] at hz;rcases List.mem_append.1 hz with hz | hz
  ·exact h z hz
  ·rw [List.mem_singleton.1 hz];exact hx
theorem Z4z (f:List Tk) (h:∀ y∈f,N0 y):∀ y∈Q9 f,N0 y:=by
 suffices hh:∀ (g out:List Tk),(∀ y∈g,N0 y)→(∀ y∈out,N0 y)→∀ y∈g.foldl X3 out,N0 y from hh f [] h (fun y hy=>by simp at hy)
 intro g;induction g with
 | nil=>intro out _ h2;exact h2
 | cons x g ih=>intro out h1 h2;exact ih _ (fun y hy=>h1 y (by simp [hy])) (Z5a out x h2 (h1 x yW))
structure FGN (s:FS):Prop where
 items:∀ x∈s.f,N0 x
 opens : ∀ y ∈ s.op, Y7w y
 num:NumTo s.f 0 [] s.id s.op.reverse
theorem Z4y (tags:Bool) (L:List Int) (c:Int) (t:ByteArray) (op:List Tk) (id M:Nat) (ho:∀ y∈op,Y7w y):
 ∀ x op' id' M',U8 tags L c t op id M=(x,op',id',M')→N0 x∧(∀ y∈op',Y7w y)∧NumTo [x] id op.reverse id' op'.reverse:=by
 intro x op' id' M' h;unfold U8 at h;have hb:=X7 L M 3 yX;have ha:=X7 L M 2 yX;split at h
 ·cases h
  refine ⟨Or.inr (Or.inl ⟨rfl,Y7l _ yY,rfl⟩),ho,?_⟩;unfold NumTo;rw [if_neg (by show ¬ (5:Int)=2;decide),if_neg (by show ¬ (5:Int)=4;decide),if_neg (by show ¬ (5:Int)=3;decide)];exact ⟨rfl,rfl⟩
 split at h
 ·cases h
  have:=Z4j (X0 L M 2).toNat yY;refine ⟨Or.inr (Or.inr (Or.inl ⟨Or.inr rfl,this.1,this.2⟩)),ho,?_⟩;unfold NumTo;rw [if_neg (by show ¬ (4:Int)=2;decide),if_pos rfl];exact ⟨rfl,rfl,rfl⟩
 split at h
 ·cases h
  have:=V0d (X0 L M 3).toNat yY;refine ⟨Or.inr (Or.inr (Or.inl ⟨Or.inl rfl,this.1,this.2⟩)),fun y hy=>?_,?_⟩
  ·rcases List.mem_append.1 hy with hy | hy
   ·exact ho y hy
   ·rw [List.mem_singleton.1 hy];exact ⟨rfl,this.1,this.2⟩
  ·unfold NumTo;rw [if_pos rfl];refine ⟨rfl,rfl,?_⟩;simp
 split at h
 ·rename_i hc;cases h
  rcases List.eq_nil_or_concat op with rfl | ⟨o,y,rfl⟩
  ·simp at hc
  ·rw [List.concat_eq_append] at ho ⊢;have hy:=ho y yW;have e1:(o++[y]).getLastD ⟨0,⟨#[]⟩,0⟩=y:=(by simp [List.getLastD_eq_getLast?]);have e2:(o++[y]).dropLast=o:=yW;rw [e1,e2];have:=X9j y.t hy.2.1 hy.2.2;refine ⟨Or.inr (Or.inr (Or.inr ⟨rfl,this.1,this.2⟩)),fun z hz=>ho z (by simp [hz]),?_⟩;unfold NumTo;rw [if_neg (by show ¬ (3:Int)=2;decide),if_neg (by show ¬ (3:Int)=4;decide),if_pos rfl];exact ⟨y,o.reverse,by simp,rfl,rfl,rfl,rfl⟩
 ·cases h
  refine ⟨Or.inl rfl,ho,?_⟩;unfold NumTo;rw [if_neg (by show ¬ (1:Int)=2;decide),if_neg (by show ¬ (1:Int)=4;decide),if_neg (by show ¬ (1:Int)=3;decide)];exact ⟨rfl,rfl⟩
theorem FGN.step (tags:Bool) (L:List Int) (s:FS) (h:FGN s):FGN (C7 tags L s):=by
 obtain ⟨f,op,id,N⟩:=s;obtain ⟨h1,h2,h3⟩:=h;simp only at h1 h2 h3;unfold C7;simp only
 generalize D0 L N 3=ln;obtain ⟨t,M⟩:=ln;simp only
 generalize hx:U8 tags L (X0 L M 8) t op id (M+1)=x;obtain ⟨x,op',id',M'⟩:=x;obtain ⟨q1,q2,q3⟩:=Z4y tags L _ t op id (M+1) h2 x op' id' M' hx;refine ⟨Z4z _ fun y hy=>?_,q2,?_⟩
 ·rcases List.mem_append.1 hy with hy | hy
  ·exact h1 y hy
  ·rw [List.mem_singleton.1 hy];exact q1
 ·show NumTo (Q9 (f++[x])) 0 [] id' op'.reverse;rw [NumTo.tags,Q9g,←NumTo.tags];exact NumTo.app h3 q3
theorem X3n (tags:Bool) (L:List Int):∀ i s,FGN s→FGN (G4 tags L i s)
 | 0,_,h=>h
 | i+1,s,h=>X3n tags L i _ (FGN.step tags L s h)
theorem X9d:∀ (op:List Tk) (c:Nat),NumTo (op.map fun y=>(⟨3,J8 y.t,y.d⟩:Tk)) c op c []
 | [],_=>⟨rfl,rfl⟩
 | y::op,c=>by
   rw [List.map_cons];unfold NumTo;rw [if_neg (by show ¬ (3:Int)=2;decide),if_neg (by show ¬ (3:Int)=4;decide),if_pos rfl];exact ⟨y,op,rfl,rfl,rfl,X9d op c⟩
theorem Q9s:∀ (f g:List Tk),Normal f→(∀ x∈g,x.k≠1)→Normal (f++g)
 | f,[],h,_=>by rw [List.append_nil];exact h
 | f,x::g,h,hg=>by
   have e:f++x::g=(f++[x])++g:=yW;rw [e];exact Q9s _ g (Normal.snoc_other f x h (hg x yW)) (fun y hy=>hg y (by simp [hy]))
theorem Q5t (tags:Bool) (L:List Int) (N n:Nat) (hn:n≤8):Normal (U3 tags L N n).1∧(∀ x∈(U3 tags L N n).1,N0 x)∧NumOk (U3 tags L N n).1 0 []∧(U3 tags L N n).1.length≤16∧X2 (U3 tags L N n).1≤160∧(U3 tags L N n).2≤N+1+9 * 8:=by
 have hb:=X7 L N ((n:Int)+1) yY;obtain ⟨h,hN⟩:=Q8q tags L (X0 L N ((n:Int)+1)).toNat ⟨[],[],0,N+1⟩ 0 (Q7f tags (N+1));have hg:=X3n tags L (X0 L N ((n:Int)+1)).toNat ⟨[],[],0,N+1⟩ ⟨fun x hx=>by simp at hx,fun x hx=>by simp at hx,⟨rfl,rfl⟩⟩;have hl:=h.len;have hd:=h.bytes;have hf:=h.oplen;have e:U3 tags L N n=((G4 tags L (X0 L N ((n:Int)+1)).toNat ⟨[],[],0,N+1⟩).f++F9 (G4 tags L (X0 L N ((n:Int)+1)).toNat ⟨[],[],0,N+1⟩).op,(G4 tags L (X0 L N ((n:Int)+1)).toNat ⟨[],[],0,N+1⟩).N):=rfl;rw [e];simp only at hN;have hh:=(X0 L N ((n:Int)+1)).toNat;generalize hs:G4 tags L (X0 L N ((n:Int)+1)).toNat ⟨[],[],0,N+1⟩=s at h hN hg hl hd hf;have hc:(F9 s.op).length=s.op.length:=(by unfold F9;simp);have ha:∀ x∈F9 s.op,x.k=3:=fun x hx=>by
  unfold F9 at hx;obtain ⟨y,_,rfl⟩:=List.mem_map.1 hx;rfl
 have he:X2 (F9 s.op)=(F9 s.op).length:=by
  have:∀ l:List Tk,(∀ x∈l,x.k=3)→X2 l=l.length:=fun l=>by
   induction l with
   | nil=>intro _;rfl
   | cons x l ih=>
     intro h;rw [X2,ih (fun y hy=>h y (by simp [hy])),List.length_cons];have:wdI x=1:=(by unfold wdI;rw [if_neg (by have:=h x yW;omega)]);omega
  exact this _ ha
 refine ⟨Q9s _ _ h.normal (fun x hx=>by have:=ha x hx;omega),fun x hx=>?_,?_,?_,?_,?_⟩
 ·rcases List.mem_append.1 hx with hx | hx
  ·exact hg.items x hx
  ·unfold F9 at hx;obtain ⟨y,hy,rfl⟩:=List.mem_map.1 hx;have ho:=hg.opens y (by simpa using hy);have:=X9j y.t ho.2.1 ho.2.2;exact Or.inr (Or.inr (Or.inr ⟨rfl,this.1,this.2⟩))
 ·exact NumTo.ok (hg.num.app (X9d s.op.reverse s.id))
 ·show (s.f++F9 s.op).length≤16;rw [List.length_append,hc];omega
 ·show X2 (s.f++F9 s.op)≤160;have:=X3h s.f;rw [Q0q,he,hc];omega
 ·show s.N≤_;omega
def N8:List UInt8→Nat
 | []=>0
 | [c]=>if c=10 then 0 else if c=92 then 2 else 1
 | c::d::l=>if c=10 then 0 else if c=92 then 2+N8 l else 1+N8 (d::l)
theorem X9p (l:List UInt8):N8 (10::l)=0:=by
 cases l with
 | nil=>rfl
 | cons d l=>rw [N8,if_pos rfl]
theorem Y4h (c:UInt8) (l:List UInt8) (h1:c≠10) (h2:c≠92):N8 (c::l)=1+N8 l:=by
 cases l with
 | nil=>
   show (if c=10 then 0 else if c=92 then 2 else 1)=1;rw [if_neg h1,if_neg h2]
 | cons d l=>rw [N8,if_neg h1,if_neg h2]
theorem X5s (d:UInt8) (l:List UInt8):N8 (92::d::l)=2+N8 l:=by rw [N8,if_neg yX,if_pos rfl]
theorem Q9z:∀ (r l:List UInt8),(∀ c∈r,c≠10∧c≠92)→N8 (r++l)=r.length+N8 l
 | [],l,_=>by simp
 | c::r,l,h=>by
   rw [List.cons_append,Y4h c _ (h c yW).1 (h c yW).2,Q9z r l (fun b hb=>h b (by simp [hb])),List.length_cons];omega
theorem Y2a (l:List UInt8) (h:V8 l=true) (c:UInt8) (hc:c=10∨c=92∨c=34):∀ b∈l,b≠c:=by
 intro b hb e;have hh:=X6p l h b hb;rw [e] at hh;rcases hc with rfl | rfl | rfl<;>revert hh<;>decide
theorem V3k (r:List UInt8) (x:Option Tk) (l:List UInt8) (h:ElOk 2 r x):N8 (r++l)=r.length+N8 l:=by
 generalize hf:(2:Int)=fmt at h;cases h with
 | slot _ n hn=>
   refine Q9z _ l fun b hb=>?_;rw [List.mem_append,List.mem_cons] at hb;rcases hb with (rfl | hb) | hb
   ·decide
   ·exact ⟨Y2a n hn 10 yW b hb,Y2a n hn 92 yW b hb⟩
   ·rw [List.mem_singleton.1 hb];decide
 | ch2 c hc=>exact Q9z [c] l fun b hb=>by rw [List.mem_singleton.1 hb];exact ⟨hc.1,hc.2.1⟩
 | esc e c he=>exact X5s e l
 | cont b hb=>
   show N8 (92::10::(b++l))=_;rw [X5s,Q9z b l (fun c hc=>by rcases hb c hc with rfl | rfl<;>decide),List.length_cons,List.length_cons];omega
 | ch1 c hc=>cases hf
 | ref r c hr=>cases hf
 | opn t d ht hb=>cases hf
 | cls t d ht hb=>cases hf
 | emp t d ht hb=>cases hf
 | ch3 c hc=>cases hf
 | two c hc=>cases hf
theorem X5r (l:List UInt8):∀ (ts:Els),(∀ e∈ts,ElOk 2 e.1 e.2)→N8 (Q2 ts++10::l)=(Q2 ts).length
 | [],_=>X9p l
 | (r,x)::ts,h=>by
   rw [show Q2 ((r,x)::ts)=r++Q2 ts from rfl,List.append_assoc,V3k r x _ (h (r,x) yW),X5r l ts (fun e he=>h e (by simp [he])),List.length_append]
def L3:List UInt8→Nat
 | []=>0
 | [c]=>if c=34 then 0 else 1
 | c::d::l=>if c=34 then (if d=34 then 2+L3 l else 0) else 1+L3 (d::l)
theorem Y4e (c:UInt8) (l:List UInt8) (h:c≠34):L3 (c::l)=1+L3 l:=by
 cases l with
 | nil=>
   show (if c=34 then 0 else 1)=1;rw [if_neg h]
 | cons d l=>rw [L3,if_neg h]
theorem Y4g (l:List UInt8):L3 (34::34::l)=2+L3 l:=by rw [L3,if_pos rfl,if_pos rfl]
theorem X1z (l:List UInt8) (h:l.head? ≠some 34):L3 (34::l)=0:=by
 cases l with
 | nil=>rfl
 | cons d l=>rw [L3,if_pos rfl,if_neg (fun e=>h (by rw [e];rfl))]
theorem Q5q:∀ (r l:List UInt8),(∀ c∈r,c≠34)→L3 (r++l)=r.length+L3 l
 | [],l,_=>by simp
 | c::r,l,h=>by
   rw [List.cons_append,Y4e c _ (h c yW),Q5q r l (fun b hb=>h b (by simp [hb])),List.length_cons];omega
theorem V3j (r:List UInt8) (x:Option Tk) (l:List UInt8) (h:ElOk 3 r x):L3 (r++l)=r.length+L3 l:=by
 generalize hf:(3:Int)=fmt at h;cases h with
 | slot _ n hn=>
   refine Q5q _ l fun b hb=>?_;rw [List.mem_append,List.mem_cons] at hb;rcases hb with (rfl | hb) | hb
   ·decide
   ·exact Y2a n hn 34 yW b hb
   ·rw [List.mem_singleton.1 hb];decide
 | ch3 c hc=>exact Q5q [c] l fun b hb=>by rw [List.mem_singleton.1 hb];exact hc.1
 | two c hc=>
   rcases hc with rfl | rfl
   ·exact Y4g l
   ·exact Q5q [123,123] l fun b hb=>by
     simp at hb;rw [hb];decide
 | ch1 c hc=>cases hf
 | ref r c hr=>cases hf
 | opn t d ht hb=>cases hf
 | cls t d ht hb=>cases hf
 | emp t d ht hb=>cases hf
 | ch2 c hc=>cases hf
 | esc e c he=>cases hf
 | cont b hb=>cases hf
theorem Y4f (l:List UInt8) (hl:l.head? ≠some 34):∀ (ts:Els),(∀ e∈ts,ElOk 3 e.1 e.2)→L3 (Q2 ts++34::l)=(Q2 ts).length
 | [],_=>X1z l hl
 | (r,x)::ts,h=>by
   rw [show Q2 ((r,x)::ts)=r++Q2 ts from rfl,List.append_assoc,V3j r x _ (h (r,x) yW),Y4f l hl ts (fun e he=>h e (by simp [he])),List.length_append]
def X8i:List (List UInt8):=[[],[32],[9,32]]
def elS (fmt:Int) (L:List Int) (x:Tk) (N:Nat):Els×Nat:=
 if X0 L N 3=0 then
  if fmt=1∧x.k=1∧x.t.data.toList=[62] then ([([38,103,116,59],some x)],N+1)
  else if fmt=1∧x.k=1∧x.t.data.toList=[125] then ([([38,114,98,59],some x)],N+1)
  else if fmt=2∧x.k=1∧x.t.data.toList=[32] then ([([92,115],some x)],N+1)
  else if fmt=2 then ([(92::10::X8i.getD (X0 L (N+1) 3).toNat [],none),(V3 fmt x,some x)],N+2)
  else ([(V3 fmt x,some x)],N+1)
 else ([(V3 fmt x,some x)],N+1)
def V0 (fmt:Int) (L:List Int):List Tk→Nat→Els×Nat
 | [],N=>([],N)
 | x::u,N=>((elS fmt L x N).1++(V0 fmt L u (elS fmt L x N).2).1,(V0 fmt L u (elS fmt L x N).2).2)
theorem V3f (fmt:Int) (L:List Int) (x:Tk) (N:Nat):X1 (elS fmt L x N).1=[x]:=by
 unfold elS;repeat (first | rfl | split)
theorem Q7t (fmt:Int) (L:List Int):∀ (u:List Tk) (N:Nat),X1 (V0 fmt L u N).1=u
 | [],_=>rfl
 | x::u,N=>by
   rw [V0,I6,V3f,Q7t fmt L u];rfl
theorem V9b (fmt:Int) (L:List Int) (x:Tk) (N:Nat):(elS fmt L x N).2≤N+2:=by
 unfold elS;repeat (first | (show N+1≤N+2;omega) | (show N+2≤N+2;omega) | split)
theorem Y2i (fmt:Int) (L:List Int):∀ (u:List Tk) (N:Nat),(V0 fmt L u N).2≤N+2 * u.length
 | [],N=>by show N≤N+2 * 0;omega
 | x::u,N=>by
   have h1:=V9b fmt L x N;have h2:=Y2i fmt L u (elS fmt L x N).2;rw [V0,List.length_cons];show (V0 fmt L u (elS fmt L x N).2).2≤_;omega
theorem Y8j (fmt:Int) (hf:fmt=1∨fmt=2∨fmt=3) (x:Tk) (ho:One x) (h:N0 x) (hp:fmt≠1→V5 x):ElOk fmt (V3 fmt x) (some x):=by
 obtain ⟨k,t,d⟩:=x;have slot:k=5→V8 t.data.toList=true→d=0→ElOk fmt (V3 fmt ⟨k,t,d⟩) (some ⟨k,t,d⟩):=fun h5 hn hd=>by
  subst h5 hd;have e:V3 fmt ⟨5,t,0⟩=123::t.data.toList++[125]:=by
   unfold V3;rw [if_neg (show ¬ (5:Int)=1 by decide),if_neg (show ¬ (5:Int)=2 by decide),if_neg (show ¬ (5:Int)=3 by decide),if_neg (show ¬ (5:Int)=4 by decide)]
  rw [e];have:=ElOk.slot fmt t.data.toList hn;rwa [Q8y] at this
 have text:k=1→ElOk fmt (V3 fmt ⟨k,t,d⟩) (some ⟨k,t,d⟩):=fun h1=>by
  obtain ⟨c,hc⟩:=ho h1;rw [hc,X4j];exact V6p fmt hf c
 by_cases h1f:fmt=1
 ·subst h1f;rcases h with h1 | ⟨h5,hn,hd⟩ | ⟨hk,hc,hb⟩ | ⟨hk,hc,hb⟩
  ·exact text h1
  ·exact slot h5 hn hd
  ·simp only at hk hc hb;rcases hk with rfl | rfl
   ·have e:V3 1 ⟨2,t,d⟩=60::t.data.toList++[62]:=by
     unfold V3;rw [if_neg (show ¬ (2:Int)=1 by decide),if_pos rfl]
    rw [e];have:=ElOk.opn t.data.toList d hc hb;rwa [Q8y] at this
   ·have e:V3 1 ⟨4,t,d⟩=60::t.data.toList++[47,62]:=by
     unfold V3;rw [if_neg (show ¬ (4:Int)=1 by decide),if_neg (show ¬ (4:Int)=2 by decide),if_neg (show ¬ (4:Int)=3 by decide),if_pos rfl]
    rw [e];have:=ElOk.emp t.data.toList d hc hb;rwa [Q8y] at this
  ·simp only at hk hc hb;subst hk;have e:V3 1 ⟨3,t,d⟩=60::47::t.data.toList++[62]:=by
    unfold V3;rw [if_neg (show ¬ (3:Int)=1 by decide),if_neg (show ¬ (3:Int)=2 by decide),if_pos rfl]
   rw [e];have:=ElOk.cls t.data.toList d hc hb;rwa [Q8y] at this
 ·rcases hp h1f with h1 | ⟨h5,hn,hd⟩
  ·exact text h1
  ·exact slot h5 hn hd
theorem V2u (k:Nat) (h:k < 3):∀ c∈X8i.getD k [],c=32∨c=9:=by
 rcases (show k=0∨k=1∨k=2 by omega) with rfl | rfl | rfl<;>decide
theorem X1y (x:Tk) (ho:One x) (hp:V5 x) (h32:¬ (x.k=1∧x.t.data.toList=[32])):(V3 2 x).head? ≠some 32∧(V3 2 x).head? ≠some 9:=by
 rcases hp with h1 | ⟨h5,_,_⟩
 ·obtain ⟨c,rfl⟩:=ho h1;have hc:c≠32:=fun e=>h32 ⟨rfl,by rw [e];rfl⟩;rw [X4j];unfold F5;rw [if_neg yX,if_pos rfl];by_cases h10:c=10
  ·rw [if_pos h10];decide
  ·rw [if_neg h10];by_cases h9:c=9
   ·rw [if_pos h9];decide
   ·rw [if_neg h9];by_cases h13:c=13
    ·rw [if_pos h13];decide
    ·rw [if_neg h13];by_cases h92:c=92
     ·rw [if_pos h92];decide
     ·rw [if_neg h92];by_cases h123:c=123
      ·rw [if_pos h123];decide
      ·rw [if_neg h123];exact ⟨fun e=>hc (by simpa using e),fun e=>h9 (by simpa using e)⟩
 ·obtain ⟨k,t,d⟩:=x;simp only at h5;subst h5;have e:V3 2 ⟨5,t,d⟩=123::t.data.toList++[125]:=by
   unfold V3;rw [if_neg (show ¬ (5:Int)=1 by decide),if_neg (show ¬ (5:Int)=2 by decide),if_neg (show ¬ (5:Int)=3 by decide),if_neg (show ¬ (5:Int)=4 by decide)]
  rw [e];exact ⟨by simp,by simp⟩
theorem V7c (fmt:Int) (hf:fmt=1∨fmt=2∨fmt=3) (L:List Int) (x:Tk) (N:Nat) (ho:One x) (h:N0 x) (hp:fmt≠1→V5 x):(∀ e∈(elS fmt L x N).1,ElOk fmt e.1 e.2)∧D4 (elS fmt L x N).1∧∃ p r y,(elS fmt L x N).1=p++[(r,some y)]:=by
 have he:=Y8j fmt hf x ho h hp;have one:∀ r,ElOk fmt r (some x)→(∀ e∈[(r,some x)],ElOk fmt e.1 e.2)∧D4 [(r,some x)]∧∃ p r' y,[(r,some x)]=p++[(r',some y)]:=fun r hr=>⟨fun e he=>by rw [List.mem_singleton.1 he];exact hr,trivial,[],r,x,rfl⟩;unfold elS;split
 ·split
  ·rename_i hx;obtain ⟨c,rfl⟩:=ho hx.2.1;have:c=62:=(by have:=hx.2.2;simpa [chI] using this);subst this;have ha:=hx.1;subst ha;exact one _ (ElOk.ref _ _ yX)
  ·split
   ·rename_i hx;obtain ⟨c,rfl⟩:=ho hx.2.1;have:c=125:=(by have:=hx.2.2;simpa [chI] using this);subst this;have ha:=hx.1;subst ha;exact one _ (ElOk.ref _ _ yX)
   ·split
    ·rename_i hx;obtain ⟨c,rfl⟩:=ho hx.2.1;have:c=32:=(by have:=hx.2.2;simpa [chI] using this);subst this;have ha:=hx.1;subst ha;exact one _ (ElOk.esc _ _ yX)
    ·rename_i h32;split
     ·rename_i hf2;subst hf2;have hb:=X7 L (N+1) 3 yX;refine ⟨fun e hc=>?_,⟨fun _=>X1y x ho (hp yX) (fun hh=>h32 ⟨rfl,hh⟩),trivial⟩,[_],_,x,rfl⟩;rcases List.mem_cons.1 hc with rfl | hc
      ·exact ElOk.cont _ (V2u _ yY)
      ·rw [List.mem_singleton.1 hc];exact he
     ·exact one _ he
 ·exact one _ he
theorem Q6x:∀ (a b:Els) (r:List UInt8) (y:Tk),D4 (a++[(r,some y)])→D4 b→D4 ((a++[(r,some y)])++b)
 | [],[],r,y,_,_=>trivial
 | [],(r',z)::b,r,y,_,hb=>⟨fun h=>(by cases h),hb⟩
 | [(r1,x1)],b,r,y,ha,hb=>by
   have h1:=Q6x [] b r y trivial hb;exact ⟨ha.1,h1⟩
 | (r1,x1)::(r2,x2)::a,b,r,y,ha,hb=>by
   have h1:=Q6x ((r2,x2)::a) b r y ha.2 hb;exact ⟨ha.1,h1⟩
theorem Y0g (fmt:Int) (hf:fmt=1∨fmt=2∨fmt=3) (L:List Int):∀ (u:List Tk) (N:Nat),(∀ x∈u,One x∧N0 x∧(fmt≠1→V5 x))→(∀ e∈(V0 fmt L u N).1,ElOk fmt e.1 e.2)∧D4 (V0 fmt L u N).1
 | [],_,_=>⟨fun e he=>by simp [V0] at he,trivial⟩
 | x::u,N,h=>by
   obtain ⟨h1,h2,h3⟩:=h x yW;obtain ⟨g1,g2,p,r,y,g3⟩:=V7c fmt hf L x N h1 h2 h3;obtain ⟨i1,i2⟩:=Y0g fmt hf L u (elS fmt L x N).2 (fun z hz=>h z (by simp [hz]));rw [V0];refine ⟨fun e he=>?_,?_⟩
   ·rcases List.mem_append.1 he with he | he
    ·exact g1 e he
    ·exact i1 e he
   ·show D4 ((elS fmt L x N).1++_);rw [g3] at g2 ⊢;exact Q6x p _ r y g2 i2
theorem V0w (fmt:Int) (hf:fmt=1∨fmt=2∨fmt=3) (L:List Int) (f:List Tk) (N:Nat) (h:∀ x∈f,N0 x∧(fmt≠1→V5 x)) (hn:NumOk (Y2 f) 0 []) (hl:X2 f≤500):RawOk fmt (V0 fmt L (Y2 f) N).1:=by
 have hu:∀ x∈Y2 f,One x∧N0 x∧(fmt≠1→V5 x):=fun x hx=>by
  refine ⟨C6 f x hx,?_⟩;obtain ⟨y,hy,ha⟩:=List.mem_flatMap.1 hx;unfold L4 at ha;split at ha
  ·obtain ⟨c,_,rfl⟩:=List.mem_map.1 ha;exact ⟨Or.inl rfl,fun _=>Or.inl rfl⟩
  ·rw [List.mem_singleton.1 ha];exact h y hy
 obtain ⟨a,b⟩:=Y0g fmt hf L (Y2 f) N hu;exact ⟨a,b,by rw [Q7t];exact hn,by rw [Q7t,D6];exact hl⟩
def E8 (fmt:Int) (L:List Int) (N:Nat):Els×Nat:=V0 fmt L (Y2 (U3 (decide (fmt=1)) L N ((5:Nat):Int)).1) (U3 (decide (fmt=1)) L N ((5:Nat):Int)).2
def Q0z (k:Nat):List UInt8:=[UInt8.ofNat (48+k)]
def Q2t:List (List UInt8):=[wP,wLi,X3g]
def Q3h:List (List UInt8):=[[],[32,99,61,34,49,34]]
def Q8f:List (List MK):=[[],[.byte 10],[.tag [104,114,47]]]
def X4e:List (List MK):=[[],[.tag [104,116,109,108]],[.note,.byte 120]]
def X2n (L:List Int):Nat→Nat→List MK→Nat→List MK×Nat
 | 0,_,ms,N=>(ms,N)
 | i+1,k,ms,N=>
   let u:=E8 1 L N
   X2n L i (k+1) (ms++(.blk (Q2t.getD (X0 L u.2 3).toNat []++Q3h.getD (X0 L (u.2+1) 2).toNat []) (Q0z (k+1)) u.1::Q8f.getD (X0 L (u.2+2) 3).toNat [])) (u.2+3)
def Q9f:List (List RL):=[[],[.skip [35,120]],[.skip []]]
def X6z:List (List RL):=[[],[.skip [35,32,99]],[.skip [],.skip [32]]]
def X7j (L:List Int):Nat→List RL→Nat→List RL×Nat
 | 0,ls,N=>(ls,N)
 | i+1,ls,N=>
   let u:=E8 2 L N
   X7j L i (ls++(.unit (107::Q0z (i+1)) u.1::Q9f.getD (X0 L u.2 3).toNat [])) (u.2+1)
def hdA:List (List Fl):=[[],[.bare [105,100]],[.quo [97,44,98]]]
def hdB:List (List Fl):=[[],[],[.bare [99]]]
def rcA:List (List Fl):=[[],[.bare [55]],[.bare [120]]]
def rcB:List (List Fl):=[[],[],[.quo [121]]]
def X2u (L:List Int) (h:Nat):Nat→Nat→List Rc→Nat→List Rc×Nat
 | 0,_,rs,N=>(rs,N)
 | i+1,k,rs,N=>
   let u:=E8 3 L N
   X2u L h i (k+1) (rs++[⟨rcA.getD h [],Q0z (k+1),u.1,rcB.getD h []⟩]) u.2
theorem Q0x (fmt:Int) (hf:fmt=1∨fmt=2∨fmt=3) (L:List Int) (N:Nat):RawOk fmt (E8 fmt L N).1∧X1 (E8 fmt L N).1=Y2 (U3 (decide (fmt=1)) L N ((5:Nat):Int)).1∧(E8 fmt L N).2≤N+500:=by
 obtain ⟨h1,h2,h3,h4,h5,h6⟩:=Q5t (decide (fmt=1)) L N 5 yX;have hp:fmt≠1→∀ x∈(U3 (decide (fmt=1)) L N ((5:Nat):Int)).1,V5 x:=fun ha=>by
  have e:decide (fmt=1)=false:=(by simpa using ha);rw [e];exact (X3o L N 5 yX).2.1
 have hn:=Y2i fmt L (Y2 (U3 (decide (fmt=1)) L N ((5:Nat):Int)).1) (U3 (decide (fmt=1)) L N ((5:Nat):Int)).2;rw [D6] at hn;refine ⟨V0w fmt hf L _ _ (fun x hx=>⟨h2 x hx,fun ha=>hp ha x hx⟩) (Z5r _ h3) yY,Q7t fmt L _ _,?_⟩;unfold E8;omega
theorem Y5p (k:Nat) (h:k < 3) (j:Nat) (hj:j < 2):N5 (Q2t.getD k []++Q3h.getD j [])=true∧J4 (Z1 (Q2t.getD k []++Q3h.getD j []))=true∧Z1 (Q2t.getD k []++Q3h.getD j [])=Q2t.getD k []:=by
 rcases (show k=0∨k=1∨k=2 by omega) with rfl | rfl | rfl<;>rcases (show j=0∨j=1 by omega) with rfl | rfl<;>decide
theorem V9j:V2j [104,114,47]:=Or.inr ⟨[104,114],rfl,yX,yX⟩
theorem V3w:V2j [104,116,109,108]:=Or.inl ⟨yX,yX⟩
theorem Y2u (k:Nat) (h:k < 3):∀ m∈Q8f.getD k [],X8f m∧∀ t key ts,m≠.blk t key ts:=by
 intro m hm;rcases (show k=0∨k=1∨k=2 by omega) with rfl | rfl | rfl
 ·simp [Q8f] at hm
 ·have:m=.byte 10:=(by simpa [Q8f] using hm);subst this;exact ⟨by show (10:UInt8)≠60;decide,fun _ _ _ h=>by cases h⟩
 ·have:m=.tag [104,114,47]:=(by simpa [Q8f] using hm);subst this;exact ⟨V9j,fun _ _ _ h=>by cases h⟩
theorem Y2g (k:Nat) (h:k < 3):∀ m∈X4e.getD k [],X8f m∧∀ t key ts,m≠.blk t key ts:=by
 intro m hm;rcases (show k=0∨k=1∨k=2 by omega) with rfl | rfl | rfl
 ·simp [X4e] at hm
 ·have:m=.tag [104,116,109,108]:=(by simpa [X4e] using hm);subst this;exact ⟨V3w,fun _ _ _ h=>by cases h⟩
 ·have:m=.note∨m=.byte 120:=(by simpa [X4e] using hm);rcases this with rfl | rfl
  ·exact ⟨trivial,fun _ _ _ h=>by cases h⟩
  ·exact ⟨by show (120:UInt8)≠60;decide,fun _ _ _ h=>by cases h⟩
theorem Z2o (L:List Int):∀ (i k:Nat) (ms:List MK) (N:Nat),(∀ m∈ms,X8f m)→(∀ m∈(X2n L i k ms N).1,X8f m)∧(X2n L i k ms N).2≤N+503 * i
 | 0,_,ms,N,h=>⟨h,yQ⟩
 | i+1,k,ms,N,h=>by
   obtain ⟨u1,_,u3⟩:=Q0x 1 (Or.inl rfl) L N;rw [X2n];generalize E8 1 L N=u at u1 u3;have ha:=X7 L u.2 3 yX;have hb:=X7 L (u.2+1) 2 yX;have hc:=X7 L (u.2+2) 3 yX;obtain ⟨c1,c2,_⟩:=Y5p (X0 L u.2 3).toNat yY (X0 L (u.2+1) 2).toNat yY;have hs:=Y2u (X0 L (u.2+2) 3).toNat yY;obtain ⟨r1,r2⟩:=Z2o L i (k+1) (ms++(.blk (Q2t.getD (X0 L u.2 3).toNat []++Q3h.getD (X0 L (u.2+1) 2).toNat []) (Q0z (k+1)) u.1::Q8f.getD (X0 L (u.2+2) 3).toNat [])) (u.2+3) (fun m hm=>by
    rcases List.mem_append.1 hm with hm | hm
    ·exact h m hm
    ·rcases List.mem_cons.1 hm with rfl | hm
     ·exact ⟨c1,c2,u1⟩
     ·exact (hs m hm).1)
   exact ⟨r1,Nat.le_trans r2 yY⟩
theorem Z3p (k:Nat) (h:k < 3):(∀ m∈Q9f.getD k [],X8g m)∧Y8 (Q9f.getD k [])=[]:=by
 have sk:∀ l:List UInt8,(∀ c∈l,c≠10)→Q5h l=true→X8g (.skip l):=fun l a b=>⟨a,b⟩;rcases (show k=0∨k=1∨k=2 by omega) with rfl | rfl | rfl
 ·exact ⟨fun m hm=>by simp [Q9f] at hm,rfl⟩
 ·refine ⟨fun m hm=>?_,rfl⟩;have:m=.skip [35,120]:=(by simpa [Q9f] using hm);rw [this];exact sk _ yX yX
 ·refine ⟨fun m hm=>?_,rfl⟩;have:m=.skip []:=(by simpa [Q9f] using hm);rw [this];exact sk _ yX yX
theorem Z2w (k:Nat) (h:k < 3):(∀ m∈X6z.getD k [],X8g m)∧Y8 (X6z.getD k [])=[]:=by
 have sk:∀ l:List UInt8,(∀ c∈l,c≠10)→Q5h l=true→X8g (.skip l):=fun l a b=>⟨a,b⟩;rcases (show k=0∨k=1∨k=2 by omega) with rfl | rfl | rfl
 ·exact ⟨fun m hm=>by simp [X6z] at hm,rfl⟩
 ·refine ⟨fun m hm=>?_,rfl⟩;have:m=.skip [35,32,99]:=(by simpa [X6z] using hm);rw [this];exact sk _ yX yX
 ·refine ⟨fun m hm=>?_,rfl⟩;have:m=.skip []∨m=.skip [32]:=(by simpa [X6z] using hm);rcases this with e | e
  ·rw [e];exact sk _ yX yX
  ·rw [e];exact sk _ yX yX
theorem T9 (a b:List RL):Y8 (a++b)=Y8 a++Y8 b:=by simp [Y8]
def X6d:Nat→List (List UInt8)
 | 0=>[]
 | i+1=>(107::Q0z (i+1))::X6d i
theorem V4a (i:Nat) (h:i < 9):1≤(107::Q0z (i+1)).length∧(107::Q0z (i+1)).length≤64∧(∀ c∈107::Q0z (i+1),Q0p c=true):=by
 rcases (show i=0∨i=1∨i=2∨i=3∨i=4∨i=5∨i=6∨i=7∨i=8 by omega) with rfl | rfl | rfl | rfl | rfl | rfl | rfl | rfl | rfl<;>decide
theorem Z3f (L:List Int):∀ (i:Nat) (ls:List RL) (N:Nat),i≤9→(∀ m∈ls,X8g m)→(∀ m∈(X7j L i ls N).1,X8g m)∧Y8 (X7j L i ls N).1=Y8 ls++X6d i∧(X7j L i ls N).2≤N+503 * i
 | 0,ls,N,_,h=>⟨h,(List.append_nil _).symm,yQ⟩
 | i+1,ls,N,hi,h=>by
   obtain ⟨u1,_,u3⟩:=Q0x 2 (Or.inr (Or.inl rfl)) L N;rw [X7j];generalize E8 2 L N=u at u1 u3;have ha:=X7 L u.2 3 yX;obtain ⟨s1,s2⟩:=Z3p (X0 L u.2 3).toNat yY;obtain ⟨k1,k2,k3⟩:=V4a i yY;obtain ⟨r1,r2,r3⟩:=Z3f L i (ls++(.unit (107::Q0z (i+1)) u.1::Q9f.getD (X0 L u.2 3).toNat [])) (u.2+1) yY (fun m hm=>by
    rcases List.mem_append.1 hm with hm | hm
    ·exact h m hm
    ·rcases List.mem_cons.1 hm with rfl | hm
     ·exact ⟨k1,k2,k3,u1⟩
     ·exact s1 m hm)
   refine ⟨r1,?_,Nat.le_trans r3 yY⟩;rw [r2,T9];show Y8 ls++((107::Q0z (i+1))::Y8 (Q9f.getD _ []))++X6d i=_;rw [s2,X6d];simp
def V8s (h:Nat) (r:Rc):Prop:=r.pre=rcA.getD h []∧r.post=rcB.getD h []∧RawOk 3 r.ts
theorem Z3l (L:List Int) (h:Nat):∀ (i k:Nat) (rs:List Rc) (N:Nat),(∀ r∈rs,V8s h r)→(∀ r∈(X2u L h i k rs N).1,V8s h r)∧(X2u L h i k rs N).2≤N+503 * i
 | 0,_,rs,N,hr=>⟨hr,yQ⟩
 | i+1,k,rs,N,hr=>by
   obtain ⟨u1,_,u3⟩:=Q0x 3 (Or.inr (Or.inr rfl)) L N;rw [X2u];generalize E8 3 L N=u at u1 u3;obtain ⟨r1,r2⟩:=Z3l L h i (k+1) (rs++[⟨rcA.getD h [],Q0z (k+1),u.1,rcB.getD h []⟩]) u.2 (fun r hm=>by
    rcases List.mem_append.1 hm with hm | hm
    ·exact hr r hm
    ·rw [List.mem_singleton.1 hm];exact ⟨rfl,rfl,u1⟩)
   exact ⟨r1,Nat.le_trans r2 yY⟩
theorem Z9m (l r:List UInt8) (h:∀ c∈l,c≠10):Lib.index (l++10::r) [10]=(l.length:Int):=by
 have:=X0h [10] (10::r) 0 (by rw [Lib.index,if_pos (by rw [List.isPrefixOf_iff_prefix];exact ⟨r,rfl⟩)];rfl) l (fun i hi=>by
  obtain ⟨q,hq⟩:=Y1p l (10::r) i hi;rw [hq];exact H5 _ _ _ _ (fun e=>h _ (List.getElem_mem hi) e.symm))
 rw [this];simp
def lnR (l:List UInt8):List UInt8:=(Lib.cut l [10]).1
theorem Y9b (l r:List UInt8) (h:∀ c∈l,c≠10):lnR (l++10::r)=l:=by
 unfold lnR Lib.cut;rw [Z9m l r h,if_pos yY];show (l++10::r).take ((l.length:Int)).toNat=l;rw [Int.toNat_natCast,List.take_left]
theorem Y5f (c:UInt8) (l:List UInt8) (h:c≠10):lnR (c::l)=c::lnR l:=by
 have hi:Lib.index (c::l) [10]=if Lib.index l [10]==-1 then -1 else Lib.index l [10]+1:=by
  rw [Lib.index,if_neg (by rw [H5 10 c [] l (fun e=>h e.symm)];decide)]
 have hg:=Y4x l [10];by_cases h1:Lib.index l [10]=-1
 ·rw [if_pos (by rw [h1];rfl)] at hi;unfold lnR Lib.cut;rw [hi,h1];rfl
 ·rw [if_neg (by simpa using h1)] at hi;have e:(Lib.index l [10]+1).toNat=(Lib.index l [10]).toNat+1:=yY;unfold lnR Lib.cut;rw [hi,if_pos (show 0≤Lib.index l [10]+1 by omega),if_pos (show 0≤Lib.index l [10] by omega)];show (c::l).take (Lib.index l [10]+1).toNat=c::l.take (Lib.index l [10]).toNat;rw [e,List.take_succ_cons]
theorem Z9w:∀ (a r:List UInt8),(lnR (a++10::r)).length≤a.length
 | [],r=>by rw [Y9b [] r yW];exact yQ
 | c::a,r=>by
   by_cases h:c=10
   ·subst h;rw [show (10::a)++10::r=[]++10::(a++10::r) from rfl,Y9b [] _ yW];exact Nat.zero_le _
   ·rw [List.cons_append,Y5f c _ h,List.length_cons,List.length_cons];have:=Z9w a r;omega
theorem Z2h (c:UInt8) (h:Q0p c=true):c≠10∧c≠32∧c≠9∧c≠35∧c≠61:=by
 refine ⟨?_,?_,?_,?_,?_⟩<;>(intro e;rw [e] at h;revert h;decide)
theorem Z9j (c:UInt8) (l:List UInt8) (h:Q0p c=true):Q5h (lnR (c::l))=false:=by
 obtain ⟨h1,h2,h3,h4,_⟩:=Z2h c h;rw [Y5f c l h1];unfold Q5h;have:Q2l c=false:=(by unfold Q2l;simp [h2,h3]);rw [List.dropWhile_cons,if_neg (by simp [this])];simpa using h4
theorem Z4i (p:UInt8→Bool) (l:List UInt8):(l.dropWhile p).length≤l.length:=by
 induction l with
 | nil=>exact yQ
 | cons c l ih=>
   rw [List.dropWhile_cons];split
   ·rw [List.length_cons];omega
   ·exact yQ
theorem Z9k (l:List UInt8) (h:l.dropWhile Q2l=[]):Q5h l=true:=by unfold Q5h;rw [h]
theorem X9u (l:List UInt8) (c:UInt8) (r:List UInt8) (h:l.dropWhile Q2l=c::r):Q5h l=(c==35):=by unfold Q5h;rw [h]
def Q5w:Nat→List UInt8→Nat
 | 0,_=>0
 | _+1,[]=>0
 | n+1,c::l=>if Q0p c=true then Q5w n l+1 else 0
theorem Z2i:∀ (n:Nat) (k r:List UInt8),k.length < n→(∀ c∈k,Q0p c=true)→Q5w n (k++61::r)=k.length
 | n+1,[],r,_,_=>by
   rw [List.nil_append,Q5w,if_neg yX];rfl
 | n+1,c::k,r,hn,h=>by
   rw [List.cons_append,Q5w,if_pos (h c yW),Z2i n k r (by simpa using hn) (fun d hd=>h d (by simp [hd])),List.length_cons]
/-! ### The file -/
def X4 (ls:List RL):List UInt8:=ls.flatMap K7
theorem X0y (a b:List RL):X4 (a++b)=X4 a++X4 b:=by simp [X4]
theorem Q5c (ls:List RL) (x:RL):Y0 (ls++[x])=L7 (Y0 ls) x:=by
 unfold Y0;rw [List.foldl_append];rfl
theorem Y8w (ls:List RL) (l:List UInt8):Y8 (ls++[.skip l])=Y8 ls:=by rw [T9];exact List.append_nil _
theorem Y8x (ls:List RL) (k:List UInt8) (ts:Els):Y8 (ls++[.unit k ts])=Y8 ls++[k]:=by rw [T9];rfl
theorem Q0c (ls:List RL):(Y0 ls).1.length=(Y8 ls).length:=by
 suffices h:∀ (ls:List RL) (st:List Un×List UInt8),(ls.foldl L7 st).1.length=st.1.length+(Y8 ls).length by
  have:=h ls ([],[]);unfold Y0;simpa using this
 intro ls;induction ls with
 | nil=>intro st;rfl
 | cons x ls ih=>
   intro st;rw [List.foldl_cons,ih];cases x with
   | skip l=>rfl
   | unit k ts=>
     show (st.1++[_]).length+_=st.1.length+((k::Y8 ls).length);rw [List.length_append,List.length_cons];simp;omega
theorem Q0a (ls:List RL):X4 ls=Z2 (Y0 ls).1++(Y0 ls).2:=by
 have:=X3e ls ([],[]);rw [show Z2 ([]:List Un)=[] from rfl,List.nil_append,List.nil_append] at this;exact this.symm
theorem Y5a (dn:List RL) (k:List UInt8) (ts:Els) (td:List RL) (h:(Y8 (dn++.unit k ts::td)).Nodup):((Y8 dn).any fun x=>x==k)=false:=by
 rw [T9,show Y8 (.unit k ts::td)=k::Y8 td from rfl] at h;rw [List.nodup_append] at h;rw [List.any_eq_false];intro x hx;have:=h.2.2 x hx k yW;simpa using this
end Go.Proofs.YtfkojnofbpdjdaaGreatDoor
namespace Go.Proofs.YtfkojnofbpdjdaaGreatDoor
open Go.RowKit
theorem X4k {a:Act} {w:World} {o:Oper} (x:Operand) (s:ByteArray) (ho:o.op=.call { callee:=.builtin .len,args:=#[x],argTypes:=#[9] }) (hx:a.eval x=.string s):(execOp a.eval o).run Tryz.prog w=.ok (.value (.int .i64 s.size)) w:=by
 generalize a.eval=ρ at hx ⊢;unfold execOp;simp only [ho];go_simp
theorem Z8t {a:Act} {w:World} {o:Oper} (x y:Operand) (n m:Int) (ho:o.op=.call { callee:=.builtin .min,args:=#[x,y],argTypes:=#[3,3] }) (hx:a.eval x=.int .i64 n) (hy:a.eval y=.int .i64 m) (h:n≤m):(execOp a.eval o).run Tryz.prog w=.ok (.value (.int .i64 n)) w:=by
 generalize a.eval=ρ at hx hy ⊢;unfold execOp;simp only [ho];go_simp;omega
theorem X5t {P:Program} {w:World} {a:Act} {o:Oper} {f:FuncId} (x y z u:Operand) (ts:Array TypeId) (vx vy vz vu:Value) (ho:o.op=.call { callee:=.value (.func f),args:=#[x,y,z,u],argTypes:=ts }) (hx:a.eval x=vx) (hy:a.eval y=vy) (hz:a.eval z=vz) (hu:a.eval u=vu) (he:(callFunc f #[vx,vy,vz,vu]).run P w=.ok (.enter f #[vx,vy,vz,vu]) w):(execOp a.eval o).run P w=.ok (.enter f #[vx,vy,vz,vu]) w:=by
 have hf:a.eval (.func f)=.func (.func f) #[] #[]:=rfl;generalize a.eval=ρ at hx hy hz hu hf ⊢;unfold execOp;simp only [ho];go_simp
theorem V9u (s:ByteArray) (w:World):Calls Tryz.prog 176 #[.string s,.string ⟨#[32,9]⟩] w fun e w'=>e=.returned (.string (ofL (s.data.toList.dropWhile Q2l)))∧Below w.heap.size w w':=by
 have h:=Any.strings_TrimLeft_laid Tryz.lays161 yZ s ⟨#[32,9]⟩ w yX (fun j b h=>by
  have h:=List.mem_of_getElem? h;have h:b=32∨b=9:=(by simpa using h);rcases h with rfl | rfl<;>decide)
 rw [show Lib.trimLeftS s.data.toList (⟨#[32,9]⟩:ByteArray).data.toList=s.data.toList.dropWhile Q2l by
  unfold Lib.trimLeftS;congr 1;funext c;rw [Bool.eq_iff_iff];simp [Q2l]] at h
 exact h
theorem V8v (l:List UInt8) (m:Int) (w:World) (hl:l.length≤65536) (hm:w.cell? ⟨0,0,none⟩=some (.int .i64 m)):
 Calls Tryz.prog 80 #[.string (ofL l),.string ⟨#[10]⟩] w fun e w'=>(∃ u b,e=.returned (.tuple #[.string (ofL (lnR l)),.string u,.bool b]))∧∃ n,w'=w.drewN n:=by
 refine (Tryz.strings_Cut (ofL l) ⟨#[10]⟩ m w (by rw [Q6];omega) hm).mono ?_;rintro e w' ⟨rfl,hn⟩;rw [show (ofL l).data.toList=l by simp [ofL]];exact ⟨⟨_,_,rfl⟩,hn⟩
theorem Z4k (l:List UInt8):(ofL l).toList.isEmpty=l.isEmpty:=by rw [B9]
theorem V2t (c:UInt8) (n:UInt8):((c.toNat:Int)==(n.toNat:Int))=(c==n):=by
 rw [Bool.eq_iff_iff,beq_iff_eq,beq_iff_eq];constructor
 ·intro h;exact UInt8.toNat_inj.1 (by exact_mod_cast h)
 ·rintro rfl;rfl
theorem X3z (data:ByteArray) (pre l:List UInt8) (m:Int) (bb:Bool) (w:World) (hm:w.cell? ⟨0,0,none⟩=some (.int .i64 m)) (hd:data.data.toList=pre++l) (hp:pre.length+(lnR l).length+1≤data.size) (hsz:data.size≤65536) (hb:Q5h (lnR l)=bb):
 Calls Tryz.prog 148 #[.string data,.int .i64 (pre.length:Nat)] w fun e w'=>e=.returned (.tuple #[.int .i64 ((pre.length+(lnR l).length+1:Nat):Int),.bool bb])∧Below w.heap.size w w':=by
 have hx:=P4 data pre l hd;have he:pre.length+l.length=data.size:=(by rw [Lib.size_eq,hd,List.length_append]);have CC:=zW (fun w hm=>V8v l m w yY hm);have CT:=zW (fun w=>V9u (ofL (lnR l)) w);rw [show (ofL (lnR l)).data.toList=lnR l by simp [ofL]] at CT;have hs:(ofL (lnR l)).size=(lnR l).length:=Q6 _;generalize hq:(lnR l).dropWhile Q2l=q at CT;have hg:=Z4i Q2l (lnR l);rw [hq] at hg;have hE:=Z4k q;have HB:=zW (Below.refl w.heap.size w);have HM:=zW hm;have hi:((pre.length:Nat):Int)+((ofL (lnR l)).size:Int)+1≤(data.size:Int):=yY;have e1:IntKind.i64.wrap (((pre.length:Nat):Int)+((ofL (lnR l)).size:Int))=((pre.length:Nat):Int)+((ofL (lnR l)).size:Int):=(by rw [IntKind.wrap_i64];omega);have e2:IntKind.i64.wrap (((pre.length:Nat):Int)+((ofL (lnR l)).size:Int)+1)=((pre.length:Nat):Int)+((ofL (lnR l)).size:Int)+1:=(by rw [IntKind.wrap_i64];omega);have hh:yK (((pre.length:Nat):Int)+((ofL (lnR l)).size:Int)+1=((pre.length+(lnR l).length+1:Nat):Int)):=(by show _=_;omega);cases q with
 | nil=>
   obtain rfl:bb=true:=(by rw [←hb,Z9k _ hq]);rw [show ([]:List UInt8).isEmpty=true from rfl] at hE;clear hd hq hb hm he hs hp hg;generalize ofL (lnR l)=t1 at *;generalize ofL ([]:List UInt8)=t2 at *;generalize ofL l=u1 at *;go_enter Tryz.func148,Tryz.ntmps148
   go_wp2_with (first
    | (go_at_call 80;refine (CC.o _ (by exact HM.o)).mono ?_;rintro e w1 ⟨⟨u,b,rfl⟩,n1,rfl⟩)
    | (go_at_call 176;refine (CT.o _).mono ?_;rintro e w2 ⟨rfl,ha⟩;have hf:=zW ((Q1 HB.o _).trans ha);clear ha))
   -- EMPTY
   refine zqR (l0:=#[false,false,false,false,false,false,false,false,false,false,false,false,false,false,false,false,false]) 17 rfl ?_;refine zqM 0 20 (.int .i64 (pre.length:Nat)) rfl ?_;refine zqM 1 21 (.string t1) rfl ?_;refine zzA 2 (.int .i64 (t1.size:Nat)) (some 22) rfl (fun _=>X4k _ t1 rfl yZ) ?_;refine zqB 3 23 (.int .i64 (((pre.length:Nat):Int)+(t1.size:Int))) rfl rfl (.int .i64 (pre.length:Nat)) (.int .i64 (t1.size:Nat)) ?_;refine zqB 4 24 (.int .i64 (((pre.length:Nat):Int)+(t1.size:Int)+1)) rfl rfl (.int .i64 (((pre.length:Nat):Int)+(t1.size:Int))) (.int .i64 1) ?_;refine zqM 5 25 (.string data) rfl ?_;refine zzA 6 (.int .i64 (data.size:Int)) (some 26) rfl (fun _=>X4k _ data rfl yZ) ?_;refine zzA 7 (.int .i64 (((pre.length:Nat):Int)+(t1.size:Int)+1)) (some 27) rfl (fun _=>Z8t _ _ ((((pre.length:Nat):Int)+(t1.size:Int)+1)) ((data.size:Int)) rfl yZ yZ (by exact hi)) ?_;refine zqM 8 28 (.string t2) rfl ?_;refine zqB 9 29 (.bool true) rfl rfl (.string t2) (.string (⟨#[]⟩:ByteArray)) ?_;refine zqM 10 30 (.bool true) rfl ?_;refine zqS 11 31 rfl ?_;refine zqS 12 32 rfl ?_;refine zqS 13 33 rfl ?_;refine zqP 14 34 (.bool true) rfl rfl true ?_;refine zqG 15 4 (.int .i64 (((pre.length:Nat):Int)+(t1.size:Int)+1)) rfl ?_;refine zqG 16 5 (.bool true) rfl ?_;refine wpAny_done yZ ?_ _;simp only [Act.put,zZ,zY,zX];go_wp2_with fail
   go_ret2
   refine ⟨?_,Q1 hf.o 1⟩;rw [←hh.o];rfl
   -- END
 | cons c q=>
   obtain rfl:bb=(c==35):=(by rw [←hb,X9u _ c q hq]);rw [show (c::q).isEmpty=false from rfl] at hE;have hz:0 < (ofL (c::q)).size:=(by rw [Q6];simp);have hc:=at0 (ofL (c::q)) c q (by simp [ofL]) hz;have hj:(((ofL (c::q))[0].toNat:Int)==35)=(c==35):=(by rw [hc];exact V2t c 35);clear hd hq hb hm he hc hs hp hg;generalize ofL (lnR l)=t1 at *;generalize ofL (c::q)=t2 at *;generalize ofL l=u1 at *;go_enter Tryz.func148,Tryz.ntmps148
   go_wp2_with (first
    | (go_at_call 80;refine (CC.o _ (by exact HM.o)).mono ?_;rintro e w1 ⟨⟨u,b,rfl⟩,n1,rfl⟩)
    | (go_at_call 176;refine (CT.o _).mono ?_;rintro e w2 ⟨rfl,ha⟩;have hf:=zW ((Q1 HB.o _).trans ha);clear ha))
   -- FULL
   refine zqR (l0:=#[false,false,false,false,false,false,false,false,false,false,false,false,false,false,false,false,false]) 17 rfl ?_;refine zqM 0 20 (.int .i64 (pre.length:Nat)) rfl ?_;refine zqM 1 21 (.string t1) rfl ?_;refine zzA 2 (.int .i64 (t1.size:Nat)) (some 22) rfl (fun _=>X4k _ t1 rfl yZ) ?_;refine zqB 3 23 (.int .i64 (((pre.length:Nat):Int)+(t1.size:Int))) rfl rfl (.int .i64 (pre.length:Nat)) (.int .i64 (t1.size:Nat)) ?_;refine zqB 4 24 (.int .i64 (((pre.length:Nat):Int)+(t1.size:Int)+1)) rfl rfl (.int .i64 (((pre.length:Nat):Int)+(t1.size:Int))) (.int .i64 1) ?_;refine zqM 5 25 (.string data) rfl ?_;refine zzA 6 (.int .i64 (data.size:Int)) (some 26) rfl (fun _=>X4k _ data rfl yZ) ?_;refine zzA 7 (.int .i64 (((pre.length:Nat):Int)+(t1.size:Int)+1)) (some 27) rfl (fun _=>Z8t _ _ ((((pre.length:Nat):Int)+(t1.size:Int)+1)) ((data.size:Int)) rfl yZ yZ (by exact hi)) ?_;refine zqM 8 28 (.string t2) rfl ?_;refine zqB 9 29 (.bool false) rfl rfl (.string t2) (.string (⟨#[]⟩:ByteArray)) ?_;refine zqM 10 30 (.bool false) rfl ?_;refine zqM 11 31 (.string t2) rfl ?_;refine zqJ 12 32 (.int .u8 (t2[0].toNat:Int)) rfl rfl (.string t2) (.int .i64 0) ?_;refine zqB 13 33 (.bool (c==35)) rfl rfl (.int .u8 (t2[0].toNat:Int)) (.int .u8 35) ?_;refine zqP 14 34 (.bool (c==35)) rfl rfl false ?_;refine zqG 15 4 (.int .i64 (((pre.length:Nat):Int)+(t1.size:Int)+1)) rfl ?_;refine zqG 16 5 (.bool (c==35)) rfl ?_;refine wpAny_done yZ ?_ _;simp only [Act.put,zZ,zY,zX];go_wp2_with fail
   go_ret2
   refine ⟨?_,Q1 hf.o 1⟩;rw [←hh.o];rfl
   -- END
theorem Z6k (s:ByteArray) (w:World) (hsz:s.size≤65536):
 Calls Tryz.prog 149 #[.string s] w fun e w'=>e=.returned (.int .i64 (Q5w 65 s.data.toList:Nat))∧w=w':=by
 obtain ⟨R,he⟩:∃ R:Ending→World→Prop,yK (R=fun e w'=>e=.returned (.int .i64 (Q5w 65 s.data.toList:Nat))∧w=w'):=⟨_,rfl⟩;rw [←he.o];generalize hN:Q5w 65 s.data.toList=N at he;have HN:=zW hN;clear hN;obtain ⟨wo,hf⟩:∃ wo,yK (wo=w):=⟨w,rfl⟩;go_enter Tryz.func149,Tryz.ntmps149
 go_wp2_with fail
 go_loopg [3] 65 (fun gk iv wr=>∃ k:Nat,iv=.int .i64 k∧k≤65∧k≤s.size∧yK (k+Q5w (65 - k) (s.data.toList.drop k)=N)∧yK (wr=wo)∧65 - k≤gk)
 case atStart=>exact ⟨0,rfl,Nat.zero_le _,Nat.zero_le _,by show _=_;rw [Nat.zero_add];exact HN.o,hf.o.symm,yQ⟩
 case round=>
  obtain ⟨k,rfl,hk,hl,HK,HW,hgk⟩:=hrel;have ha:k=65∨k=s.size→k=N:=by
   intro h;have hh:=HK.o;rcases h with h | h
   ·subst h;simpa [Q5w] using hh
   ·rw [List.drop_of_length_le (by rw [←Lib.size_eq];omega)] at hh;cases h65:65 - k with
    | zero=>rw [h65] at hh;simpa [Q5w] using hh
    | succ j=>rw [h65] at hh;simpa [Q5w] using hh
  by_cases h1:k < s.size
  ·by_cases h2:k < 65
   ·have hb:s.data.toList.drop k=s[k]::s.data.toList.drop (k+1):=List.drop_eq_getElem_cons (by rw [←Lib.size_eq];exact h1);obtain ⟨j,hj⟩:∃ j,65 - k=j+1:=⟨64 - k,yY⟩;have hh:=HK.o;rw [hb,hj,Q5w] at hh;have hi:(k:Int) < 65:=yY;have hm:s[k].toNat < 256:=s[k].toNat_lt;by_cases a1:97≤s[k].toNat
    ·by_cases a2:s[k].toNat≤122
     ·skip
      have g97:(97:Int)≤(s[k].toNat:Int):=yY;have l122:(s[k].toNat:Int)≤(122:Int):=yY;have hc:Q0p s[k]=true:=(by unfold Q0p;rw [decide_eq_true_eq];omega);rw [if_pos hc] at hh;have hd:yK (k+1+Q5w (65 - (k+1)) (s.data.toList.drop (k+1))=N):=(by show _=_;rw [show 65 - (k+1)=j by omega];omega);clear hh hb hc ha HK HN;go_wp2_with fail
      go_roundg (65 - (k+1))
      case measure=>omega
      case rel=>exact ⟨k+1,rfl,yY,yY,hd.o,HW.o,yY⟩
     ·skip
      have g97:(97:Int)≤(s[k].toNat:Int):=yY;have l122:¬ (s[k].toNat:Int)≤(122:Int):=yY;have g48:(48:Int)≤(s[k].toNat:Int):=yY;have l57:¬ (s[k].toNat:Int)≤(57:Int):=yY;have e46:((s[k].toNat:Int)==46)=false:=(by rw [beq_eq_false_iff_ne];omega);have e95:((s[k].toNat:Int)==95)=false:=(by rw [beq_eq_false_iff_ne];omega);have e45:((s[k].toNat:Int)==45)=false:=(by rw [beq_eq_false_iff_ne];omega);have hc:Q0p s[k]=false:=(by unfold Q0p;rw [decide_eq_false_iff_not];omega);rw [if_neg (by rw [hc];decide),Nat.add_zero] at hh;subst hh;clear hb hc ha HK HN;go_wp2_with fail
      first | go_ret | skip
      rw [he.o];exact ⟨rfl,(HW.o.trans hf.o).symm⟩
    ·by_cases a3:48≤s[k].toNat
     ·by_cases a4:s[k].toNat≤57
      ·skip
       have g97:¬ (97:Int)≤(s[k].toNat:Int):=yY;have g48:(48:Int)≤(s[k].toNat:Int):=yY;have l57:(s[k].toNat:Int)≤(57:Int):=yY;have hc:Q0p s[k]=true:=(by unfold Q0p;rw [decide_eq_true_eq];omega);rw [if_pos hc] at hh;have hd:yK (k+1+Q5w (65 - (k+1)) (s.data.toList.drop (k+1))=N):=(by show _=_;rw [show 65 - (k+1)=j by omega];omega);clear hh hb hc ha HK HN;go_wp2_with fail
       go_roundg (65 - (k+1))
       case measure=>omega
       case rel=>exact ⟨k+1,rfl,yY,yY,hd.o,HW.o,yY⟩
      ·by_cases a5:s[k].toNat=95
       ·skip
        have g97:¬ (97:Int)≤(s[k].toNat:Int):=yY;have g48:(48:Int)≤(s[k].toNat:Int):=yY;have l57:¬ (s[k].toNat:Int)≤(57:Int):=yY;have e46:((s[k].toNat:Int)==46)=false:=(by rw [beq_eq_false_iff_ne];omega);have e95:((s[k].toNat:Int)==95)=true:=(by rw [beq_iff_eq];omega);have hc:Q0p s[k]=true:=(by unfold Q0p;rw [decide_eq_true_eq];omega);rw [if_pos hc] at hh;have hd:yK (k+1+Q5w (65 - (k+1)) (s.data.toList.drop (k+1))=N):=(by show _=_;rw [show 65 - (k+1)=j by omega];omega);clear hh hb hc ha HK HN;go_wp2_with fail
        go_roundg (65 - (k+1))
        case measure=>omega
        case rel=>exact ⟨k+1,rfl,yY,yY,hd.o,HW.o,yY⟩
       ·skip
        have g97:¬ (97:Int)≤(s[k].toNat:Int):=yY;have g48:(48:Int)≤(s[k].toNat:Int):=yY;have l57:¬ (s[k].toNat:Int)≤(57:Int):=yY;have e46:((s[k].toNat:Int)==46)=false:=(by rw [beq_eq_false_iff_ne];omega);have e95:((s[k].toNat:Int)==95)=false:=(by rw [beq_eq_false_iff_ne];omega);have e45:((s[k].toNat:Int)==45)=false:=(by rw [beq_eq_false_iff_ne];omega);have hc:Q0p s[k]=false:=(by unfold Q0p;rw [decide_eq_false_iff_not];omega);rw [if_neg (by rw [hc];decide),Nat.add_zero] at hh;subst hh;clear hb hc ha HK HN;go_wp2_with fail
        first | go_ret | skip
        rw [he.o];exact ⟨rfl,(HW.o.trans hf.o).symm⟩
     ·by_cases a6:s[k].toNat=46
      ·skip
       have g97:¬ (97:Int)≤(s[k].toNat:Int):=yY;have g48:¬ (48:Int)≤(s[k].toNat:Int):=yY;have e46:((s[k].toNat:Int)==46)=true:=(by rw [beq_iff_eq];omega);have hc:Q0p s[k]=true:=(by unfold Q0p;rw [decide_eq_true_eq];omega);rw [if_pos hc] at hh;have hd:yK (k+1+Q5w (65 - (k+1)) (s.data.toList.drop (k+1))=N):=(by show _=_;rw [show 65 - (k+1)=j by omega];omega);clear hh hb hc ha HK HN;go_wp2_with fail
       go_roundg (65 - (k+1))
       case measure=>omega
       case rel=>exact ⟨k+1,rfl,yY,yY,hd.o,HW.o,yY⟩
      ·by_cases a7:s[k].toNat=45
       ·skip
        have g97:¬ (97:Int)≤(s[k].toNat:Int):=yY;have g48:¬ (48:Int)≤(s[k].toNat:Int):=yY;have e46:((s[k].toNat:Int)==46)=false:=(by rw [beq_eq_false_iff_ne];omega);have e95:((s[k].toNat:Int)==95)=false:=(by rw [beq_eq_false_iff_ne];omega);have e45:((s[k].toNat:Int)==45)=true:=(by rw [beq_iff_eq];omega);have hc:Q0p s[k]=true:=(by unfold Q0p;rw [decide_eq_true_eq];omega);rw [if_pos hc] at hh;have hd:yK (k+1+Q5w (65 - (k+1)) (s.data.toList.drop (k+1))=N):=(by show _=_;rw [show 65 - (k+1)=j by omega];omega);clear hh hb hc ha HK HN;go_wp2_with fail
        go_roundg (65 - (k+1))
        case measure=>omega
        case rel=>exact ⟨k+1,rfl,yY,yY,hd.o,HW.o,yY⟩
       ·skip
        have g97:¬ (97:Int)≤(s[k].toNat:Int):=yY;have g48:¬ (48:Int)≤(s[k].toNat:Int):=yY;have e46:((s[k].toNat:Int)==46)=false:=(by rw [beq_eq_false_iff_ne];omega);have e95:((s[k].toNat:Int)==95)=false:=(by rw [beq_eq_false_iff_ne];omega);have e45:((s[k].toNat:Int)==45)=false:=(by rw [beq_eq_false_iff_ne];omega);have hc:Q0p s[k]=false:=(by unfold Q0p;rw [decide_eq_false_iff_not];omega);rw [if_neg (by rw [hc];decide),Nat.add_zero] at hh;subst hh;clear hb hc ha HK HN;go_wp2_with fail
        first | go_ret | skip
        rw [he.o];exact ⟨rfl,(HW.o.trans hf.o).symm⟩
   ·have hg:=ha (.inl yY);have hi:¬ (k:Int) < 65:=yY;subst hg;clear ha HK HN;go_wp2_with fail
    first | go_ret | skip
    rw [he.o];exact ⟨rfl,(HW.o.trans hf.o).symm⟩
  ·have hg:=ha (.inr yY);subst hg;clear ha HK HN;go_wp2_with fail
   first | go_ret | skip
   rw [he.o];exact ⟨rfl,(HW.o.trans hf.o).symm⟩
theorem Z1v (l:List UInt8) (k:Nat) (h:k < l.length) (hc:l[k]=92) (he:k+N8 (l.drop k) < l.length):k+1 < l.length∧k+2+N8 (l.drop (k+2))=k+N8 (l.drop k):=by
 rw [List.drop_eq_getElem_cons h,hc] at he ⊢;by_cases h1:k+1 < l.length
 ·rw [List.drop_eq_getElem_cons h1,X5s] at he ⊢;rw [show k+1+1=k+2 from rfl] at he ⊢;exact ⟨h1,yY⟩
 ·rw [List.drop_of_length_le yY] at he;have:N8 [92]=2:=yX;omega
theorem Z1u (l:List UInt8) (k:Nat) (h:k < l.length) (hc:l[k]=10):N8 (l.drop k)=0:=by
 rw [List.drop_eq_getElem_cons h,hc,X9p]
theorem X9o (l:List UInt8) (k:Nat) (h:k < l.length) (h1:l[k]≠10) (h2:l[k]≠92):k+1+N8 (l.drop (k+1))=k+N8 (l.drop k):=by
 rw [List.drop_eq_getElem_cons h,Y4h _ _ h1 h2];omega
theorem V0y (data:ByteArray) (pre l:List UInt8) (w:World) (hd:data.data.toList=pre++l) (he:N8 l < l.length) (hsz:data.size≤65536):
 Calls Tryz.prog 150 #[.string data,.int .i64 (pre.length:Nat)] w fun e w'=>e=.returned (.int .i64 (pre.length+N8 l:Nat))∧w=w':=by
 obtain ⟨R,hi⟩:∃ R:Ending→World→Prop,yK (R=fun e w'=>e=.returned (.int .i64 (pre.length+N8 l:Nat))∧w=w'):=⟨_,rfl⟩;rw [←hi.o];have hh:data.size=pre.length+l.length:=(by rw [Lib.size_eq,hd,List.length_append]);have hm:=zW (fun (k p:Nat) (h:k < l.length) (hp:p=pre.length+k) (h2:p < data.size)=>show data[p]=l[k] by
  subst hp;have h3:(pre++l)[pre.length+k]'yV=l[k]:=(by rw [List.getElem_append_right yY];simp);have h4:data.data.toList[pre.length+k]'(by rw [hd];simp;omega)=l[k]:=(by simp only [hd];exact h3);exact h4)
 obtain ⟨wo,hj⟩:∃ wo,yK (wo=w):=⟨w,rfl⟩;have H0:yK (0+N8 (l.drop 0)=N8 l):=(by show _=_;rw [List.drop_zero,Nat.zero_add]);generalize N8 l=E at *;have hl:pre.length+l.length≤data.size:=yY;clear hd hh;go_enter Tryz.func150,Tryz.ntmps150
 go_wp2_with fail
 go_loopg [1] (E+1) (fun gk iv wr=>∃ k:Nat,iv=.int .i64 (pre.length+k:Nat)∧k≤E∧yK (k+N8 (l.drop k)=E)∧yK (wr=wo)∧E+1 - k≤gk)
 case atStart=>exact ⟨0,rfl,Nat.zero_le _,H0.o,hj.o.symm,yQ⟩
 case round=>
  obtain ⟨k,rfl,hk,HK,HW,hgk⟩:=hrel;clear H0;have hc:k < l.length:=yY;obtain ⟨p,hf⟩:∃ p,p=pre.length+k:=⟨_,rfl⟩;rw [←hf];have hp:p < data.size:=yY;have ha:=hm.o k p hc hf hp;have HP:=zW hf;clear hf;have hq:p+1≤data.size:=yY;by_cases h10:l[k]=10
  ·have hz:=Z1u l k hc h10;have hn:k=E:=(by have:=HK.o;omega);have t1:((data[p].toNat:Int) != 10)=false:=(by rw [ha,h10];rfl);have t2:((data[p].toNat:Int)==10)=true:=(by rw [ha,h10];rfl);subst hn;have ho:min (p:Int) (data.size:Int)=(p:Int):=yY;clear ha h10 hz HK;go_wp2_with fail
   first | go_ret | skip
   rw [hi.o];refine ⟨?_,(HW.o.trans hj.o).symm⟩;show Ending.returned (.int .i64 (p:Int))=_;rw [HP.o]
  ·have t1:((data[p].toNat:Int) != 10)=true:=by
    rw [ha,bne_iff_ne];intro e;exact h10 (UInt8.toNat_inj.1 (by exact_mod_cast e))
   have t2:((data[p].toNat:Int)==10)=false:=by
    rw [ha,beq_eq_false_iff_ne];intro e;exact h10 (UInt8.toNat_inj.1 (by exact_mod_cast e))
   by_cases h92:l[k]=92
   ·obtain ⟨s1,s2⟩:=Z1v l k hc h92 (by rw [HK.o];exact he);have t3:((data[p].toNat:Int)==92)=true:=(by rw [ha,h92];rfl);have hb:yK (k+2+N8 (l.drop (k+2))=E):=s2.trans HK.o;have hg:k+2≤E:=(by have:=hb.o;omega);have HS:yK ((p:Int)+1+1=((pre.length+(k+2):Nat):Int)):=(by show _=_;have:=HP.o;omega);clear ha h10 h92 s2;go_wp2_with fail
    rw [HS.o];go_roundg (E+1 - (k+2))
    case measure=>omega
    case rel=>exact ⟨k+2,rfl,hg,hb.o,HW.o,yQ⟩
   ·have t3:((data[p].toNat:Int)==92)=false:=by
     rw [ha,beq_eq_false_iff_ne];intro e;exact h92 (UInt8.toNat_inj.1 (by exact_mod_cast e))
    have hb:yK (k+1+N8 (l.drop (k+1))=E):=(X9o l k hc h10 h92).trans HK.o;have hg:k+1≤E:=(by have:=hb.o;omega);have HS:yK ((p:Int)+1=((pre.length+(k+1):Nat):Int)):=(by show _=_;have:=HP.o;omega);clear ha h10 h92;go_wp2_with fail
    rw [HS.o];go_roundg (E+1 - (k+1))
    case measure=>omega
    case rel=>exact ⟨k+1,rfl,hg,hb.o,HW.o,yQ⟩
end Go.Proofs.YtfkojnofbpdjdaaGreatDoor
namespace Go.Proofs.YtfkojnofbpdjdaaGreatDoor
open Go.RowKit Go.Maps
def NameSet (w:World) (b n:Nat) (ns:List (List UInt8)):Prop:=
 ∃ D:DataW Unit,w.ownsMap Tryz.prog 9 (plainElem Tryz.prog 4) b n D∧IsMap D∧∀ s:ByteArray,s.size≤maxLen→D.atKey (.string s.data.toList) (.lit (.bool false))=.lit (.bool (ns.any fun x=>x==s.data.toList))
theorem X2x:Keyed Tryz.prog 9:=string_keyed Tryz.underlying9
theorem Z2j (s:ByteArray) (h:s.size≤maxLen):keyOf Tryz.prog 9 (.string s)=some (.string s.data.toList):=by
 unfold keyOf;rw [Tryz.underlying9];simp [mapKey,Tryz.underlying9,h]
theorem Z7e (w:World):(zeroValue 4).run Tryz.prog w=.ok (.bool false) w:=by kernel_rfl
theorem NameSet.made (w:World):NameSet (w.alloc (.map #[] 0)) w.heap.size 0 []:=
 ⟨_,World.ownsMap_made _ _ _ _,isMap_empty,fun _ _=>rfl⟩
theorem NameSet.lt {w:World} {b n:Nat} {ns:List (List UInt8)} (h:NameSet w b n ns):b < w.heap.size:=by
 obtain ⟨D,h1,_⟩:=h;exact h1.lt
theorem NameSet.same {w w':World} {b n:Nat} {ns:List (List UInt8)} (h:NameSet w b n ns) (e:w'.heap[b]? =w.heap[b]?):NameSet w' b n ns:=by
 obtain ⟨D,⟨es,clock,hb,F,hs,hD⟩,h2⟩:=h;exact ⟨D,⟨es,clock,e.trans hb,F,hs,hD⟩,h2⟩
theorem Q8z {v:Value} {x:Bool} {ps:List MemPlace} (h:plainElem (H:=Unit) Tryz.prog 4 v=some (.lit (.bool x),ps)):v=.bool x:=by
 unfold plainElem at h;rw [Tryz.underlying4] at h;cases v<;>simp_all
theorem NameSet.look {w:World} {b n:Nat} {ns:List (List UInt8)} (h:NameSet w b n ns) (s:ByteArray) (hs:s.size≤maxLen):
 (Instr.lookup 212 (.map (some b)) (.string s) false).run Tryz.prog w=.ok (.bool (ns.any fun x=>x==s.data.toList)) w:=by
 obtain ⟨D,h1,h2,h3⟩:=h;obtain ⟨v,ps,ha,hR⟩:=h1.lookup X2x Tryz.underlying212 (Z7e w) (plainElem_bool Tryz.underlying4 false) (Z2j s hs);rw [h3 s hs] at hR;rw [ha,Q8z hR]
theorem NameSet.put {w:World} {b n:Nat} {ns:List (List UInt8)} (h:NameSet w b n ns) (s:ByteArray) (hs:s.size≤maxLen) (hn:n < maxLen):
 ∃ w2,(Instr.mapUpdate 212 (.map (some b)) (.string s) (.bool true)).run Tryz.prog w=.ok () w2∧NameSet w2 b (n+1) (ns++[s.data.toList])∧w.grownBy w2 (some b):=by
 obtain ⟨D,h1,h2,h3⟩:=h;have ha:=Z2j s hs;obtain ⟨w2,hc,hb,hg⟩:=h1.update X2x Tryz.underlying212 hn ha (plainElem_bool (H:=Unit) Tryz.underlying4 true);refine ⟨w2,hc,⟨_,hb,h2.put _ _,fun u hu=>?_⟩,hg⟩;by_cases e:u.data.toList=s.data.toList
 ·rw [e,atKey_put_same h2 (X2x.key ha)];simp
 ·rw [atKey_put_other (fun e'=>e (by injection e'))];rw [h3 u hu];simp;intro e';exact absurd (by rw [e']) e
theorem NameSet.apart {w:World} {b n:Nat} {ns:List (List UInt8)} (h:NameSet w b n ns) {B:Nat} {e:TypeId} {size m:Nat} {v:Value} {xs:List Value} (ho:w.ownsRow B e size v m xs):v.ownBlock≠some b:=by
 intro hk;obtain ⟨D,⟨es,clock,hb,_⟩,_⟩:=h;obtain ⟨cur,hc⟩:=B7 ho hk;rw [hc] at hb;cases hb
theorem NameSet.apartC {w:World} {b n:Nat} {ns:List (List UInt8)} (h:NameSet w b n ns) {g:Nat} {cs:Array Value} {t:TypeId} (hg:w.heap[g]? =some (.cells cs t)):g≠b:=by
 intro e;subst e;obtain ⟨D,⟨es,clock,hb,_⟩,_⟩:=h;rw [hg] at hb;cases hb
end Go.Proofs.YtfkojnofbpdjdaaGreatDoor
namespace Go.Proofs.YtfkojnofbpdjdaaGreatDoor
open Go.RowKit
section
variable {B g b n:Nat} {data:ByteArray} {fr:Nat} {lv:Value} {ps:List Pt} {w w':World} {ns:List (List UInt8)}
theorem PsB.map (h:PsB B g data fr lv ps w) (hn:NameSet w b n ns) (hg:w.grownBy w' (some b)):PsB B g data fr lv ps w':=
 ⟨(hg.block g h.gsz (fun e=>hn.apartC h.box (by injection e))).trans h.box,Q8 h.own fun k hk=>hg.block k (h.own.lt k hk).2 (fun e=>hn.apart h.own (by rw [hk];exact e)),h.lt⟩
theorem NameSet.keep (hn:NameSet w b n ns) (h:PsB B g data fr lv ps w) (hk:∀ k,k < w.heap.size→k≠g→lv.ownBlock≠some k→w'.heap[k]? =w.heap[k]?):NameSet w' b n ns:=
 hn.same (hk b hn.lt (fun e=>hn.apartC h.box e.symm) (hn.apart h.own))
theorem NameSet.below (hn:NameSet w b n ns) (hb:Below w.heap.size w w'):NameSet w' b n ns:=hn.same (hb.block b hn.lt)
end
theorem V1d (dn td:List RL) (x:RL) (data:ByteArray) (hd:data.data.toList=X4 (dn++x::td)):data.data.toList=X4 dn++(K7 x++X4 td):=by
 rw [hd,X0y];rfl
theorem Y6w (data:ByteArray) (ls:List RL) (m:Int) (w:World) (hm:w.cell? ⟨0,0,none⟩=some (.int .i64 m)) (hd:data.data.toList=X4 ls) (hok:∀ x∈ls,X8g x) (hk:(Y8 ls).Nodup) (hE:(Y8 ls).length≤1000) (hsz:data.size≤65536):
 Calls Tryz.prog 95 #[.string data] w (K4 (B8 (Y0 ls).1 (Y0 ls).2) w):=by
 obtain ⟨R,hT⟩:∃ R:Ending→World→Prop,yK (R=K4 (B8 (Y0 ls).1 (Y0 ls).2) w):=⟨_,rfl⟩;rw [←hT.o];have CP:=zW (fun w=>Q4s data w);have HD:=zW hd;have Hp:=zW hok;have HK:=zW hk;have hO:=zW hE;have HM:=zW hm;have Hg:∀ w:World,(Instr.makeMap 212 none).run Tryz.prog w=.ok (.map (some w.heap.size)) (w.alloc (.map #[] 0)):=fun _=>rfl;clear hd hok hk hE hm;go_enter Tryz.func95,Tryz.ntmps95
 go_upto_region 4 with (go_at_call 142;refine (CP.o _).mono ?_;rintro e w0 ⟨g,rfl,Hi,hZ⟩;have hQ:=zW Hi;have hG:=zW hZ;clear Hi hZ)
 have hL:=hG.o.size;have hi:=zW (hQ.o.below ((Below.refl w0.heap.size w0).alloc yQ (.map #[] 0)));have hc:=zW (NameSet.made w0);have hb:=zW (hG.o.alloc hL (.map #[] 0));have HH:=Hg w0;clear Hg;go_upto_region 5 with fail
 generalize w0.alloc (.map #[] 0)=w1 at hi hc hb ⊢;obtain ⟨bm,Hb⟩:∃ bm,yK (bm=w0.heap.size):=⟨_,rfl⟩;have Hx:w.heap.size≤bm:=(by rw [Hb.o];exact hL);rw [←Hb.o] at hc ⊢;clear hQ hG hL HH;go_loopg [3] ls.length (fun gk av wr=>∃ dn td,yK (ls=dn++td)∧av=.int .i64 ((X4 dn).length:Nat)∧(∃ lv,yK (PsB w.heap.size g data (Z2 (Y0 dn).1).length lv (G9 (Y0 dn).1) wr))∧yK (NameSet wr bm (Y8 dn).length (Y8 dn))∧yK (Below w.heap.size w wr)∧td.length≤gk)
 case atStart=>exact ⟨[],ls,rfl,rfl,⟨_,hi.o⟩,hc.o,hb.o,yQ⟩
 case round=>
  obtain ⟨dn,td,HE,rfl,⟨lv,HP⟩,HS,HB,hgk⟩:=hrel;clear hi hb hc;cases td with
  | nil=>
    have he:ls=dn:=(by have:=HE.o;rwa [List.append_nil] at this);subst he;have hH:(X4 ls).length=data.size:=(by rw [Lib.size_eq,HD.o]);have hw:=P6 (Y0 ls).1;have hD:(Z2 (Y0 ls).1).length≤data.size:=by
     rw [←hH,Q0a,List.length_append];omega
    rw [Q0c] at hw;have hE:=hO.o;have Hc:data.extract (Z2 (Y0 ls).1).length data.size=ofL (Y0 ls).2:=P4 _ _ _ (by rw [HD.o,Q0a]);have HC:=zW (X6i HP.o hD yY yY);rw [Hc,show (⟨#[]⟩:ByteArray)=ofL [] from rfl,←Q4u] at HC;clear Hc hD hw hE;rw [hH];clear hH;go_wp2_with (go_at_call 147;refine (HC.o).mono ?_;rintro e w1 ⟨v,rfl,ho,ha⟩;have HO:=zW ho;have hb:=zW (HB.o.trans ha);obtain ⟨A,c,rfl⟩:=Q0 ho;clear ho ha)
    go_ret3
    rw [hT.o];exact ⟨_,rfl,HO.o,hb.o⟩
  | cons x td=>
    have hx:=Hp.o x (by rw [HE.o];simp);have hs:=V1d dn td x data (by rw [HD.o,HE.o]);have hp:(X4 dn).length+(K7 x).length+(X4 td).length=data.size:=(by rw [Lib.size_eq,hs];simp;omega);have Hk:0 < (K7 x).length:=by cases x<;>simp [K7]<;>omega
    have hu:yK ((X4 (dn++[x])).length=(X4 dn).length+(K7 x).length):=(by show _=_;rw [X0y];simp [X4]);have hP:yK (ls=dn++[x]++td):=(by show _=_;rw [HE.o];simp);have Hy:td.length+1≤gk:=hgk;have HL:((X4 dn).length:Int) < (data.size:Int):=yY;cases x with
    | skip l=>
      have hF:lnR (K7 (.skip l)++X4 td)=l:=by
       rw [show K7 (.skip l)++X4 td=l++10::X4 td by simp [K7]];exact Y9b l _ hx.1
      have ht:(K7 (.skip l)).length=l.length+1:=(by simp [K7]);have CS:=zW (fun W hW=>X3z data (X4 dn) (K7 (.skip l)++X4 td) m true W hW hs (by rw [hF];omega) hsz (by rw [hF];exact hx.2));rw [hF,show (X4 dn).length+l.length+1=(X4 (dn++[.skip l])).length by rw [hu.o,ht];rfl] at CS;have hA:yK (Y0 (dn++[.skip l])=((Y0 dn).1,(Y0 dn).2++(l++[10]))):=(by show _=_;rw [Q5c];rfl);have hz:=zW (Y8w dn l);clear hF ht hs hx hp Hk;go_wp2_with (go_at_call 148;refine (CS.o _ (by exact X6 HM.o HB.o)).mono ?_;rintro e w1 ⟨rfl,ha⟩;have hi:=zW (HP.o.below ha);have hc:=zW (HS.o.below ha);have hb:=zW (HB.o.trans (ha.mono HB.o.size));clear ha)
      go_roundg td.length
      case measure=>omega
      case rel=>
       refine ⟨dn++[RL.skip l],td,hP.o,rfl,⟨lv,?_⟩,?_,hb.o,yQ⟩
       ·rw [hA.o];exact hi.o
       ·rw [hz.o];exact hc.o
    | unit key ts=>
      obtain ⟨Hz,HA,He,hf⟩:=hx;have hR:K7 (.unit key ts)=key++(61::(Q2 ts++[10])):=rfl;have ht:(K7 (.unit key ts)).length=key.length+1+(Q2 ts).length+1:=(by rw [hR];simp;omega);have hg:Q5h (lnR (K7 (.unit key ts)++X4 td))=false:=by
       rw [hR];cases key with
       | nil=>simp at Hz
       | cons c q=>exact Z9j c _ (He c yW)
      have HF:(lnR (K7 (.unit key ts)++X4 td)).length+1≤(K7 (.unit key ts)).length:=by
       have h1:=Z9w (key++(61::Q2 ts)) (X4 td);rw [show K7 (.unit key ts)++X4 td=key++(61::Q2 ts)++10::X4 td by rw [hR];simp,ht];simp at h1 ⊢;omega
      have CS:=zW (fun W hW=>X3z data (X4 dn) (K7 (.unit key ts)++X4 td) m false W hW hs yY hsz hg);generalize (X4 dn).length+(lnR (K7 (.unit key ts)++X4 td)).length+1=nx at CS;have hr:data.data.toList=X4 dn++(key++61::(Q2 ts++10::X4 td)):=(by rw [hs,hR];simp);have hV:data.extract (X4 dn).length data.size=ofL (key++61::(Q2 ts++10::X4 td)):=P4 data (X4 dn) _ hr;have Hl:(ofL (key++61::(Q2 ts++10::X4 td))).size≤65536:=(by rw [Q6];simp;omega);have CKy:=zW (fun W=>Z6k (ofL (key++61::(Q2 ts++10::X4 td))) W Hl);rw [show (ofL (key++61::(Q2 ts++10::X4 td))).data.toList=key++61::(Q2 ts++10::X4 td) by simp [ofL],Z2i 65 key _ yY He] at CKy;have HJ:(X4 dn).length+key.length < data.size:=yY;have hU:data[(X4 dn).length+key.length]=61:=by
       have h3:(X4 dn++(key++61::(Q2 ts++10::X4 td)))[(X4 dn).length+key.length]'yW=61:=by
        rw [List.getElem_append_right yY,List.getElem_append_right yY];simp
       have h4:data.data.toList[(X4 dn).length+key.length]'(by rw [hr];simp)=61:=(by simp only [hr];exact h3);exact h4
      have t61:((data[(X4 dn).length+key.length].toNat:Int) != 61)=false:=(by rw [hU];rfl);have hX:data.extract (X4 dn).length ((X4 dn).length+key.length)=ofL key:=N9 data (X4 dn) key (61::(Q2 ts++10::X4 td)) _ (by rw [hr];simp) rfl;have hv:=Y5a dn key ts td (by rw [←HE.o];exact HK.o);have hh:(Y8 dn).length≤1000:=by
       have h1:=hO.o;rw [HE.o,T9,List.length_append] at h1;omega
      have hq:(X4 dn++(key++[61])).length=(X4 dn).length+key.length+1:=yV;have hC:data.data.toList=(X4 dn++(key++[61]))++(Q2 ts++10::X4 td):=(by rw [hr];simp);have hI:N8 (Q2 ts++10::X4 td)=(Q2 ts).length:=X5r _ ts hf.els;have CE:=zW (fun W=>V0y data (X4 dn++(key++[61])) (Q2 ts++10::X4 td) W hC (by rw [hI];simp) hsz);rw [hI,hq] at CE;have hY:data.extract ((X4 dn).length+key.length+1) ((X4 dn).length+key.length+1+(Q2 ts).length)=ofL (Q2 ts):=by
       have:=N9 data (X4 dn++(key++[61])) (Q2 ts) (10::X4 td) ((X4 dn).length+key.length+1+(Q2 ts).length) (by rw [hC];simp) (by rw [hq]);rw [hq] at this;exact this
      have hN:=zW (fun W=>X1d (ofL (Q2 ts)) ts W ⟨by simp [ofL],hf.els,hf.len,by rw [Q6];omega⟩ hf.cont);have hy:=Q0a dn;have Hw:data.extract (Z2 (Y0 dn).1).length ((X4 dn).length+key.length+1)=ofL ((Y0 dn).2++(key++[61])):=
       N9 data (Z2 (Y0 dn).1) ((Y0 dn).2++(key++[61])) (Q2 ts++10::X4 td) _ (by rw [hC,hy];simp) (by rw [hy];simp;omega)
      have hD:(Z2 (Y0 dn).1).length≤(X4 dn).length+key.length+1:=(by rw [hy,List.length_append];omega);have hw:=P6 (Y0 dn).1;rw [Q0c] at hw;have HU:=zW (fun (lv:Value) (w':World) (h:PsB w.heap.size g data (Z2 (Y0 dn).1).length lv (G9 (Y0 dn).1) w')=>X3b ((X4 dn).length+key.length+1) ((X4 dn).length+key.length+1+(Q2 ts).length) (ofL key) h hD yY yY yY yY);rw [Hw,hY,show (⟨#[]⟩:ByteArray)=ofL [] from rfl,←Q1n (Y0 dn).1 ⟨(Y0 dn).2++(key++[61]),key,ts⟩,show (((X4 dn).length+key.length+1+(Q2 ts).length:Nat):Int)=((X4 dn).length:Int)+(key.length:Int)+1+((Q2 ts).length:Int) by omega,show (((X4 dn).length+key.length+1:Nat):Int)=((X4 dn).length:Int)+(key.length:Int)+1 by omega] at HU;have hA:yK (Y0 (dn++[.unit key ts])=((Y0 dn).1++[⟨(Y0 dn).2++(key++[61]),key,ts⟩],[10])):=(by show _=_;rw [Q5c];rfl);have hz:=zW (Y8x dn key ts);have Ho:yK ((Z2 (Y0 (dn++[.unit key ts])).1).length=(X4 dn).length+key.length+1+(Q2 ts).length):=by
       show _=_;rw [hA.o,Q1o,hy];simp;omega
      have Hv:yK (((X4 dn).length:Int)+(key.length:Int)+1+((Q2 ts).length:Int)+1=((X4 (dn++[.unit key ts])).length:Nat)):=(by show _=_;rw [hu.o,ht];omega);have HG:min (((X4 dn).length:Int)+(key.length:Int)+1+((Q2 ts).length:Int)+1) (data.size:Int)=((X4 dn).length:Int)+(key.length:Int)+1+((Q2 ts).length:Int)+1:=yY;have hK:(ofL key).size≤maxLen:=(by rw [Q6];unfold maxLen;omega);have hJ:(ofL key).data.toList=key:=(by simp [ofL]);have c1:¬ ((key.length:Int) < 1):=yY;have c2:¬ ((64:Int) < (key.length:Int)):=yY;have c3:¬ ((data.size:Int)≤((X4 dn).length:Int)+(key.length:Int)):=yY;have HN:(X4 dn).length+key.length+1+(Q2 ts).length < data.size:=yY;clear hR hg HF hr Hl hU hC hI hy hw ht Hk hs;generalize ofL (key++61::(Q2 ts++10::X4 td))=u1 at hV CKy;go_upto_region 9 with (go_at_call 148;refine (CS.o _ (by exact X6 HM.o HB.o)).mono ?_;rintro e w1 ⟨rfl,ha⟩;have hi:=zW (HP.o.below ha);have hc:=zW (HS.o.below ha);have hb:=zW (HB.o.trans (ha.mono HB.o.size));clear ha)
      have Hf:=hc.o.look (ofL key) hK;rw [hJ,hv] at Hf;obtain ⟨w2,HI,hn,hl⟩:=hc.o.put (ofL key) hK (Nat.lt_of_le_of_lt hh yX);rw [hJ,←hz.o] at hn;have Hq:=zW (hi.o.map hc.o hl);have Hs:=zW hn;have hM:=zW (hb.o.grown hl hb.o.size (fun j hj=>by injection hj with hj;omega));clear hn hl hJ hv hK hh;go_upto_region 17 with (go_at_call 149;refine (CKy.o _).mono ?_;rintro e w' ⟨rfl,rfl⟩)
      rw [hX];clear Hf HI hV t61 hX;go_upto_region 18 with (go_at_call 150;refine (CE.o _).mono ?_;rintro e w' ⟨rfl,rfl⟩)
      generalize ofL (Q2 ts)=u3 at hY hN;go_wp2_with (first
       | (go_at_call 14;refine (hN.o _).mono ?_;rintro e w3 ⟨v3,rfl,Hh,hB⟩;obtain ⟨A3,c3,rfl⟩:=Q0 Hh;have hS:=zW (Hq.o.below hB);have Ht:=zW (Hs.o.below hB);have Hm:=zW (hM.o.trans (hB.mono hM.o.size));clear Hh hB)
       | (go_at_call 145;refine (HU.o _ _ (by exact hS.o)).mono ?_;rintro e w4 ⟨⟨v4,rfl⟩,lv4,Hj,Ha,Hd⟩;have Hr:=zW Hj;have Hu:=zW (Ht.o.keep hS.o Hd);have Hn:=zW (Hm.o.trans Ha);clear Hj Ha Hd))
      rw [Hv.o];go_roundg td.length
      case measure=>omega
      case rel=>
       refine ⟨dn++[RL.unit key ts],td,hP.o,rfl,⟨lv4,?_⟩,?_,Hn.o,yQ⟩
       ·rw [Ho.o,hA.o];exact Hr.o
       ·rw [show (Y8 (dn++[RL.unit key ts])).length=(Y8 dn).length+1 by rw [hz.o];simp];exact Hu.o
end Go.Proofs.YtfkojnofbpdjdaaGreatDoor
namespace Go.Proofs.YtfkojnofbpdjdaaGreatDoor
def FdEnd (s:List UInt8):Prop:=s=[]∨∃ c r,s=c::r∧(c=44∨c=10)
theorem FdEnd.no34 {s:List UInt8} (h:FdEnd s):s.head? ≠some 34:=by
 rcases h with rfl | ⟨c,r,rfl,hc⟩
 ·simp
 ·rcases hc with rfl | rfl<;>simp
structure Fd where
 raw:List UInt8
 quo:Bool
def X4w (f:Fd):Prop:=
 if f.quo=true then ∃ q,f.raw=34::(q++[34])∧∀ s:List UInt8,s.head? ≠some 34→L3 (q++34::s)=q.length
 else ∀ c∈f.raw,c≠34∧c≠44∧c≠10
def X8m:Fl→Fd
 | .bare l=>⟨l,false⟩
 | .quo l=>⟨34::(l++[34]),true⟩
theorem Q5s (f:Fl):(X8m f).raw=Q3u f:=by cases f<;>rfl
theorem X4l (f:Fl) (h:Q5m f):X4w (X8m f):=by
 cases f with
 | bare l=>exact h
 | quo l=>
   show ∃ q,34::(l++[34])=34::(q++[34])∧_;refine ⟨l,rfl,fun s hs=>?_⟩;rw [Q5q l _ h,X1z s hs];rfl
def Y4m (ts:Els):Fd:=⟨34::(Q2 ts++[34]),true⟩
theorem V3r (ts:Els) (h:∀ e∈ts,ElOk 3 e.1 e.2):X4w (Y4m ts):=by
 show ∃ q,34::(Q2 ts++[34])=34::(q++[34])∧_;exact ⟨Q2 ts,rfl,fun s hs=>Y4f s hs ts h⟩
def X5v:Fd:=⟨P8,false⟩
theorem Z4r:X4w X5v:=by
 show ∀ c∈P8,_;decide
def J1:List Fd→List UInt8
 | []=>[]
 | [f]=>f.raw
 | f::g::l=>f.raw++44::J1 (g::l)
theorem Q2b (f:Fd) (l:List Fd) (h:l≠[]):J1 (f::l)=f.raw++44::J1 l:=by
 cases l with
 | nil=>exact absurd rfl h
 | cons g l=>rfl
theorem X2h:∀ (a:List Fl) (m:List Fd),m≠[]→J1 (a.map X8m++m)=F1 a++J1 m
 | [],m,_=>by simp [F1]
 | f::a,m,h=>by
   rw [List.map_cons,List.cons_append,Q2b _ _ (by simp [h]),X2h a m h,Q5s];simp [F1]
theorem Q8t:∀ (f:Fd) (b:List Fl),J1 (f::b.map X8m)=f.raw++T5 b
 | f,[]=>by simp [J1,T5]
 | f,g::b=>by
   rw [List.map_cons,Q2b _ _ yW,Q8t (X8m g) b,Q5s];simp [T5]
def Q5l (a b:List Fl):List Fd:=a.map X8m++X5v::b.map X8m
def Q0b (r:Rc):List Fd:=r.pre.map X8m++Y4m r.ts::r.post.map X8m
theorem X0g (a b:List Fl):J1 (Q5l a b)=R2 a b:=by
 unfold Q5l R2;rw [X2h _ _ yW,Q8t];rfl
theorem Q3x (r:Rc):J1 (Q0b r)=Q6l r:=by
 unfold Q0b Q6l;rw [X2h _ _ yW,Q8t];show _++((34::(Q2 r.ts++[34]))++T5 r.post)=_;simp
theorem Y4v (a b:List Fl):(Q5l a b).length=a.length+1+b.length:=by simp [Q5l];omega
theorem Y6h (r:Rc):(Q0b r).length=r.pre.length+1+r.post.length:=by simp [Q0b];omega
theorem Z2e (a b:List Fl) (ha:∀ f∈a,Q5m f) (hb:∀ f∈b,Q5m f):∀ f∈Q5l a b,X4w f:=by
 intro f hf;unfold Q5l at hf;rcases List.mem_append.1 hf with hf | hf
 ·obtain ⟨g,hg,rfl⟩:=List.mem_map.1 hf;exact X4l g (ha g hg)
 ·rcases List.mem_cons.1 hf with rfl | hf
  ·exact Z4r
  ·obtain ⟨g,hg,rfl⟩:=List.mem_map.1 hf;exact X4l g (hb g hg)
theorem Z3c (r:Rc) (ha:∀ f∈r.pre,Q5m f) (hb:∀ f∈r.post,Q5m f) (hr:∀ e∈r.ts,ElOk 3 e.1 e.2):∀ f∈Q0b r,X4w f:=by
 intro f hf;unfold Q0b at hf;rcases List.mem_append.1 hf with hf | hf
 ·obtain ⟨g,hg,rfl⟩:=List.mem_map.1 hf;exact X4l g (ha g hg)
 ·rcases List.mem_cons.1 hf with rfl | hf
  ·exact V3r _ hr
  ·obtain ⟨g,hg,rfl⟩:=List.mem_map.1 hf;exact X4l g (hb g hg)
theorem Z2d (a b:List Fl):(Q5l a b)[a.length]? =some X5v:=by
 unfold Q5l;rw [List.getElem?_append_right yW];simp
theorem Z3b (r:Rc):(Q0b r)[r.pre.length]? =some (Y4m r.ts):=by
 unfold Q0b;rw [List.getElem?_append_right yW];simp
theorem X5x (a b:List Fl) (ha:∀ f∈a,Q3u f≠P8) (hb:∀ f∈b,Q3u f≠P8) (i:Nat) (f:Fd) (h:(Q5l a b)[i]? =some f) (hi:i≠a.length):f.raw≠P8:=by
 unfold Q5l at h;by_cases h1:i < a.length
 ·rw [List.getElem?_append_left (by simpa using h1),List.getElem?_map] at h;obtain ⟨g,hg,rfl⟩:=Option.map_eq_some_iff.1 h;rw [Q5s];exact ha g (List.mem_of_getElem? hg)
 ·rw [List.getElem?_append_right yV] at h;simp only [List.length_map] at h;obtain ⟨j,hj⟩:∃ j,i - a.length=j+1:=⟨i - a.length - 1,yY⟩;rw [hj,List.getElem?_cons_succ,List.getElem?_map] at h;obtain ⟨g,hg,rfl⟩:=Option.map_eq_some_iff.1 h;rw [Q5s];exact hb g (List.mem_of_getElem? hg)
end Go.Proofs.YtfkojnofbpdjdaaGreatDoor
namespace Go.Proofs.YtfkojnofbpdjdaaGreatDoor
open Go.RowKit
theorem X4v (c:UInt8):((c.toNat:Nat):Int).toNat.toUInt8=c:=by
 rw [Int.toNat_natCast];exact UInt8.ofNat_toNat
theorem Z2g (c:UInt8) (h:c≠34∧c≠44∧c≠10):Lib.indexByte [34,44,10] c=-1:=by
 have e:∀ d:UInt8,c≠d→(d==c)=false:=fun d hd=>by simpa using fun e:d=c=>hd e.symm
 simp [Lib.indexByte,e 34 h.1,e 44 h.2.1,e 10 h.2.2]
theorem Y4w (c:UInt8) (h:c=44∨c=10):∃ z:Int,Lib.indexByte [34,44,10] c=z∧¬ z < 0:=by
 rcases h with rfl | rfl
 ·exact ⟨1,yX,yX⟩
 ·exact ⟨2,yX,yX⟩
theorem L2 (data:ByteArray) (pre l:List UInt8) (hd:data.data.toList=pre++l) (k p:Nat) (h:k < l.length) (hp:p=pre.length+k) (h2:p < data.size):data[p]=l[k]:=by
 subst hp;have h3:(pre++l)[pre.length+k]'yV=l[k]:=(by rw [List.getElem_append_right yY];simp);have h4:data.data.toList[pre.length+k]'(by rw [hd];simp;omega)=l[k]:=(by simp only [hd];exact h3);exact h4
theorem X8 (c d:UInt8) (h:c≠d):((c.toNat:Int)==(d.toNat:Int))=false:=by
 rw [beq_eq_false_iff_ne];intro e;exact h (UInt8.toNat_inj.1 (by exact_mod_cast e))
def Q8g (n:Nat) (b:Bool) (w:World) (e:Ending) (w':World):Prop:=e=.returned (.tuple #[.int .i64 (n:Nat),.bool b,.bool true])∧Below w.heap.size w w'
theorem V3s (data:ByteArray) (pre r s:List UInt8) (w:World) (hd:data.data.toList=pre++(r++s)) (hr:∀ c∈r,c≠34∧c≠44∧c≠10) (hs:FdEnd s) (hsz:data.size≤65536):
 Calls Tryz.prog 177 #[.string data,.int .i64 (pre.length:Nat)] w (Q8g (pre.length+r.length) false w):=by
 obtain ⟨R,hg⟩:∃ R:Ending→World→Prop,yK (R=Q8g (pre.length+r.length) false w):=⟨_,rfl⟩;rw [←hg.o];have hh:data.size=pre.length+(r.length+s.length):=(by rw [Lib.size_eq,hd];simp);have hi:=zW (L2 data pre (r++s) hd);have HR:=zW hr;have HS:=zW hs;have H0:yK (∀ h:pre.length < data.size,((data[pre.length].toNat:Int)==34)=false):=fun h=>by
  have h1:=hi.o 0 pre.length yV rfl h;rw [h1];refine X8 _ 34 ?_;cases r with
  | cons c r=>exact (hr c yW).1
  | nil=>
    rcases hs with rfl | ⟨c,q,rfl,hc⟩
    ·simp at hh;omega
    ·rcases hc with rfl | rfl
     ·show (44:UInt8)≠34;decide
     ·show (10:UInt8)≠34;decide
 have hv:pre.length+r.length≤data.size:=yY;clear hd hr hs;generalize hP:pre.length=P at *;have HP:=zW hP;clear hP;obtain ⟨wo,hf⟩:∃ wo,yK (wo=w):=⟨w,rfl⟩;have hj:(P < data.size∧(P:Int) < (data.size:Int))∨(¬ P < data.size∧¬ (P:Int) < (data.size:Int)):=yY;have HL:=zW hh;clear hh;rcases hj with ⟨hps,hpsi⟩ | ⟨hps,hpsi⟩
 ·have t0:=H0.o hps;go_enter Tryz.func177,Tryz.ntmps177
  go_wp2_with fail
  go_loopg [4] (r.length+1) (fun gk iv wr=>∃ k:Nat,iv=.int .i64 (P+k:Nat)∧k≤r.length∧yK (wr=wo)∧r.length+1 - k≤gk)
  case atStart=>exact ⟨0,rfl,Nat.zero_le _,hf.o.symm,yQ⟩
  case round=>
   obtain ⟨k,rfl,hk,HW,hgk⟩:=hrel;obtain ⟨p,ha⟩:∃ p,p=P+k:=⟨_,rfl⟩;rw [←ha];try clear hpsi
   try clear hps
   try clear t0
   by_cases hkl:k < r.length
   ·have hp:p < data.size:=yY;have hq:(p:Int) < (data.size:Int):=yY;have hc:data[p]=r[k]:=(hi.o k p yV ha hp).trans (List.getElem_append_left hkl);have hn:=HR.o r[k] (List.getElem_mem hkl);rw [←hc] at hn;have CI:=zW (fun W=>T8 ⟨#[34,44,10]⟩ data[p].toNat (-1) (by rw [X4v];exact Z2g _ hn) W);have hm:yK ((p:Int)+1=((P+(k+1):Nat):Int)):=(by show _=_;omega);clear hc hn ha;go_wp2_with (go_at_call 126;refine (CI.o _).mono ?_;rintro e w' ⟨rfl,rfl⟩)
    rw [hm.o];go_roundg (r.length - k)
    case measure=>omega
    case rel=>exact ⟨k+1,rfl,hkl,HW.o,yY⟩
   ·obtain rfl:k=r.length:=yY;have hb:yK ((p:Nat)=P+r.length):=ha;have he:=HL.o;rcases HS.o with rfl | ⟨c,q,rfl,hcc⟩
    ·have hl:(p:Int)=(data.size:Int):=(by simp at he;omega);have ht:¬ (p:Int) < (data.size:Int):=yY;have ho:((p:Int)==(data.size:Int))=true:=(by rw [beq_iff_eq];exact hl);clear ha hl he;go_wp2_with fail
     go_quiet (fail)
     go_wp2_with fail
     go_ret3
     rw [hg.o];refine ⟨?_,by rw [(HW.o.trans hf.o)];exact Q1 (Below.refl _ _) _⟩;show Ending.returned (.tuple #[.int .i64 (p:Nat),.bool false,.bool true])=_;rw [hb.o]
    ·simp at he;have hp:p < data.size:=yY;have hq:(p:Int) < (data.size:Int):=yY;have ho:((p:Int)==(data.size:Int))=false:=(by rw [beq_eq_false_iff_ne];omega);have hc:data[p]=c:=(hi.o r.length p yW ha hp).trans (by rw [List.getElem_append_right yQ];simp);obtain ⟨z,hz,hu⟩:=Y4w c hcc;have CI:=zW (fun W=>T8 ⟨#[34,44,10]⟩ data[p].toNat z (by rw [X4v,hc];exact hz) W);rcases hcc with rfl | rfl
     ·have e44:((data[p].toNat:Int)==44)=true:=(by rw [hc];rfl);clear hc ha he hz;go_wp2_with (go_at_call 126;refine (CI.o _).mono ?_;rintro e w' ⟨rfl,rfl⟩)
      go_quiet (fail)
      go_wp2_with fail
      go_ret3
      rw [hg.o];refine ⟨?_,by rw [(HW.o.trans hf.o)];exact Q1 (Below.refl _ _) _⟩;show Ending.returned (.tuple #[.int .i64 (p:Nat),.bool false,.bool true])=_;rw [hb.o]
     ·have e44:((data[p].toNat:Int)==44)=false:=(by rw [hc];rfl);have e10:((data[p].toNat:Int)==10)=true:=(by rw [hc];rfl);clear hc ha he hz;go_wp2_with (go_at_call 126;refine (CI.o _).mono ?_;rintro e w' ⟨rfl,rfl⟩)
      go_quiet (fail)
      go_wp2_with fail
      go_ret3
      rw [hg.o];refine ⟨?_,by rw [(HW.o.trans hf.o)];exact Q1 (Below.refl _ _) _⟩;show Ending.returned (.tuple #[.int .i64 (p:Nat),.bool false,.bool true])=_;rw [hb.o]
 ·go_enter Tryz.func177,Tryz.ntmps177
  go_wp2_with fail
  go_loopg [4] (r.length+1) (fun gk iv wr=>∃ k:Nat,iv=.int .i64 (P+k:Nat)∧k≤r.length∧yK (wr=wo)∧r.length+1 - k≤gk)
  case atStart=>exact ⟨0,rfl,Nat.zero_le _,hf.o.symm,yQ⟩
  case round=>
   obtain ⟨k,rfl,hk,HW,hgk⟩:=hrel;obtain ⟨p,ha⟩:∃ p,p=P+k:=⟨_,rfl⟩;rw [←ha];try clear hpsi
   try clear hps
   try clear t0
   by_cases hkl:k < r.length
   ·have hp:p < data.size:=yY;have hq:(p:Int) < (data.size:Int):=yY;have hc:data[p]=r[k]:=(hi.o k p yV ha hp).trans (List.getElem_append_left hkl);have hn:=HR.o r[k] (List.getElem_mem hkl);rw [←hc] at hn;have CI:=zW (fun W=>T8 ⟨#[34,44,10]⟩ data[p].toNat (-1) (by rw [X4v];exact Z2g _ hn) W);have hm:yK ((p:Int)+1=((P+(k+1):Nat):Int)):=(by show _=_;omega);clear hc hn ha;go_wp2_with (go_at_call 126;refine (CI.o _).mono ?_;rintro e w' ⟨rfl,rfl⟩)
    rw [hm.o];go_roundg (r.length - k)
    case measure=>omega
    case rel=>exact ⟨k+1,rfl,hkl,HW.o,yY⟩
   ·obtain rfl:k=r.length:=yY;have hb:yK ((p:Nat)=P+r.length):=ha;have he:=HL.o;rcases HS.o with rfl | ⟨c,q,rfl,hcc⟩
    ·have hl:(p:Int)=(data.size:Int):=(by simp at he;omega);have ht:¬ (p:Int) < (data.size:Int):=yY;have ho:((p:Int)==(data.size:Int))=true:=(by rw [beq_iff_eq];exact hl);clear ha hl he;go_wp2_with fail
     go_quiet (fail)
     go_wp2_with fail
     go_ret3
     rw [hg.o];refine ⟨?_,by rw [(HW.o.trans hf.o)];exact Q1 (Below.refl _ _) _⟩;show Ending.returned (.tuple #[.int .i64 (p:Nat),.bool false,.bool true])=_;rw [hb.o]
    ·simp at he;have hp:p < data.size:=yY;have hq:(p:Int) < (data.size:Int):=yY;have ho:((p:Int)==(data.size:Int))=false:=(by rw [beq_eq_false_iff_ne];omega);have hc:data[p]=c:=(hi.o r.length p yW ha hp).trans (by rw [List.getElem_append_right yQ];simp);obtain ⟨z,hz,hu⟩:=Y4w c hcc;have CI:=zW (fun W=>T8 ⟨#[34,44,10]⟩ data[p].toNat z (by rw [X4v,hc];exact hz) W);rcases hcc with rfl | rfl
     ·have e44:((data[p].toNat:Int)==44)=true:=(by rw [hc];rfl);clear hc ha he hz;go_wp2_with (go_at_call 126;refine (CI.o _).mono ?_;rintro e w' ⟨rfl,rfl⟩)
      go_quiet (fail)
      go_wp2_with fail
      go_ret3
      rw [hg.o];refine ⟨?_,by rw [(HW.o.trans hf.o)];exact Q1 (Below.refl _ _) _⟩;show Ending.returned (.tuple #[.int .i64 (p:Nat),.bool false,.bool true])=_;rw [hb.o]
     ·have e44:((data[p].toNat:Int)==44)=false:=(by rw [hc];rfl);have e10:((data[p].toNat:Int)==10)=true:=(by rw [hc];rfl);clear hc ha he hz;go_wp2_with (go_at_call 126;refine (CI.o _).mono ?_;rintro e w' ⟨rfl,rfl⟩)
      go_quiet (fail)
      go_wp2_with fail
      go_ret3
      rw [hg.o];refine ⟨?_,by rw [(HW.o.trans hf.o)];exact Q1 (Below.refl _ _) _⟩;show Ending.returned (.tuple #[.int .i64 (p:Nat),.bool false,.bool true])=_;rw [hb.o]
theorem Z1t (l:List UInt8) (k:Nat) (h:k < l.length) (hc:l[k]=34):(∃ h1:k+1 < l.length,l[k+1]=34∧L3 (l.drop k)=2+L3 (l.drop (k+2)))∨((∀ h1:k+1 < l.length,l[k+1]≠34)∧L3 (l.drop k)=0):=by
 rw [List.drop_eq_getElem_cons h,hc];by_cases h1:k+1 < l.length
 ·rw [List.drop_eq_getElem_cons h1];by_cases h2:l[k+1]=34
  ·left;refine ⟨h1,h2,?_⟩;rw [h2,Y4g]
  ·right;exact ⟨fun _=>h2,X1z _ (fun e=>h2 (Option.some.inj e))⟩
 ·right;rw [List.drop_of_length_le yY];exact ⟨fun h=>absurd h h1,yX⟩
theorem X9n (l:List UInt8) (k:Nat) (h:k < l.length) (hc:l[k]≠34):L3 (l.drop k)=1+L3 (l.drop (k+1)):=by
 rw [List.drop_eq_getElem_cons h,Y4e _ _ hc]
theorem V7e (data:ByteArray) (pre q s:List UInt8) (w:World) (hd:data.data.toList=pre++(34::(q++34::s))) (hq:L3 (q++34::s)=q.length) (hs:FdEnd s) (hsz:data.size≤65536):
 Calls Tryz.prog 177 #[.string data,.int .i64 (pre.length:Nat)] w (Q8g (pre.length+q.length+2) true w):=by
 obtain ⟨R,hl⟩:∃ R:Ending→World→Prop,yK (R=Q8g (pre.length+q.length+2) true w):=⟨_,rfl⟩;rw [←hl.o];have hh:data.size=pre.length+1+(q.length+1+s.length):=(by rw [Lib.size_eq,hd];simp;omega);have hA:=zW (fun h=>show ((data[pre.length].toNat:Int)==34)=true by rw [L2 data pre (34::(q++34::s)) hd 0 pre.length yW rfl h];rfl);have hi:=zW (L2 data (pre++[34]) (q++34::s) (by rw [hd];simp));have hy:(pre++[(34:UInt8)]).length=pre.length+1:=yW;rw [hy] at hi;clear hy;have hu:(q++34::s).length=q.length+1+s.length:=yV;have H0:yK (0+L3 ((q++34::s).drop 0)=q.length):=(by show _=_;rw [List.drop_zero,Nat.zero_add];exact hq);have hr:yK (∀ h:q.length < (q++34::s).length,s=[]→(q++34::s).length=q.length+1):=fun _ e=>by rw [hu,e];rfl
 have ho:yK (∀ c r,s=c::r→∀ h:q.length+1 < (q++34::s).length,(q++34::s)[q.length+1]=c):=fun c r e h=>by
  subst e;rw [List.getElem_append_right yY];simp
 have HS:=zW hs;clear hd hq hs;generalize hP:pre.length=P at *;clear hP;generalize hL:q++34::s=L at *;clear hL;generalize hE:q.length=E at *;clear hE;have hG:(P:Int) < (data.size:Int):=yY;have hF:P < data.size:=yY;have t0:=hA.o hF;have hj:=zW hh;have hg:=zW hu;clear hh hu;obtain ⟨wo,hm⟩:∃ wo,yK (wo=w):=⟨w,rfl⟩;go_enter Tryz.func177,Tryz.ntmps177
 go_wp2_with fail
 rw [show (P:Int)+1=((P+1+0:Nat):Int) by omega];go_loopg [4] (E+1) (fun gk iv wr=>∃ k:Nat,iv=.int .i64 (P+1+k:Nat)∧k≤E∧yK (k+L3 (L.drop k)=E)∧yK (wr=wo)∧E+1 - k≤gk)
 case atStart=>exact ⟨0,rfl,Nat.zero_le _,H0.o,hm.o.symm,yQ⟩
 case round=>
  obtain ⟨k,rfl,hk,HK,HW,hgk⟩:=hrel;clear H0;obtain ⟨p,he⟩:∃ p,p=P+1+k:=⟨_,rfl⟩;rw [←he];have hn:k < L.length:=(by have:=hg.o;omega);have hp:p < data.size:=(by have:=hg.o;have:=hj.o;omega);have hH:(p:Int) < (data.size:Int):=yY;have hc:=hi.o k p hn he hp;by_cases h34:L[k]=34
  ·have t1:((data[p].toNat:Int) != 34)=false:=(by rw [hc,h34];rfl);rcases Z1t L k hn h34 with ⟨h1,h2,h3⟩ | ⟨h2,h3⟩
   ·have hw:p+1 < data.size:=(by have:=hg.o;have:=hj.o;omega);have hx:(p:Int)+1 < (data.size:Int):=yY;have ha:=hi.o (k+1) (p+1) h1 yY hw;have t2:((data[p+1].toNat:Int)==34)=true:=(by rw [ha,h2];rfl);have hf:yK (k+2+L3 (L.drop (k+2))=E):=(by show _=_;have:=HK.o;omega);have hv:k+2≤E:=(by have:=hf.o;omega);have ht:yK ((p:Int)+2=((P+1+(k+2):Nat):Int)):=(by show _=_;omega);clear hc ha he h34 h2;go_wp2_with fail
    rw [ht.o];go_roundg (E+1 - (k+2))
    case measure=>omega
    case rel=>exact ⟨k+2,rfl,hv,hf.o,HW.o,yQ⟩
   ·have hD:k=E:=(by have:=HK.o;omega);subst hD;have hb:yK ((p:Int)+1=((P+k+2:Nat):Int)):=(by show _=_;omega);rcases HS.o with rfl | ⟨c,r,rfl,hcc⟩
    ·have hz:p+1=data.size:=(by have:=hr.o hn rfl;have:=hj.o;simp at this;omega);have hJ:(data.size:Int)≤(p:Int)+1:=yY;have hC:¬ (data.size:Int)≤(p:Int):=yY;have hB:((p:Int)+1==(data.size:Int))=true:=(by rw [beq_iff_eq];omega);have hI:=zW hz;clear hc he h34 h2 hz;go_wp2_with fail
     go_quiet (fail)
     go_wp2_with fail
     go_ret3
     rw [hl.o];refine ⟨?_,by rw [(HW.o.trans hm.o)];exact Q1 (Below.refl _ _) _⟩;show Ending.returned (.tuple #[.int .i64 ((p:Int)+1),.bool true,.bool true])=_;rw [hb.o]
    ·have h1:k+1 < L.length:=(by have:=hg.o;simp at this;omega);have hw:p+1 < data.size:=(by have:=hg.o;have:=hj.o;omega);have hx:(p:Int)+1 < (data.size:Int):=yY;have ha:=(hi.o (k+1) (p+1) h1 yY hw).trans (ho.o c r rfl h1);have hC:¬ (data.size:Int)≤(p:Int):=yY;have hB:((p:Int)+1==(data.size:Int))=false:=(by rw [beq_eq_false_iff_ne];omega);rcases hcc with rfl | rfl
     ·have t2:((data[p+1].toNat:Int)==34)=false:=(by rw [ha];rfl);have e44:((data[p+1].toNat:Int)==44)=true:=(by rw [ha];rfl);clear hc ha he h34 h2;go_wp2_with fail
      go_quiet (fail)
      go_wp2_with fail
      go_ret3
      rw [hl.o];refine ⟨?_,by rw [(HW.o.trans hm.o)];exact Q1 (Below.refl _ _) _⟩;show Ending.returned (.tuple #[.int .i64 ((p:Int)+1),.bool true,.bool true])=_;rw [hb.o]
     ·have t2:((data[p+1].toNat:Int)==34)=false:=(by rw [ha];rfl);have e44:((data[p+1].toNat:Int)==44)=false:=(by rw [ha];rfl);have e10:((data[p+1].toNat:Int)==10)=true:=(by rw [ha];rfl);clear hc ha he h34 h2;go_wp2_with fail
      go_quiet (fail)
      go_wp2_with fail
      go_ret3
      rw [hl.o];refine ⟨?_,by rw [(HW.o.trans hm.o)];exact Q1 (Below.refl _ _) _⟩;show Ending.returned (.tuple #[.int .i64 ((p:Int)+1),.bool true,.bool true])=_;rw [hb.o]
  ·have t1:((data[p].toNat:Int) != 34)=true:=by
    rw [hc,bne_iff_ne];intro e;exact h34 (UInt8.toNat_inj.1 (by exact_mod_cast e))
   have hf:yK (k+1+L3 (L.drop (k+1))=E):=(by show _=_;have:=HK.o;have:=X9n L k hn h34;omega);have hv:k+1≤E:=(by have:=hf.o;omega);have ht:yK ((p:Int)+1=((P+1+(k+1):Nat):Int)):=(by show _=_;omega);clear hc he h34;go_wp2_with fail
   rw [ht.o];go_roundg (E+1 - (k+1))
   case measure=>omega
   case rel=>exact ⟨k+1,rfl,hv,hf.o,HW.o,yQ⟩
theorem Z8x (data:ByteArray) (pre s:List UInt8) (f:Fd) (w:World) (hd:data.data.toList=pre++(f.raw++s)) (hf:X4w f) (hs:FdEnd s) (hsz:data.size≤65536):
 Calls Tryz.prog 177 #[.string data,.int .i64 (pre.length:Nat)] w (Q8g (pre.length+f.raw.length) f.quo w):=by
 obtain ⟨raw,quo⟩:=f;unfold X4w at hf;cases quo with
 | false=>exact V3s data pre raw s w hd hf hs hsz
 | true=>
   obtain ⟨q,h1,h2⟩:=hf;simp only at h1 hd ⊢;subst h1;have:=V7e data pre q s w (by rw [hd];simp) (h2 s hs.no34) hs hsz;rw [show pre.length+(34::(q++[34])).length=pre.length+q.length+2 by simp;omega];exact this
def TbX (gt g:Nat) (data:ByteArray) (rec cols col tx:Nat) (w:World):Prop:=
 w.heap[gt]? =some (.cells #[.string data,.pointer (some ⟨g,0,none⟩),.int .i64 rec,.int .i64 cols,.int .i64 col,.int .i64 tx] 219)
section
variable {gt g:Nat} {data:ByteArray} {rec cols col tx:Nat} {w w':World}
theorem TbX.cells (h:TbX gt g data rec cols col tx w):w.cell? ⟨gt,0,none⟩=some (.string data)∧w.cell? ⟨gt,1,none⟩=some (.pointer (some ⟨g,0,none⟩))∧w.cell? ⟨gt,2,none⟩=some (.int .i64 rec)∧w.cell? ⟨gt,3,none⟩=some (.int .i64 cols)∧w.cell? ⟨gt,4,none⟩=some (.int .i64 col)∧w.cell? ⟨gt,5,none⟩=some (.int .i64 tx):=
 ⟨Z8 (l:=[_,_,_,_,_,_]) h 0 rfl,Z8 (l:=[_,_,_,_,_,_]) h 1 rfl,Z8 (l:=[_,_,_,_,_,_]) h 2 rfl,Z8 (l:=[_,_,_,_,_,_]) h 3 rfl,Z8 (l:=[_,_,_,_,_,_]) h 4 rfl,Z8 (l:=[_,_,_,_,_,_]) h 5 rfl⟩
theorem TbX.frozen (h:TbX gt g data rec cols col tx w) (j:Nat):w.frozen? ⟨gt,j,none⟩=false:=Y9 h j
theorem TbX.gsz (h:TbX gt g data rec cols col tx w):gt < w.heap.size:=(Array.getElem?_eq_some_iff.1 h).1
theorem TbX.below (h:TbX gt g data rec cols col tx w) (hb:Below w.heap.size w w'):TbX gt g data rec cols col tx w':=(hb.block gt h.gsz).trans h
theorem TbX.set2 (h:TbX gt g data rec cols col tx w) (n:Nat):TbX gt g data n cols col tx (w.setCell ⟨gt,2,none⟩ (.int .i64 n)):=by
 unfold TbX at h ⊢;rw [K1 h];rfl
theorem TbX.set3 (h:TbX gt g data rec cols col tx w) (n:Nat):TbX gt g data rec n col tx (w.setCell ⟨gt,3,none⟩ (.int .i64 n)):=by
 unfold TbX at h ⊢;rw [K1 h];rfl
theorem TbX.set4 (h:TbX gt g data rec cols col tx w) (n:Nat):TbX gt g data rec cols n tx (w.setCell ⟨gt,4,none⟩ (.int .i64 n)):=by
 unfold TbX at h ⊢;rw [K1 h];rfl
theorem TbX.set5 (h:TbX gt g data rec cols col tx w) (n:Nat):TbX gt g data rec cols col n (w.setCell ⟨gt,5,none⟩ (.int .i64 n)):=by
 unfold TbX at h ⊢;rw [K1 h];rfl
end
theorem Z4t {gt g:Nat} {data:ByteArray} {cols col tx:Nat} {w:World} (h:TbX gt g data 0 cols col tx w) (a b k:Nat) (hab:a≤b) (hb:b≤data.size) (hsz:data.size≤65536) (hk:k≤65536) (hu:(data.extract a b).toList≠P8):
 Calls Tryz.prog 178 #[.pointer (some ⟨gt,0,none⟩),.int .i64 a,.int .i64 b,.int .i64 k] w (fun e w'=>(∃ v,e=.returned v)∧TbX gt g data 0 (k+1) col tx w'∧Mod (fun i=>i=gt) w w'):=by
 obtain ⟨q0,q1,q2,q3,q4,q5⟩:=h.cells;have y3:=h.frozen 3;have hc:((data.extract a b).toList==[116,101,120,116])=false:=by
  rw [beq_eq_false_iff_ne];exact hu
 have HS:=zW (h.set3 (k+1));have HM:=zW (Mod.set w gt 3 (.int .i64 ((k+1:Nat):Int)));rw [show ((k+1:Nat):Int)=(k:Int)+1 by omega] at HS HM;have ha:b≤data.size:=hb;clear h hu;go_enter Tryz.func178,Tryz.ntmps178
 go_wp2_with fail
 refine bodyPost_end (results_none rfl _ _ _) rfl ?_;exact ⟨⟨_,rfl⟩,HS.o,HM.o⟩
theorem Z9h {gt g:Nat} {data:ByteArray} {cols col tx:Nat} {w:World} (h:TbX gt g data 0 cols col tx w) (a b k:Nat) (hab:a≤b) (hb:b≤data.size) (hsz:data.size≤65536) (hk:k≤65536) (htx:tx≤65536) (hu:(data.extract a b).toList=P8):
 Calls Tryz.prog 178 #[.pointer (some ⟨gt,0,none⟩),.int .i64 a,.int .i64 b,.int .i64 k] w (fun e w'=>(∃ v,e=.returned v)∧TbX gt g data 0 (k+1) k (tx+1) w'∧Mod (fun i=>i=gt) w w'):=by
 obtain ⟨q0,q1,q2,q3,q4,q5⟩:=h.cells;have y3:=h.frozen 3;have y4:=h.frozen 4;have y5:=h.frozen 5;have ha:((data.extract a b).toList==[116,101,120,116])=true:=by
  rw [beq_iff_eq];exact hu
 have h5:=h.set5 (tx+1);have h4:=h5.set4 k;have HS:=zW (h4.set3 (k+1));have HM:=zW (((Mod.set w gt 5 (.int .i64 ((tx+1:Nat):Int))).trans (Mod.set _ gt 4 (.int .i64 (k:Int))) (fun i hi _=>hi)).trans (Mod.set _ gt 3 (.int .i64 ((k+1:Nat):Int))) (fun i hi _=>hi));rw [show ((k+1:Nat):Int)=(k:Int)+1 by omega,show ((tx+1:Nat):Int)=(tx:Int)+1 by omega] at HS HM;rw [show ((tx+1:Nat):Int)=(tx:Int)+1 by omega] at h5 h4;obtain ⟨_,_,_,z3,z4,z5⟩:=h5.cells;obtain ⟨_,_,_,x3,x4,x5⟩:=h4.cells;clear h hu h5 h4;go_enter Tryz.func178,Tryz.ntmps178
 go_wp2_with fail
 refine bodyPost_end (results_none rfl _ _ _) rfl ?_;exact ⟨⟨_,rfl⟩,HS.o,HM.o⟩
theorem Y1w {w:World} {b o g:Nat} (h:w.cell? ⟨b,o,none⟩=some (.pointer (some ⟨g,0,none⟩))):(Instr.loadAt 205 (.pointer (some ⟨b,o,none⟩))).run Tryz.prog w=.ok (.pointer (some ⟨g,0,none⟩)) w:=by
 go_simp
theorem V1w {gt g:Nat} {data:ByteArray} {rec cols col tx:Nat} {w:World} (h:TbX gt g data rec cols col tx w) (a b k:Nat) (q:Bool) (hk:k < cols) (hc:k≠col):
 Calls Tryz.prog 179 #[.pointer (some ⟨gt,0,none⟩),.int .i64 a,.int .i64 b,.int .i64 k,.bool q] w (fun e w'=>e=.returned (.tuple #[.int .i64 0,.int .i64 0])∧w=w'):=by
 obtain ⟨q0,q1,q2,q3,q4,q5⟩:=h.cells;have t1:¬ ((cols:Int)≤(k:Int)):=yY;have t2:((k:Int)==(col:Int))=false:=(by rw [beq_eq_false_iff_ne];omega);have t3:((k:Int) != (col:Int))=true:=(by rw [bne_iff_ne];omega);clear h;go_enter Tryz.func179,Tryz.ntmps179
 go_wp2_with fail
 go_ret2
 exact ⟨rfl,rfl⟩
theorem V6a {B gt g:Nat} {data:ByteArray} {rec cols col tx fr:Nat} {lv:Value} {ps:List Pt} {w:World} (h:TbX gt g data rec cols col tx w) (hp:PsB B g data fr lv ps w) (hgg:gt≠g) (a b b1:Nat) (ts:Els)
 (hb1:b=b1+1) (hts:data.extract (a+1) b1=ofL (Q2 ts)) (hraw:RawOk 3 ts) (hfr:fr≤a+1) (hab:a+1≤b1) (hb:b≤data.size) (hsz:data.size≤65536) (hrec:rec < 100) (hcol:col < cols) (hps:ps.length≤100000):
 Calls Tryz.prog 179 #[.pointer (some ⟨gt,0,none⟩),.int .i64 a,.int .i64 b,.int .i64 col,.bool true] w (fun e w'=>e=.returned (.tuple #[.int .i64 0,.int .i64 0])∧(∃ lv',PsB B g data b1 lv' (ps++[⟨false,ofL [],data.extract fr (a+1)⟩,⟨true,ofL (Lib.decDigits rec),ofL (Q2 ts)⟩]) w')∧TbX gt g data rec cols col tx w'∧Below B w w'):=by
 obtain ⟨q0,q1,q2,q3,q4,q5⟩:=h.cells;have hk:=zW (fun W=>X1g (ofL (Q2 ts)) ts W ⟨by simp [ofL],hraw.els,hraw.len,by rw [←hts,ByteArray.size_extract];omega⟩);have HU:=zW (fun (w':World) (h:PsB B g data fr lv ps w')=>X3b (a+1) b1 (ofL (Lib.decDigits rec)) h hfr hab yY yY yY);rw [hts,show (⟨#[]⟩:ByteArray)=ofL [] from rfl,show ((a+1:Nat):Int)=(a:Int)+1 by omega] at HU;have hf:=zW (fun w=>Tryz.strconv_Itoa_small rec hrec w);rw [show (⟨(Lib.decDigits rec).toArray⟩:ByteArray)=ofL (Lib.decDigits rec) from rfl] at hf;have HT:=zW h;have HP:=zW hp;have hi:=zW (Y1 hp.own h yX);have t1:¬ ((cols:Int)≤(col:Int)):=yY;have t2:((col:Int)==(col:Int))=true:=yW;have t3:((col:Int) != (col:Int))=false:=yW;have e1:(b:Int) - 1=(b1:Int):=yY;have hm:b1≤data.size:=yY;have hn:(b:Int)≤65536:=yY;clear h hp hraw hb1;generalize ofL (Q2 ts)=u3 at hts hk HU;go_enter Tryz.func179,Tryz.ntmps179
 go_upto_region 8 with (go_at_call 15;refine (hk.o _).mono ?_;rintro e w3 ⟨v3,rfl,hl,hg⟩;obtain ⟨A3,c3,rfl⟩:=Q0 hl;have ha:=zW (HT.o.below hg);have hj:=zW (HP.o.below hg);have hh:=zW (hg.mono (Nat.le_trans HP.o.lt (Nat.le_of_lt HP.o.gsz)));clear hl hg)
 have ew1:IntKind.i64.wrap ((a:Int)+1)=(a:Int)+1:=(by rw [IntKind.wrap_i64];omega);have ew2:IntKind.i64.wrap ((b:Int) - 1)=(b1:Int):=(by rw [IntKind.wrap_i64];omega);have ew3:IntKind.i64.wrap (b1:Int)=(b1:Int):=(by rw [IntKind.wrap_i64];omega);obtain ⟨_,z1,z2,_,_,_⟩:=ha.o.cells
 -- REGION
 refine zqR (l0:=#[false,false,false,false,false,false,false,false,false,false,false,false,false,false]) 14 rfl ?_;refine zqM 0 61 (.pointer (some ⟨gt,0,none⟩)) rfl ?_;refine zzA 1 (.pointer (some ⟨gt,0,none⟩)) (some 62) rfl (fun _=>Q5r _ _ rfl yZ) ?_;refine zqF 2 63 (.pointer (some ⟨gt,1,none⟩)) rfl rfl (.pointer (some ⟨gt,0,none⟩)) ?_;refine zqM 4 65 (.int .i64 (a:Int)) rfl ?_;refine zqB 5 66 (.int .i64 ((a:Int)+1)) rfl rfl (.int .i64 (a:Int)) (.int .i64 1) ?_;refine zqM 6 67 (.int .i64 (b:Int)) rfl ?_;refine zqB 7 68 (.int .i64 (b1:Int)) rfl rfl (.int .i64 (b:Int)) (.int .i64 1) ?_;refine zqM 8 69 (.pointer (some ⟨gt,0,none⟩)) rfl ?_;refine zzA 9 (.pointer (some ⟨gt,0,none⟩)) (some 70) rfl (fun _=>Q5r _ _ rfl yZ) ?_;refine zqF 10 71 (.pointer (some ⟨gt,2,none⟩)) rfl rfl (.pointer (some ⟨gt,0,none⟩)) ?_;simp only [Act.put,zZ,zY,zX];refine zqt 3 11 rfl rfl ?_ ?_
 ·refine zqL (.pointer (some ⟨g,0,none⟩)) rfl (.pointer (some ⟨gt,1,none⟩)) (Y1w (w:=w3.drew) z1) ?_;simp only [Act.put,zZ,zY,zX];refine zqo 11 rfl ?_;refine zqL (.int .i64 (rec:Int)) rfl (.pointer (some ⟨gt,2,none⟩)) (O0 (w:=w3.drew) z2) ?_;simp only [Act.put,zZ,zY,zX];refine zqo 12 rfl ?_;refine Q0y (.int .i64 (rec:Int)) rfl Tryz.func146 (hf.o _) ?_;rintro e w' ⟨rfl,rfl⟩;refine ⟨.string (ofL (Lib.decDigits rec)),rfl,?_⟩;simp only [Act.put,zZ,zY,zX];refine zqo 13 rfl ?_;refine J0 (X5t (.tmp 64) (.tmp 66) (.tmp 68) (.tmp 73) _ (.pointer (some ⟨g,0,none⟩)) (.int .i64 ((a:Int)+1)) (.int .i64 (b1:Int)) (.string (ofL (Lib.decDigits rec))) rfl yZ yZ yZ yZ (enters_of Tryz.func145 yZ rfl _ _)) (HU.o _ hj.o.drew) ?_;rintro e w4 ⟨⟨v4,rfl⟩,lv4,hp4,hb4,hk4⟩;refine ⟨v4,rfl,?_⟩;simp only [Act.put,zZ,zY,zX];refine wpAny_done yZ ?_ _;have hd:=zW hp4;have he:yK (TbX gt g data rec cols col tx w4):=(hk4 gt ha.o.gsz hgg (fun e=>hi.o gt e rfl)).trans ha.o;have hc:=zW ((hh.o.drew).trans hb4);clear hp4 hb4 hk4;go_wp2_with fail
  go_ret2
  exact ⟨rfl,⟨lv4,hd.o⟩,he.o,hc.o⟩
 ·refine zqL (.int .i64 (rec:Int)) rfl (.pointer (some ⟨gt,2,none⟩)) (O0 (w:=w3.drew) z2) ?_;simp only [Act.put,zZ,zY,zX];refine zqt 3 12 rfl rfl ?_ ?_
  ·refine zqL (.pointer (some ⟨g,0,none⟩)) rfl (.pointer (some ⟨gt,1,none⟩)) (Y1w (w:=w3.drew) z1) ?_;simp only [Act.put,zZ,zY,zX];refine zqo 12 rfl ?_;refine Q0y (.int .i64 (rec:Int)) rfl Tryz.func146 (hf.o _) ?_;rintro e w' ⟨rfl,rfl⟩;refine ⟨.string (ofL (Lib.decDigits rec)),rfl,?_⟩;simp only [Act.put,zZ,zY,zX];refine zqo 13 rfl ?_;refine J0 (X5t (.tmp 64) (.tmp 66) (.tmp 68) (.tmp 73) _ (.pointer (some ⟨g,0,none⟩)) (.int .i64 ((a:Int)+1)) (.int .i64 (b1:Int)) (.string (ofL (Lib.decDigits rec))) rfl yZ yZ yZ yZ (enters_of Tryz.func145 yZ rfl _ _)) (HU.o _ hj.o.drew) ?_;rintro e w4 ⟨⟨v4,rfl⟩,lv4,hp4,hb4,hk4⟩;refine ⟨v4,rfl,?_⟩;simp only [Act.put,zZ,zY,zX];refine wpAny_done yZ ?_ _;have hd:=zW hp4;have he:yK (TbX gt g data rec cols col tx w4):=(hk4 gt ha.o.gsz hgg (fun e=>hi.o gt e rfl)).trans ha.o;have hc:=zW ((hh.o.drew).trans hb4);clear hp4 hb4 hk4;go_wp2_with fail
   go_ret2
   exact ⟨rfl,⟨lv4,hd.o⟩,he.o,hc.o⟩
  ·refine Q0y (.int .i64 (rec:Int)) rfl Tryz.func146 (hf.o _) ?_;rintro e w' ⟨rfl,rfl⟩;refine ⟨.string (ofL (Lib.decDigits rec)),rfl,?_⟩;simp only [Act.put,zZ,zY,zX];refine zqo 3 rfl ?_;refine zqL (.pointer (some ⟨g,0,none⟩)) rfl (.pointer (some ⟨gt,1,none⟩)) (Y1w (w:=w3.drew) z1) ?_;simp only [Act.put,zZ,zY,zX];refine zqo 13 rfl ?_;refine J0 (X5t (.tmp 64) (.tmp 66) (.tmp 68) (.tmp 73) _ (.pointer (some ⟨g,0,none⟩)) (.int .i64 ((a:Int)+1)) (.int .i64 (b1:Int)) (.string (ofL (Lib.decDigits rec))) rfl yZ yZ yZ yZ (enters_of Tryz.func145 yZ rfl _ _)) (HU.o _ hj.o.drew) ?_;rintro e w4 ⟨⟨v4,rfl⟩,lv4,hp4,hb4,hk4⟩;refine ⟨v4,rfl,?_⟩;simp only [Act.put,zZ,zY,zX];refine wpAny_done yZ ?_ _;have hd:=zW hp4;have he:yK (TbX gt g data rec cols col tx w4):=(hk4 gt ha.o.gsz hgg (fun e=>hi.o gt e rfl)).trans ha.o;have hc:=zW ((hh.o.drew).trans hb4);clear hp4 hb4 hk4;go_wp2_with fail
   go_ret2
   exact ⟨rfl,⟨lv4,hd.o⟩,he.o,hc.o⟩
 -- END
def pjC (l:List Fd):List UInt8:=l.flatMap fun f=>f.raw++[44]
theorem X6w (l:List Fd) (f:Fd):pjC (l++[f])=pjC l++(f.raw++[44]):=by simp [pjC]
theorem Q1k:∀ (a b:List Fd),b≠[]→J1 (a++b)=pjC a++J1 b
 | [],b,_=>rfl
 | f::a,b,h=>by
   rw [List.cons_append,Q2b f _ (by simp [h]),Q1k a b h];simp [pjC]
theorem V4s (a:List Fl):pjC (a.map X8m)=F1 a:=by
 unfold pjC F1;rw [List.flatMap_map];congr 1;funext f;rw [Q5s]
def X0e (td:List Fd) (rest:List UInt8):List UInt8:=if td=[] then rest else 44::(J1 td++rest)
theorem Y4r (rest:List UInt8):X0e [] rest=rest:=rfl
theorem X2d (g:Fd) (td:List Fd) (rest:List UInt8):X0e (g::td) rest=44::(J1 (g::td)++rest):=rfl
theorem Y4z (f:Fd) (td:List Fd) (rest:List UInt8):J1 (f::td)++rest=f.raw++X0e td rest:=by
 cases td with
 | nil=>rfl
 | cons g td=>rw [Q2b f _ yW,X2d];simp
def Q8n (rest:List UInt8):Prop:=rest=[]∨∃ r,rest=10::r
theorem Y4q (td:List Fd) (rest:List UInt8) (h:Q8n rest):FdEnd (X0e td rest):=by
 cases td with
 | nil=>
   rcases h with rfl | ⟨r,rfl⟩
   ·exact .inl rfl
   ·exact .inr ⟨10,r,rfl,.inr rfl⟩
 | cons g td=>exact .inr ⟨44,_,rfl,.inl rfl⟩
theorem V3u {gt g:Nat} {data:ByteArray} {cols col tx:Nat} {w:World} (h:TbX gt g data 0 cols col tx w) (a b k c' t':Nat) (raw:List UInt8) (hab:a≤b) (hb:b≤data.size) (hsz:data.size≤65536) (hk:k≤65536) (htx:tx≤65536) (hx:data.extract a b=ofL raw)
 (hu:(raw=P8∧c'=k∧t'=tx+1)∨(raw≠P8∧c'=col∧t'=tx)):
 Calls Tryz.prog 178 #[.pointer (some ⟨gt,0,none⟩),.int .i64 a,.int .i64 b,.int .i64 k] w (fun e w'=>(∃ v,e=.returned v)∧TbX gt g data 0 (k+1) c' t' w'∧Mod (fun i=>i=gt) w w'):=by
 rcases hu with ⟨h1,rfl,rfl⟩ | ⟨h1,rfl,rfl⟩
 ·exact Z9h h a b c' hab hb hsz hk htx (by rw [hx,B9];exact h1)
 ·exact Z4t h a b k hab hb hsz hk (by rw [hx,B9];exact h1)
def hcN (tcol k:Nat):Nat:=if tcol < k then tcol else 0
def htN (tcol k:Nat):Nat:=if tcol < k then 1 else 0
theorem Z9i (fs:List Fd) (tcol k:Nat) (f:Fd) (h:fs[k]? =some f) (ht:fs[tcol]? =some X5v) (ho:∀ i f,fs[i]? =some f→i≠tcol→f.raw≠P8):
 (f.raw=P8∧hcN tcol (k+1)=k∧htN tcol (k+1)=htN tcol k+1)∨(f.raw≠P8∧hcN tcol (k+1)=hcN tcol k∧htN tcol (k+1)=htN tcol k):=by
 unfold hcN htN;by_cases hk:k=tcol
 ·subst hk;rw [ht] at h;injection h with h;left;subst h;exact ⟨rfl,by rw [if_pos yY],by rw [if_pos yY,if_neg yY]⟩
 ·right;refine ⟨ho k f h hk,?_,?_⟩
  ·by_cases h1:tcol < k
   ·rw [if_pos h1,if_pos yY]
   ·rw [if_neg h1,if_neg yY]
  ·by_cases h1:tcol < k
   ·rw [if_pos h1,if_pos yY]
   ·rw [if_neg h1,if_neg yY]
theorem Z4u {gt g:Nat} (data:ByteArray) (fs:List Fd) (rest:List UInt8) (tcol:Nat) (w:World) (h:TbX gt g data 0 0 0 0 w) (hd:data.data.toList=J1 fs++rest) (hne:fs≠[]) (hr:Q8n rest) (hf:∀ f∈fs,X4w f) (ht:fs[tcol]? =some X5v) (ho:∀ i f,fs[i]? =some f→i≠tcol→f.raw≠P8) (hsz:data.size≤65536) (hfl:fs.length≤100):
 Calls Tryz.prog 151 #[.pointer (some ⟨gt,0,none⟩),.int .i64 0] w (fun e w'=>e=.returned (.tuple #[.int .i64 (min (((J1 fs).length:Int)+1) (data.size:Int)),.int .i64 0])∧TbX gt g data 0 fs.length tcol 1 w'∧Mod (fun i=>i=gt) w w'):=by
 obtain ⟨R,hq⟩:∃ R:Ending→World→Prop,yK (R=fun e w'=>e=.returned (.tuple #[.int .i64 (min (((J1 fs).length:Int)+1) (data.size:Int)),.int .i64 0])∧TbX gt g data 0 fs.length tcol 1 w'∧Mod (fun i=>i=gt) w w'):=⟨_,rfl⟩;rw [←hq.o];have HT:=zW h;have HD:=zW hd;have hv:=zW hr;have HF:=zW hf;have hI:=zW ht;have HO:=zW ho;have hm:tcol < fs.length:=(List.getElem?_eq_some_iff.1 ht).1;clear h hd hr hf ht ho;go_enter Tryz.func151,Tryz.ntmps151
 go_wp2_with fail
 go_loopg [6,7] (fs.length+1) (fun gk av cv wr=>∃ dn td,yK (fs=dn++td)∧td≠[]∧av=.int .i64 ((pjC dn).length:Nat)∧cv=.int .i64 (dn.length:Nat)∧yK (TbX gt g data 0 dn.length (hcN tcol dn.length) (htN tcol dn.length) wr)∧yK (Mod (fun i=>i=gt) w wr)∧td.length≤gk)
 case atStart=>exact ⟨[],fs,rfl,hne,rfl,rfl,HT.o,Mod.refl _ _,Nat.le_succ _⟩
 case round=>
  obtain ⟨dn,td,HE,hL,rfl,rfl,hx,HM,hgk⟩:=hrel;clear HT;cases td with
  | nil=>exact absurd rfl hL
  | cons f td=>
    have hA:fs[dn.length]? =some f:=(by rw [HE.o,List.getElem?_append_right yQ,Nat.sub_self];rfl);have hl:dn.length+1+td.length=fs.length:=(by rw [HE.o];simp;omega);have hj:data.data.toList=pjC dn++(f.raw++X0e td rest):=(by rw [HD.o,HE.o,Q1k _ _ yW,List.append_assoc,Y4z]);have ha:data.size=(pjC dn).length+(f.raw.length+(X0e td rest).length):=(by rw [Lib.size_eq,hj];simp);have hz:f∈fs:=(by rw [HE.o];simp);have CF:=zW (fun W=>Z8x data (pjC dn) (X0e td rest) f W hj (HF.o f hz) (Y4q td rest hv.o) hsz);have hk:data.extract (pjC dn).length ((pjC dn).length+f.raw.length)=ofL f.raw:=N9 data (pjC dn) f.raw (X0e td rest) _ (by rw [hj];simp) rfl;have hg:=Z9i fs tcol dn.length f hA hI.o HO.o;have hD:htN tcol dn.length≤65536:=by unfold htN;split<;>omega
    have CH:=zW (fun W (hW:TbX gt g data 0 dn.length (hcN tcol dn.length) (htN tcol dn.length) W)=>V3u hW (pjC dn).length ((pjC dn).length+f.raw.length) dn.length (hcN tcol (dn.length+1)) (htN tcol (dn.length+1)) f.raw yY yY hsz yY hD hk hg);obtain ⟨q0,q1,q2,q3,q4,q5⟩:=hx.o.cells;obtain ⟨N,hN⟩:∃ N,N=(pjC dn).length+f.raw.length:=⟨_,rfl⟩;rw [←hN] at CF CH;have hh:=zW hN;have hM:N≤data.size:=yY;have hn:yK ((J1 fs).length=(pjC dn).length+(J1 (f::td)).length):=(by show _=_;rw [HE.o,Q1k _ _ yW,List.length_append]);have he:=zW (L2 data (pjC dn++f.raw) (X0e td rest) (by rw [hj];simp));have hi:=zW ha;clear hg hk hj ha hA hN hD hz;go_upto_region 4 with (go_at_call 177;refine (CF.o _).mono ?_;rintro e w1 ⟨rfl,hu⟩;have hw:=zW (hx.o.below hu);have hF:=zW (HM.o.trans (Mod.of_below hu) (fun _ h=>h.elim));clear hu)
    obtain ⟨z0,z1,z2,z3,z4,z5⟩:=hw.o.cells;clear q0 q1 q2 q3 q4 q5;go_upto_region 11 with (go_at_call 178;refine (CH.o _ (by exact hw.o)).mono ?_;rintro e w2 ⟨⟨v2,rfl⟩,hC,hB⟩;have hb:=zW hC;have hp:=zW (hF.o.trans hB (fun i h _=>h));clear hC hB)
    cases td with
    | nil=>
      have hJ:yK ((J1 fs).length=N):=(by show _=_;rw [hn.o,hh.o];rfl);have ha:=hi.o;rw [Y4r] at ha he;rcases hv.o with hr | ⟨r,hr⟩
      ·have hy:((N:Int)==(data.size:Int))=true:=(by rw [hr] at ha;simp at ha;rw [beq_iff_eq];have:=hh.o;omega);clear ha;have ef:dn.length+1=fs.length:=(by simp at hl;omega);rw [ef] at hb;rw [show hcN tcol fs.length=tcol from if_pos hm,show htN tcol fs.length=1 from if_pos hm] at hb;obtain ⟨x0,x1,x2,x3,x4,x5⟩:=hb.o.cells;clear z0 z1 z2 z3 z4 z5 CH CF;go_wp2_with fail
       first | go_ret2 | skip
       rw [hq.o];refine ⟨?_,hb.o,hp.o⟩;rw [hJ.o];rfl
      ·have hs:N < data.size:=(by rw [hr] at ha;simp at ha;have:=hh.o;omega);have hy:((N:Int)==(data.size:Int))=false:=(by rw [beq_eq_false_iff_ne];omega);have hc:=he.o 0 N (by rw [hr];simp) (by rw [hh.o];simp) hs;have e10:((data[N].toNat:Int)==10)=true:=(by rw [hc];simp only [hr];rfl);clear ha hc;have ef:dn.length+1=fs.length:=(by simp at hl;omega);rw [ef] at hb;rw [show hcN tcol fs.length=tcol from if_pos hm,show htN tcol fs.length=1 from if_pos hm] at hb;obtain ⟨x0,x1,x2,x3,x4,x5⟩:=hb.o.cells;clear z0 z1 z2 z3 z4 z5 CH CF;go_wp2_with fail
       first | go_ret2 | skip
       rw [hq.o];refine ⟨?_,hb.o,hp.o⟩;rw [hJ.o];rfl
    | cons g2 td=>
      have ha:=hi.o;rw [X2d] at ha he;have hs:N < data.size:=(by simp at ha;have:=hh.o;omega);have hy:((N:Int)==(data.size:Int))=false:=(by rw [beq_eq_false_iff_ne];omega);have hc:=he.o 0 N yW (by rw [hh.o];simp) hs;have e10:((data[N].toNat:Int)==10)=false:=(by rw [hc];rfl);obtain ⟨x0,x1,x2,x3,x4,x5⟩:=hb.o.cells;have hG:yK ((N:Int)+1=((pjC (dn++[f])).length:Nat)):=(by show _=_;rw [X6w,List.length_append,List.length_append,hh.o];simp;omega);have hH:yK ((dn.length:Int)+1=((dn++[f]).length:Nat)):=(by show _=_;simp);have hE:yK (fs=dn++[f]++(g2::td)):=(by show _=_;rw [HE.o];simp);have hK:td.length+2≤gk:=(by simpa using hgk);clear z0 z1 z2 z3 z4 z5 CH CF ha hc;go_wp2_with fail
      rw [hG.o,hH.o];go_roundg (td.length+1)
      case measure=>omega
      case rel=>
       refine ⟨dn++[f],g2::td,hE.o,by simp,rfl,rfl,?_,hp.o,by simp⟩;rw [show (dn++[f]).length=dn.length+1 by simp];exact hb.o
def Q9c {α:Type} (tcol k:Nat) (x y:α):α:=if tcol < k then x else y
theorem X4s {α:Type} (k:Nat) (x y:α):Q9c k k x y=y∧Q9c k (k+1) x y=x:=⟨if_neg yY,if_pos yY⟩
theorem Z3i {α:Type} (tcol k:Nat) (x y:α) (h:k≠tcol):Q9c tcol (k+1) x y=Q9c tcol k x y:=by
 unfold Q9c;by_cases h1:tcol < k
 ·rw [if_pos h1,if_pos yY]
 ·rw [if_neg h1,if_neg yY]
theorem Y0o {α:Type} (tcol:Nat) (x y:α):Q9c tcol 0 x y=y:=if_neg yY
theorem X1e {α:Type} (tcol n:Nat) (x y:α) (h:tcol < n):Q9c tcol n x y=x:=if_pos h
theorem V8j {B gt g:Nat} {data:ByteArray} {rec cols tx fr0:Nat} {lv:Value} {ps0:List Pt} {w:World} (tcol k p:Nat) (f:Fd) (ts:Els) (fr1:Nat) (ps1:List Pt)
 (h:TbX gt g data rec cols tcol tx w) (hp:PsB B g data (Q9c tcol k fr1 fr0) lv (Q9c tcol k ps1 ps0) w) (hgg:gt≠g)
 (hf:k=tcol→f=Y4m ts) (hk:k < cols) (pre s:List UInt8) (hd:data.data.toList=pre++(f.raw++s)) (hp0:p=pre.length) (hraw:RawOk 3 ts) (hfr:fr0≤p+1)
 (h1:k=tcol→fr1=p+1+(Q2 ts).length∧ps1=ps0++[⟨false,ofL [],data.extract fr0 (p+1)⟩,⟨true,ofL (Lib.decDigits rec),ofL (Q2 ts)⟩])
 (hsz:data.size≤65536) (hrec:rec < 100) (hps:ps0.length≤100000):
 Calls Tryz.prog 179 #[.pointer (some ⟨gt,0,none⟩),.int .i64 p,.int .i64 ((p+f.raw.length:Nat):Int),.int .i64 k,.bool f.quo] w (fun e w'=>e=.returned (.tuple #[.int .i64 0,.int .i64 0])∧(∃ lv',PsB B g data (Q9c tcol (k+1) fr1 fr0) lv' (Q9c tcol (k+1) ps1 ps0) w')∧TbX gt g data rec cols tcol tx w'∧Below B w w'):=by
 by_cases e:k=tcol
 ·subst e;obtain ⟨h1,h2⟩:=h1 rfl;have hf:=hf rfl;subst hf;rw [(X4s k fr1 fr0).1,(X4s k ps1 ps0).1] at hp;rw [(X4s k fr1 fr0).2,(X4s k ps1 ps0).2];have hl:(Y4m ts).raw.length=(Q2 ts).length+2:=(by simp [Y4m]);have ha:data.data.toList=pre++[34]++Q2 ts++(34::s):=(by rw [hd];simp [Y4m]);have hc:data.extract (p+1) (p+1+(Q2 ts).length)=ofL (Q2 ts):=by
   have:=N9 data (pre++[34]) (Q2 ts) (34::s) (p+1+(Q2 ts).length) ha (by rw [List.length_append,hp0];rfl);rwa [List.length_append,←hp0] at this
  have hb:p+((Q2 ts).length+2)≤data.size:=(by rw [Lib.size_eq,ha,hp0];simp);have ht:=V6a h hp hgg p (p+((Q2 ts).length+2)) (p+1+(Q2 ts).length) ts yY hc hraw hfr yY hb hsz hrec hk hps;rw [←hl] at ht;refine ht.mono ?_;rintro e w' ⟨h3,h4,h5,h6⟩;rw [h1,h2];exact ⟨h3,h4,h5,h6⟩
 ·refine (V1w h p (p+f.raw.length) k f.quo hk e).mono ?_;rintro e' w' ⟨h3,rfl⟩;rw [Z3i _ _ _ _ e,Z3i _ _ _ _ e];exact ⟨h3,⟨lv,hp⟩,h,Below.refl _ _⟩
theorem Z6l {B gt g:Nat} (data:ByteArray) (pre0:List UInt8) (fs:List Fd) (rest:List UInt8) (tcol:Nat) (ts:Els) (rec fr0:Nat) (lv0:Value) (ps0:List Pt) (w:World) (h:TbX gt g data rec fs.length tcol 1 w) (hp:PsB B g data fr0 lv0 ps0 w) (hgg:gt≠g)
 (hd:data.data.toList=pre0++(J1 fs++rest)) (hne:fs≠[]) (hr:Q8n rest) (hf:∀ f∈fs,X4w f) (ht:fs[tcol]? =some (Y4m ts)) (hraw:RawOk 3 ts) (hfr:fr0≤pre0.length) (hrec1:1≤rec) (hrec:rec < 100) (hsz:data.size≤65536) (hfl:fs.length≤100) (hps:ps0.length≤100000):
 Calls Tryz.prog 151 #[.pointer (some ⟨gt,0,none⟩),.int .i64 (pre0.length:Nat)] w (fun e w'=>e=.returned (.tuple #[.int .i64 (min (((pre0++J1 fs).length:Int)+1) (data.size:Int)),.int .i64 0])∧TbX gt g data rec fs.length tcol 1 w'∧(∃ lv',PsB B g data (pre0.length+(pjC (fs.take tcol)).length+1+(Q2 ts).length) lv' (ps0++[⟨false,ofL [],data.extract fr0 (pre0.length+(pjC (fs.take tcol)).length+1)⟩,⟨true,ofL (Lib.decDigits rec),ofL (Q2 ts)⟩]) w')∧Below B w w'):=by
 generalize hfr1:pre0.length+(pjC (fs.take tcol)).length+1+(Q2 ts).length=fr1;generalize hps1:ps0++[(⟨false,ofL [],data.extract fr0 (pre0.length+(pjC (fs.take tcol)).length+1)⟩:Pt),⟨true,ofL (Lib.decDigits rec),ofL (Q2 ts)⟩]=ps1;obtain ⟨R,hs⟩:∃ R:Ending→World→Prop,yK (R=fun e w'=>e=.returned (.tuple #[.int .i64 (min (((pre0++J1 fs).length:Int)+1) (data.size:Int)),.int .i64 0])∧TbX gt g data rec fs.length tcol 1 w'∧(∃ lv',PsB B g data fr1 lv' ps1 w')∧Below B w w'):=⟨_,rfl⟩;rw [←hs.o];have HT:=zW h;have HP:=zW hp;have HD:=zW hd;have hx:=zW hr;have HF:=zW hf;have hR:=zW ht;have hI:=zW hfr1;have hK:=zW hps1;have hM:=zW hraw;have hm:tcol < fs.length:=(List.getElem?_eq_some_iff.1 ht).1;have hS:B≤w.heap.size:=Nat.le_trans hp.lt (Nat.le_of_lt hp.gsz);have Ha:¬ ((rec:Int)≤0):=yY;have hZ:(0:Int) < (rec:Int):=yY;have hV:((rec:Int)==0)=false:=(by rw [beq_eq_false_iff_ne];omega);clear h hd hr hf ht hp hfr1 hps1 hraw;go_enter Tryz.func151,Tryz.ntmps151
 go_wp2_with fail
 go_loopg [6,7] (fs.length+1) (fun gk av cv wr=>∃ dn td p,yK (fs=dn++td)∧td≠[]∧av=.int .i64 (p:Nat)∧yK (p=(pre0++pjC dn).length)∧cv=.int .i64 (dn.length:Nat)∧yK (TbX gt g data rec fs.length tcol 1 wr)∧(∃ lv,yK (PsB B g data (Q9c tcol dn.length fr1 fr0) lv (Q9c tcol dn.length ps1 ps0) wr))∧yK (Below B w wr)∧td.length≤gk)
 case atStart=>exact ⟨[],fs,pre0.length,rfl,hne,rfl,by (show _=_);simp [pjC],rfl,HT.o,⟨lv0,by rw [List.length_nil,Y0o,Y0o];exact HP.o⟩,Below.refl _ _,Nat.le_succ _⟩
 case round=>
  obtain ⟨dn,td,p,HE,hX,rfl,hw,rfl,hz,⟨lv,hL⟩,HB,hgk⟩:=hrel;clear HT HP;cases td with
  | nil=>exact absurd rfl hX
  | cons f td=>
    have hv:fs[dn.length]? =some f:=(by rw [HE.o,List.getElem?_append_right yQ,Nat.sub_self];rfl);have hk:dn.length+1+td.length=fs.length:=(by rw [HE.o];simp;omega);have hj:data.data.toList=(pre0++pjC dn)++(f.raw++X0e td rest):=(by rw [HD.o,HE.o,Q1k _ _ yW,List.append_assoc,Y4z,List.append_assoc]);have ha:data.size=(pre0++pjC dn).length+(f.raw.length+(X0e td rest).length):=(by rw [Lib.size_eq,hj];simp;omega);have hC:f∈fs:=(by rw [HE.o];simp);have CF:=zW (fun W=>Z8x data (pre0++pjC dn) (X0e td rest) f W hj (HF.o f hC) (Y4q td rest hx.o) hsz);have hF:dn.length=tcol→dn=fs.take tcol:=fun e=>by rw [HE.o,←e,List.take_left]
    have CH:=zW (fun lv W (hW:TbX gt g data rec fs.length tcol 1 W) (hP:PsB B g data (Q9c tcol dn.length fr1 fr0) lv (Q9c tcol dn.length ps1 ps0) W)=>V8j tcol dn.length (pre0++pjC dn).length f ts fr1 ps1 hW hP hgg (fun e=>by rw [e] at hv;exact Option.some.inj (hv.symm.trans hR.o)) yY (pre0++pjC dn) (X0e td rest) hj rfl hM.o (by rw [List.length_append];omega) (fun e=>by
     rw [←hI.o,←hK.o,←hF e,List.length_append];exact ⟨rfl,rfl⟩) hsz hrec hps)
    obtain ⟨q0,q1,q2,q3,q4,q5⟩:=hz.o.cells;rw [←hw.o] at CF CH;obtain ⟨N,hN⟩:∃ N,N=p+f.raw.length:=⟨_,rfl⟩;rw [←hN] at CF CH;rw [hw.o] at hN;have he:=zW hN;have hY:N≤data.size:=yY;have ho:yK ((pre0++J1 fs).length=(pre0++pjC dn).length+(J1 (f::td)).length):=(by show _=_;rw [HE.o,Q1k _ _ yW,List.length_append,List.length_append,List.length_append,Nat.add_assoc]);have hb:=zW (L2 data (pre0++pjC dn++f.raw) (X0e td rest) (by rw [hj];simp));have hh:=zW ha;clear hj ha hv hN hC hF;go_upto_region 4 with (go_at_call 177;refine (CF.o _).mono ?_;rintro e w1 ⟨rfl,hl⟩;have hy:=zW (hz.o.below hl);have hq:=zW (hL.o.below hl);have hG:=zW (HB.o.trans (hl.mono (Nat.le_trans hS HB.o.size)));clear hl)
    obtain ⟨z0,z1,z2,z3,z4,z5⟩:=hy.o.cells;clear q0 q1 q2 q3 q4 q5;go_upto_region 11 with (go_at_call 179;refine (CH.o _ _ (by exact hy.o) (by exact hq.o)).mono ?_;rintro e w2 ⟨rfl,⟨lv2,hD⟩,hE,hA⟩;have hg:=zW hE;have hi:=zW hD;have hn:=zW (hG.o.trans hA);clear hE hD hA)
    cases td with
    | nil=>
      have hJ:yK ((pre0++J1 fs).length=N):=(by show _=_;rw [ho.o,he.o];rfl);have ha:=hh.o;rw [Y4r] at ha hb;rcases hx.o with hr | ⟨r,hr⟩
      ·have hB:((N:Int)==(data.size:Int))=true:=(by rw [hr] at ha;simp only [List.length_nil] at ha;rw [beq_iff_eq];have:=he.o;omega);clear ha;have ef:dn.length+1=fs.length:=(by simp at hk;omega);rw [ef,X1e _ _ _ _ hm,X1e _ _ _ _ hm] at hi;obtain ⟨x0,x1,x2,x3,x4,x5⟩:=hg.o.cells;have hT:¬ ((dn.length:Int)+1 < (fs.length:Int)):=yY;clear z0 z1 z2 z3 z4 z5 CH CF;go_wp2_with fail
       first | go_ret2 | skip
       rw [hs.o];refine ⟨?_,hg.o,⟨lv2,hi.o⟩,hn.o⟩;rw [hJ.o];try rfl
      ·have hu:N < data.size:=(by rw [hr] at ha;simp only [List.length_cons] at ha;have:=he.o;omega);have hB:((N:Int)==(data.size:Int))=false:=(by rw [beq_eq_false_iff_ne];omega);have hc:=hb.o 0 N (by rw [hr];simp) (by have:=he.o;simp only [List.length_append] at this ⊢;omega) hu;have e10:((data[N].toNat:Int)==10)=true:=(by rw [hc];simp only [hr];rfl);clear ha hc;have ef:dn.length+1=fs.length:=(by simp at hk;omega);rw [ef,X1e _ _ _ _ hm,X1e _ _ _ _ hm] at hi;obtain ⟨x0,x1,x2,x3,x4,x5⟩:=hg.o.cells;have hT:¬ ((dn.length:Int)+1 < (fs.length:Int)):=yY;clear z0 z1 z2 z3 z4 z5 CH CF;go_wp2_with fail
       first | go_ret2 | skip
       rw [hs.o];refine ⟨?_,hg.o,⟨lv2,hi.o⟩,hn.o⟩;rw [hJ.o];try rfl
    | cons g2 td=>
      have ha:=hh.o;rw [X2d] at ha hb;have hu:N < data.size:=(by simp only [List.length_cons] at ha;have:=he.o;omega);have hB:((N:Int)==(data.size:Int))=false:=(by rw [beq_eq_false_iff_ne];omega);have hc:=hb.o 0 N yW (by have:=he.o;simp only [List.length_append] at this ⊢;omega) hu;have e10:((data[N].toNat:Int)==10)=false:=(by rw [hc];rfl);obtain ⟨x0,x1,x2,x3,x4,x5⟩:=hg.o.cells;have hO:yK (N+1=(pre0++pjC (dn++[f])).length):=(by show _=_;have:=he.o;rw [X6w];simp only [List.length_append,List.length_singleton] at this ⊢;omega);have hQ:yK ((dn.length:Int)+1=((dn++[f]).length:Nat)):=(by show _=_;simp);have hH:yK (fs=dn++[f]++(g2::td)):=(by show _=_;rw [HE.o];simp);have hU:td.length+2≤gk:=(by simpa using hgk);clear z0 z1 z2 z3 z4 z5 CH CF ha hc;go_wp2_with fail
      rw [hQ.o,show (N:Int)+1=((N+1:Nat):Int) from rfl];go_roundg (td.length+1)
      case measure=>omega
      case rel=>
       refine ⟨dn++[f],g2::td,N+1,hH.o,by simp,rfl,hO.o,rfl,hg.o,⟨lv2,?_⟩,hn.o,by simp⟩;rw [show (dn++[f]).length=dn.length+1 by simp];exact hi.o
def U1 (a b:List Fl) (rs:List Rc):List UInt8:=R2 a b++rs.flatMap fun r=>10::Q6l r
def N4 (rs:List Rc) (tl:List UInt8):List UInt8:=(rs.flatMap fun r=>10::Q6l r)++tl
theorem Q3v (a b:List Fl) (dn td:List Rc) (tl:List UInt8):U1 a b (dn++td)++tl=U1 a b dn++N4 td tl:=by simp [U1,N4]
theorem Q9a (a b:List Fl) (dn:List Rc) (r:Rc):U1 a b (dn++[r])=U1 a b dn++(10::Q6l r):=by simp [U1]
theorem Q2y (r:Rc) (td:List Rc) (tl:List UInt8):N4 (r::td) tl=10::(Q6l r++N4 td tl):=by simp [N4]
theorem Q4y (td:List Rc) (tl:List UInt8) (h:tl=[]∨tl=[10]):Q8n (N4 td tl):=by
 cases td with
 | nil=>
   rcases h with rfl | rfl
   ·exact .inl rfl
   ·exact .inr ⟨[],rfl⟩
 | cons r td=>exact .inr ⟨_,Q2y r td tl⟩
theorem X8a (a b:List Fl) (dn:List Rc) (r:Rc):Z4 a b (dn++[r])=P2 (Z4 a b dn) r:=by
 unfold Z4;rw [List.foldl_append];rfl
theorem Q1r (a b:List Fl) (rs:List Rc):(Z4 a b rs).1.length=rs.length:=by
 suffices h:∀ (rs:List Rc) (st:List Un×List UInt8),(rs.foldl P2 st).1.length=st.1.length+rs.length by
  have:=h rs ([],R2 a b);unfold Z4;simpa using this
 intro rs;induction rs with
 | nil=>intro st;rfl
 | cons r rs ih=>
   intro st;rw [List.foldl_cons,ih];show (st.1++[_]).length+rs.length=_;rw [List.length_append,List.length_cons];simp;omega
theorem Q0v (a b:List Fl) (rs:List Rc):U1 a b rs=Z2 (Z4 a b rs).1++(Z4 a b rs).2:=by
 have:=X3f rs ([],R2 a b);rw [show Z2 ([]:List Un)=[] from rfl,List.nil_append] at this;exact this.symm
structure RcF (a b:List Fl) (r:Rc):Prop where
 pre:r.pre.length=a.length
 post:r.post.length=b.length
 okA:∀ f∈r.pre,Q5m f
 okB:∀ f∈r.post,Q5m f
 raw:RawOk 3 r.ts
theorem Y6g (r:Rc) (n:Nat) (h:r.pre.length=n):pjC ((Q0b r).take n)=F1 r.pre:=by
 unfold Q0b;rw [List.take_left' (by simpa using h),V4s]
def Z7p (a b:List Fl) (dn td:List Rc) (size:Nat):Nat:=if td=[] then size else (U1 a b dn).length+1
theorem Y3m (a b:List Fl) (dn td:List Rc) (tl:List UInt8) (h:tl=[]∨tl=[10]) (size n:Nat) (hs:size=(U1 a b dn++N4 td tl).length) (hn:n=(U1 a b dn).length):min ((n:Int)+1) (size:Int)=((Z7p a b dn td size:Nat):Int):=by
 subst hn;unfold Z7p;cases td with
 | nil=>
   rw [if_pos rfl,List.length_append] at *;rcases h with rfl | rfl
   ·simp [N4] at hs;omega
   ·simp [N4] at hs;omega
 | cons r td=>
   rw [if_neg yW];rw [Q2y,List.length_append] at hs;simp only [List.length_cons] at hs;omega
theorem Y7h (data:ByteArray) (a b:List Fl) (rs:List Rc) (tl:List UInt8) (w:World) (htl:tl=[]∨tl=[10]) (hd:data.data.toList=U1 a b rs++tl)
 (ha:∀ f∈a,Q5m f∧Q3u f≠P8) (hb:∀ f∈b,Q5m f∧Q3u f≠P8) (hrs:∀ r∈rs,RcF a b r) (hkey:∀ i r,rs[i]? =some r→r.key=Lib.decDigits (i+1)) (hrl:rs.length≤98) (hal:a.length+1+b.length≤90) (hsz:data.size≤65536):
 Calls Tryz.prog 96 #[.string data] w (K4 (B8 (Z4 a b rs).1 ((Z4 a b rs).2++tl)) w):=by
 obtain ⟨R,hO⟩:∃ R:Ending→World→Prop,yK (R=K4 (B8 (Z4 a b rs).1 ((Z4 a b rs).2++tl)) w):=⟨_,rfl⟩;rw [←hO.o];have CP:=zW (fun w=>Q4s data w);have HD:=zW hd;have He:=zW hrs;have hF:=zW hkey;have hP:=zW htl;have hB:=Y4v a b;have CN0:=zW (fun (gt g:Nat) W (hW:TbX gt g data 0 0 0 0 W)=>Z4u data (Q5l a b) (N4 rs tl) a.length W hW (by rw [hd,X0g,show R2 a b=U1 a b [] by simp [U1]];exact Q3v a b [] rs tl) (by intro e;rw [e] at hB;simp at hB;omega) (Q4y rs tl htl) (Z2e a b (fun f hf=>(ha f hf).1) (fun f hf=>(hb f hf).1)) (Z2d a b) (X5x a b (fun f hf=>(ha f hf).2) (fun f hf=>(hb f hf).2)) hsz yY);have hm:=Y3m a b [] rs tl htl data.size (J1 (Q5l a b)).length (by rw [Lib.size_eq,hd,←Q3v];rfl) (by rw [X0g];simp [U1]);rw [hm,hB] at CN0;clear hd hrs hkey htl ha hb hm hB;go_enter Tryz.func96,Tryz.ntmps96
 go_upto_region 4 with (go_at_call 142;refine (CP.o _).mono ?_;rintro e w0 ⟨g,rfl,hZ,hR⟩;have hH:=zW hZ;have hE:=zW hR;clear hZ hR)
 have Hg:=hH.o.gsz;have hD:=hE.o.size;have hI:=zW (hH.o.below ((Below.refl w0.heap.size w0).alloc yQ (.cells #[.string data,.pointer (some ⟨g,0,none⟩),.int .i64 0,.int .i64 0,.int .i64 0,.int .i64 0] 219)));have hp:=zW (hE.o.alloc hD (.cells #[.string data,.pointer (some ⟨g,0,none⟩),.int .i64 0,.int .i64 0,.int .i64 0,.int .i64 0] 219));have hy:yK (TbX w0.heap.size g data 0 0 0 0 (w0.alloc (.cells #[.string data,.pointer (some ⟨g,0,none⟩),.int .i64 0,.int .i64 0,.int .i64 0,.int .i64 0] 219))):=heap_alloc_new w0 _;generalize w0.alloc (.cells #[.string data,.pointer (some ⟨g,0,none⟩),.int .i64 0,.int .i64 0,.int .i64 0,.int .i64 0] 219)=w1 at hI hp hy ⊢;have hC:w0.heap.size≠g:=yY;generalize w0.heap.size=gt at hC hy hD ⊢;clear hH hE Hg;obtain ⟨n,hn⟩:∃ n,n=a.length+1+b.length:=⟨_,rfl⟩;rw [←hn] at CN0;have HN:=zW hn;have Hh:n≤90:=yY;have Hj:0 < data.size:=(by rw [Lib.size_eq,HD.o];unfold U1 R2 P8;simp;omega);clear hn hal;go_loopg [3] (rs.length+1) (fun gk av wr=>(av=.int .i64 0∧yK (TbX gt g data 0 0 0 0 wr)∧(∃ lv,yK (PsB w.heap.size g data 0 lv [] wr))∧yK (Below w.heap.size w wr)∧rs.length+1≤gk)∨(∃ dn td,yK (rs=dn++td)∧av=.int .i64 (Z7p a b dn td data.size:Nat)∧yK (TbX gt g data (dn.length+1) n a.length 1 wr)∧(∃ lv,yK (PsB w.heap.size g data (Z2 (Z4 a b dn).1).length lv (G9 (Z4 a b dn).1) wr))∧yK (Below w.heap.size w wr)∧td.length≤gk))
 case atStart=>exact .inl ⟨rfl,hy.o,⟨_,hI.o⟩,hp.o,yQ⟩
 case round=>
  clear hy hI hp;rcases hrel with ⟨rfl,HT,⟨lv,HP⟩,HB,hgk⟩ | ⟨dn,td,HE,rfl,HT,⟨lv,HP⟩,HB,hgk⟩
  ·obtain ⟨q0,q1,q2,q3,q4,q5⟩:=HT.o.cells;have hG:=zW (Y1 HP.o.own HT.o yX);go_upto_region 8 with (go_at_call 151;refine (CN0.o _ _ _ (by exact HT.o)).mono ?_;rintro e w2 ⟨rfl,hx,hY⟩;have hl:=zW hx;have Hd:=zW hY;clear hx hY)
   obtain ⟨z0,z1,z2,z3,z4,z5⟩:=hl.o.cells;have y2:=hl.o.frozen 2;have hz:=zW (hl.o.set2 1);have hj:=zW (Hd.o.trans (Mod.set w2 gt 2 (.int .i64 1)) (fun i h _=>h));have Hl:=HT.o.gsz;clear q0 q1 q2 q3 q4 q5;go_wp2_with fail
   go_roundg rs.length
   case measure=>omega
   case rel=>
    refine .inr ⟨[],rs,rfl,rfl,hz.o,⟨lv,?_⟩,HB.o.trans (hj.o.below (fun i hi=>by rw [hi];exact hD) HB.o.size),yQ⟩;exact ⟨(hj.o.block g HP.o.gsz (fun e=>hC e.symm)).trans HP.o.box,hj.o.own HP.o.own (fun k hk e=>hG.o k hk e),HP.o.lt⟩
  ·obtain ⟨q0,q1,q2,q3,q4,q5⟩:=HT.o.cells;have Hm:(((dn.length+1:Nat):Int)==0)=false:=(by rw [beq_eq_false_iff_ne];omega);have Hn:((dn.length:Int)+1==0)=false:=(by rw [beq_eq_false_iff_ne];omega);cases td with
   | nil=>
     have he:rs=dn:=(by have:=HE.o;rwa [List.append_nil] at this);subst he;rw [show Z7p a b rs [] data.size=data.size from if_pos rfl];have hu:=P6 (Z4 a b rs).1;rw [Q1r] at hu;have hh:=Q0v a b rs;have hV:(Z2 (Z4 a b rs).1).length≤data.size:=(by rw [Lib.size_eq,HD.o,hh];simp);have hU:data.extract (Z2 (Z4 a b rs).1).length data.size=ofL ((Z4 a b rs).2++tl):=P4 _ _ _ (by rw [HD.o,hh,List.append_assoc]);have HC:=zW (X6i HP.o hV yY yY);rw [hU,show (⟨#[]⟩:ByteArray)=ofL [] from rfl,←Q4u] at HC;clear hU hV hu hh;go_wp2_with (go_at_call 147;refine (HC.o).mono ?_;rintro e w1 ⟨v,rfl,ho,hS⟩;have HO:=zW ho;have hp:=zW (HB.o.trans hS);obtain ⟨A,c,rfl⟩:=Q0 ho;clear ho hS)
     first | go_ret3 | skip
     rw [hO.o];exact ⟨_,rfl,HO.o,hp.o⟩
   | cons r td=>
     have hr:=He.o r (by rw [HE.o];simp);have Hb:=hF.o dn.length r (by rw [HE.o,List.getElem?_append_right yQ,Nat.sub_self];rfl);have Hk:dn.length+1+td.length=rs.length:=(by rw [HE.o];simp;omega);have hw:(Q0b r).length=n:=(by rw [Y6h,hr.pre,hr.post,HN.o]);obtain ⟨pre0,hg⟩:∃ pre0,pre0=U1 a b dn++[10]:=⟨_,rfl⟩;have hc:pre0.length=(U1 a b dn).length+1:=(by rw [hg];simp);have hQ:Z7p a b dn (r::td) data.size=pre0.length:=(by rw [hc];exact if_neg yW);rw [hQ];have hA:data.data.toList=pre0++(J1 (Q0b r)++N4 td tl):=(by rw [HD.o,HE.o,Q3v,Q2y,Q3x,hg];simp);have hh:=Q0v a b dn;have hu:=P6 (Z4 a b dn).1;rw [Q1r] at hu;have hL:=X8a a b dn r;have hM:=Y6g r a.length hr.pre;have hK:J1 (Q0b r)=F1 r.pre++(34::(Q2 r.ts++(34::T5 r.post))):=(by rw [Q3x];rfl);have hs:pre0.length+(pjC ((Q0b r).take a.length)).length+1+(Q2 r.ts).length=(Z2 (Z4 a b (dn++[r])).1).length:=by
      rw [hL,hM,hc,hh];show _=(Z2 ((Z4 a b dn).1++[⟨(Z4 a b dn).2++(10::(F1 r.pre++[34])),r.key,r.ts⟩])).length;rw [Q1o];simp;omega
     have hX:data.extract (Z2 (Z4 a b dn).1).length (pre0.length+(pjC ((Q0b r).take a.length)).length+1)=ofL ((Z4 a b dn).2++(10::(F1 r.pre++[34]))):=
      N9 data (Z2 (Z4 a b dn).1) ((Z4 a b dn).2++(10::(F1 r.pre++[34]))) (Q2 r.ts++(34::T5 r.post)++N4 td tl) _ (by rw [hA,hg,hh,hK];simp) (by rw [hM,hc,hh];simp;omega)
     have hv:G9 (Z4 a b dn).1++[⟨false,ofL [],ofL ((Z4 a b dn).2++(10::(F1 r.pre++[34])))⟩,⟨true,ofL (Lib.decDigits (dn.length+1)),ofL (Q2 r.ts)⟩]=G9 (Z4 a b (dn++[r])).1:=by
      rw [hL,←Hb];exact (Q1n (Z4 a b dn).1 ⟨(Z4 a b dn).2++(10::(F1 r.pre++[34])),r.key,r.ts⟩).symm
     have ht:=Y3m a b (dn++[r]) td tl hP.o data.size (pre0++J1 (Q0b r)).length (by rw [Lib.size_eq,HD.o,←Q3v,HE.o];simp) (by rw [Q9a,Q3x,hg];simp);have CN:=zW (Z6l data pre0 (Q0b r) (N4 td tl) a.length r.ts (dn.length+1) (Z2 (Z4 a b dn).1).length lv (G9 (Z4 a b dn).1) wr (by rw [hw];exact HT.o) HP.o hC hA (by intro e;rw [e] at hw;simp at hw;have:=HN.o;omega) (Q4y td tl hP.o) (Z3c r hr.okA hr.okB hr.raw.els) (by rw [←hr.pre];exact Z3b r) hr.raw (by rw [hc,hh,List.length_append];omega) yY yY hsz yY yY);rw [ht,hs,hX,hv,hw] at CN;have hJ:yK (((pre0.length:Nat):Int) < (data.size:Int)):=(by show _ < _;rw [Lib.size_eq,hA];simp [hK];omega);have Hi:=hJ.o;have Hf:td.length+1≤gk:=hgk;have Hc:yK (rs=dn++[r]++td):=(by show _=_;rw [HE.o];simp);clear hr Hb hw hg hc hQ hA hh hu hL hM hK hs hX hv ht;go_upto_region 8 with (go_at_call 151;refine (CN.o).mono ?_;rintro e w2 ⟨rfl,hx,⟨lv2,Ha⟩,hT⟩;have hl:=zW hx;have hq:=zW Ha;have hN:=zW (HB.o.trans hT);clear hx Ha hT)
     obtain ⟨z0,z1,z2,z3,z4,z5⟩:=hl.o.cells;have y2:=hl.o.frozen 2;have hG:=zW (Y1 hq.o.own hl.o yX);have hz:=zW (hl.o.set2 (dn.length+1+1));have hj:=zW (Mod.set w2 gt 2 (.int .i64 ((dn.length+1+1:Nat):Int)));rw [show ((dn.length+1+1:Nat):Int)=(dn.length:Int)+1+1 by omega] at hz hj;clear q0 q1 q2 q3 q4 q5;go_wp2_with fail
     go_roundg td.length
     case measure=>omega
     case rel=>
      refine .inr ⟨dn++[r],td,Hc.o,rfl,?_,⟨lv2,?_⟩,hN.o.trans (hj.o.below (fun i hi=>by rw [hi];exact hD) hN.o.size),yQ⟩
      ·rw [show (dn++[r]).length=dn.length+1 by simp];exact hz.o
      ·exact ⟨(hj.o.block g hq.o.gsz (fun e=>hC e.symm)).trans hq.o.box,hj.o.own hq.o.own (fun k hk e=>hG.o k hk e),hq.o.lt⟩
theorem X2p (f:List Tk) (v:Value) (w:World) (hf:RdT w v f) (hl:f.length≤100000) (hbt:X2 f≤1000000):
 Calls Tryz.prog 104 #[v] w (F7 31 tkC 3 w (Q9 f)):=by
 obtain ⟨A,c,rfl,_,_⟩:=hf.shape;have HF:=zW hf;obtain ⟨i8,hD,hH,hF,hC⟩:=info_parts X1n;have hK:=zW hD;have hN:=zW hH;have hL:=zW hF;have hI:=zW hC;clear hf hD hH hF hC;go_enter Tryz.func104,Tryz.ntmps104
 go_wp2
 go_loopw [3,4] (fun ov i wr=>∃ k:Nat,k≤f.length∧i=.int .i64 k∧yK (OwnT 31 wr w.heap.size ov (Q9 (f.take k)))∧Below w.heap.size w wr∧yK (∀ h:k < f.length,(f[k]'h).k=1→Y0x (Q9 (f.take k)))) (fun _ i _=>f.length - (intOf i).toNat)
 case atStart=>exact ⟨0,yY,rfl,OwnE.nil,Below.refl _ _,fun _ _ y hy=>by simp [Q9] at hy⟩
 case round=>
  obtain ⟨k,hk,rfl,HO,hb,HN⟩:=hrel;have ha:=hb.size;obtain ⟨A',c',hv⟩:=Q0 HO.o;subst hv;have hE:(Q9 (f.take k)).length≤f.length:=by
   have:=O8 (f.take k);rw [List.length_take] at this;omega
  by_cases hkl:k < f.length
  ·obtain ⟨b,o,rfl,hh,q1,q2,q3⟩:=RdT.at_ HF.o k hkl;rw [←hb.cell (p:=⟨b,o+k * 3,none⟩) hh] at q1;rw [←hb.cell (p:=⟨b,o+k * 3+1,none⟩) hh] at q2;rw [←hb.cell (p:=⟨b,o+k * 3+2,none⟩) hh] at q3;have HT:=zW (Q8x f k hkl);have hA:=zW (HN.o hkl);generalize hx:f[k]=x at q1 q2 q3 HT hA;have HX:=zW hx;obtain ⟨xk,xt,xd⟩:=x;simp only at q1 q2 q3;clear hx;by_cases h1:xk=1
   ·have hr:=zW (hA.o h1);generalize hout:Q9 (f.take k)=out at HO hE hr HT;have ht:=zW hout;subst h1;clear hout;go_wp2_with fail
    obtain ⟨wo,rfl⟩:∃ wo:World,wo=wr:=⟨_,rfl⟩;go_loopw [4,5] (fun i bv wi=>∃ (j:Nat) (bs:ByteArray),k≤j∧j≤f.length∧i=.int .i64 j∧bs.size≤1000000∧yK (bs.size≤X2 (f.take j))∧yK (wi.ownsRow wo.heap.size 5 1 bv bs.size (Go.Lib.strCells bs))∧yK (Below wo.heap.size wo wi)∧yK (Q9 (f.take j)=X3 out ⟨1,bs,0⟩)∧yK (j=k→bs.size=0)) (fun i _ _=>f.length - (intOf i).toNat)
    case atStart=>exact ⟨k,⟨#[]⟩,yY,yY,rfl,yX,Nat.zero_le _,World.ownsRow_nil _ _ _ _,Below.refl _ _,by rw [T3 _ _ _ rfl];exact ht.o,fun _=>rfl⟩
    case round=>
     obtain ⟨j,bs,hV,hj,rfl,hT,hJ,hi,hg,hm,hS⟩:=hrel;obtain ⟨A2,c2,hR⟩:=Q0 hi.o;subst hR;have hW:=hg.o.size;have hp:=zW (V4 HO.o hg.o yQ);have hc:=zW (hb.trans (hg.o.mono ha));by_cases hjl:j < f.length
     ·have hw:decide ((j:Int) < (f.length:Int))=true:=yV;obtain ⟨b',o',hu,_,p1,p2,p3⟩:=RdT.at_ HF.o j hjl;injection hu with hu;injection hu with e1 e2 _;subst e1 e2;rw [←hc.o.cell (p:=⟨b,o+j * 3,none⟩) hh] at p1;rw [←hc.o.cell (p:=⟨b,o+j * 3+1,none⟩) hh] at p2;rw [←hc.o.cell (p:=⟨b,o+j * 3+2,none⟩) hh] at p3;have hB:=zW (Q8x f j hjl);have hn:=Q4q f (j+1);rw [M0 f j hjl] at hn;have ho:=zW (M0 f j hjl);unfold wdI at hn ho;generalize hy:f[j]=y at p1 p2 p3 hB hn ho;have HY:=zW hy;obtain ⟨yk,yt,yd⟩:=y;simp only at p1 p2 p3 hn;clear hy;have hP:=hJ.o;by_cases hy1:yk=1
      ·subst hy1;simp only [if_true] at hn ho;go_wp2_with (at_builtin;go_must (refine Go.Lib.wpList_append_own_string _ rfl (.tmp 37) (.tmp 42) 89 9 rfl wo.heap.size 5 i8 Tryz.underlying89 Tryz.underlying9 hK.o hN.o hL.o hI.o _ bs.size _ rfl (by exact hi.o) yt rfl (by unfold maxLen;omega) yY (by exact hg.o.size) ?_);intro v7 w7 hown7 hgr7 _)
       have hO:=hg.o.grown hgr7 (by exact hg.o.size) (fun q hq=>(hi.o.lt q hq).1);refine ⟨⟨j+1,bs++yt,yY,yY,by go_num,by rw [ByteArray.size_append];omega,?_,?_,hO,?_,fun h=>absurd h yY⟩,by simp [intOf];try omega⟩
       ·show (bs++yt).size≤X2 (f.take (j+1));rw [ByteArray.size_append,ho.o];show bs.size+yt.size≤X2 (f.take j)+yt.size;omega
       ·rw [H7] at hown7;rw [ByteArray.size_append];exact hown7
       ·show Q9 (f.take (j+1))=X3 out ⟨1,bs++yt,0⟩;rw [hB.o,hm.o,X7s _ _ _ _ _ 0]
      ·have ty:(yk==1)=false:=(by simpa using hy1);have hU:k < j:=by
        rcases Nat.lt_or_ge k j with h | h
        ·exact h
        ·exfalso;obtain rfl:j=k:=yY;have:=HX.o;rw [HY.o] at this;injection this with e _ _;exact hy1 e
       by_cases hz:0 < bs.size
       ·have hQ:=O6 bs 89 9 Tryz.underlying89 Tryz.underlying5 Tryz.underlying9 hi.o rfl hz;go_wp2_with (at_builtin;go_must (refine Z5 rfl (.tmp 49) (.tmp 53) 24 31 rfl Tryz.underlying24 _ 3 32 Z7 rfl yX w.heap.size _ out.length (out.flatMap tkC) rfl (by exact World.ownsRow.alloc hp.o _) ⟨wr.heap.size,0,none⟩ 1 (tkC ⟨1,bs,0⟩) rfl rfl (by exact O1 _ _ rfl _ _) (K2 _) yY yX yV ?_);intro g cap w1 hown1 hg1 hbel1 hgr1)
        refine ⟨⟨j,yY,rfl,?_,hbel1 _ _ yQ (by exact hc.o.alloc yY _),fun h hk=>by rw [HY.o] at hk;exact absurd hk hy1⟩,by simp [intOf];try omega⟩;rw [hm.o,Q6r _ _ _ hr.o yY];exact OwnE.snoc hown1
       ·have hd:bs.size=0:=yY;have hs:yK (Q9 (f.take j)=out):=by
         show Q9 (f.take j)=out;rw [hm.o,T3 _ _ _ hd]
        have hM:=zW hd;clear hd;go_wp2_with fail
        refine ⟨⟨j,yY,rfl,?_,hc.o,fun h hk=>by rw [HY.o] at hk;exact absurd hk hy1⟩,by simp [intOf];try omega⟩;rw [hs.o];exact hp.o
     ·obtain rfl:j=f.length:=yY;have hw:decide ((f.length:Int) < (f.length:Int))=false:=yW;by_cases hz:0 < bs.size
      ·have hQ:=O6 bs 89 9 Tryz.underlying89 Tryz.underlying5 Tryz.underlying9 hi.o rfl hz;go_wp2_with (at_builtin;go_must (refine Z5 rfl (.tmp 49) (.tmp 53) 24 31 rfl Tryz.underlying24 _ 3 32 Z7 rfl yX w.heap.size _ out.length (out.flatMap tkC) rfl (by exact World.ownsRow.alloc hp.o _) ⟨wr.heap.size,0,none⟩ 1 (tkC ⟨1,bs,0⟩) rfl rfl (by exact O1 _ _ rfl _ _) (K2 _) yY yX yV ?_);intro g cap w1 hown1 hg1 hbel1 hgr1)
       refine ⟨⟨f.length,yY,rfl,?_,hbel1 _ _ yQ (by exact hc.o.alloc yY _),fun h=>absurd h yY⟩,by simp [intOf];try omega⟩;rw [hm.o,Q6r _ _ _ hr.o yY];exact OwnE.snoc hown1
      ·have hd:bs.size=0:=yY;have hs:yK (Q9 (f.take f.length)=out):=by
        show Q9 (f.take f.length)=out;rw [hm.o,T3 _ _ _ hd]
       have hM:=zW hd;clear hd;go_wp2_with fail
       refine ⟨⟨f.length,yY,rfl,?_,hc.o,fun h=>absurd h yY⟩,by simp [intOf];try omega⟩;rw [hs.o];exact hp.o
   ·have t1:(xk != 1)=true:=(by simpa using h1);have h1':xk≠1:=h1;have H1:=zW h1';clear h1 h1';go_wp2_with (at_builtin;go_must (refine Z5 rfl (.tmp 16) (.tmp 21) 24 31 rfl Tryz.underlying24 _ 3 32 Z7 rfl yX w.heap.size _ (Q9 (f.take k)).length ((Q9 (f.take k)).flatMap tkC) rfl (by exact World.ownsRow.alloc HO.o _) ⟨wr.heap.size,0,none⟩ 1 (tkC ⟨xk,xt,xd⟩) rfl rfl (by exact O1 _ _ rfl _ _) (K2 _) yY yX yV ?_);intro g cap w1 hown1 hg1 hbel1 hgr1)
    have hG:=K6 (Q9 (f.take k)) ⟨xk,xt,xd⟩ H1.o;refine ⟨⟨k+1,yY,by go_num,?_,hbel1 _ _ yQ (by exact hb.alloc ha _),fun h _ y hy=>?_⟩,by simp [intOf];try omega⟩
    ·rw [HT.o,hG];exact OwnE.snoc hown1
    ·rw [HT.o,hG] at hy;simp at hy;rw [←hy];exact H1.o
  ·obtain rfl:k=f.length:=yY;have he:=HO.o;rw [List.take_length] at he hE ⊢;have HE:=zW he;have e0:decide ((f.length:Int) < (f.length:Int))=false:=yW;clear he HO;go_wp2_with fail
   go_ret
   exact ⟨_,rfl,HE.o,hb⟩
def RdTT (w:World) (v:Value) (L:List (List Tk)):Prop:=
 ∃ A c,v=.slice A L.length c∧(L≠[]→∃ b o,A=some ⟨b,o,none⟩∧b < w.heap.size∧∀ i x,L[i]? =some x→∃ A' c',w.cell? ⟨b,o+i,none⟩=some (.slice A' x.length c')∧RdT w (.slice A' x.length c') x)
theorem RdTT.below {w w':World} {v:Value} {L:List (List Tk)} (h:RdTT w v L) {B:Nat} (hb:Below B w w') (hB:w.heap.size≤B):RdTT w' v L:=by
 obtain ⟨A,c,hv,h0⟩:=h;refine ⟨A,c,hv,fun hl=>?_⟩;obtain ⟨b,o,hA,ha,hx⟩:=h0 hl;refine ⟨b,o,hA,Nat.lt_of_lt_of_le ha hb.size,fun i x hi=>?_⟩;obtain ⟨A',c',h1,h2⟩:=hx i x hi;exact ⟨A',c',(hb.cell (p:=⟨b,o+i,none⟩) (Nat.lt_of_lt_of_le ha hB)).trans h1,h2.below hb hB⟩
theorem RdTT.at_ {w:World} {A:Option Addr} {n c:Nat} {L:List (List Tk)} (h:RdTT w (.slice A n c) L) (k:Nat) (hk:k < L.length):
 ∃ b o A' c',A=some ⟨b,o,none⟩∧b < w.heap.size∧w.cell? ⟨b,o+k,none⟩=some (.slice A' L[k].length c')∧RdT w (.slice A' L[k].length c') L[k]:=by
 obtain ⟨A1,c1,hv,h0⟩:=h;injection hv with e1 e2 e3;subst e1;obtain ⟨b,o,hA,hb,hx⟩:=h0 (by intro e;rw [e] at hk;simp at hk);obtain ⟨A',c',h1,h2⟩:=hx k L[k] (List.getElem?_eq_getElem hk);exact ⟨b,o,A',c',hA,hb,h1,h2⟩
theorem Z9f (n:Nat) (hn:n≤100000) (w:World):Calls Tryz.prog 180 #[.slice none 0 0,.int .i64 n] w (fun e w'=>∃ v,e=.returned v∧OwnT 31 w' w.heap.size v []∧Below w.heap.size w w'):=by
 by_cases h0:n=0
 ·subst h0;go_enter Tryz.func180,Tryz.ntmps180
  go_wp2_with fail
  go_ret
  exact ⟨_,rfl,OwnE.nil,Below.refl _ _⟩
 ·have hp:(0:Int) < n:=yY;obtain ⟨i,hi,hz,ha,hc⟩:=info_parts Z7;have hr:=Go.Lib.run_append_nil_zeros (P:=Tryz.prog) w 24 3 24 31 i _ .i64 .i64 Tryz.underlying24 Tryz.underlying3 hi hz n yY yY yY (by rw [hc];omega);have HR:=zW hr;have HB:=zW ((Below.refl w.heap.size w).drew.alloc yQ (.cells (Builtin.zeroCells (Value.agg #[.int .i64 0,.string ⟨#[]⟩,.int .i64 0]).cells n++Builtin.zeroCells (Value.agg #[.int .i64 0,.string ⟨#[]⟩,.int .i64 0]).cells (grownCap w n 0 31 - n)) 31));have hd:=grownCap_ge w n 0 31;have hb:=grownCap_le_maxLen w n 0 31 (by unfold maxLen;omega);have HO:yK (OwnT 31 (w.drew.alloc (.cells (Builtin.zeroCells (Value.agg #[.int .i64 0,.string ⟨#[]⟩,.int .i64 0]).cells n++Builtin.zeroCells (Value.agg #[.int .i64 0,.string ⟨#[]⟩,.int .i64 0]).cells (grownCap w n 0 31 - n)) 31)) w.heap.size (.slice (some ⟨w.heap.size,0,none⟩) 0 (grownCap w n 0 31)) []):=by
   refine ⟨rfl,.inr ⟨w.heap.size,_,_,rfl,yQ,heap_alloc_new w.drew _,Nat.zero_le _,hb,?_,by simp⟩⟩;rw [Array.size_append,size_zeroCells,size_zeroCells,←Nat.add_mul,show n+(grownCap w n 0 31 - n)=grownCap w n 0 31 by omega];rfl
  have he:((grownCap w n 0 31:Nat):Int)≤9223372036854775807:=(by unfold maxLen at hb;omega);generalize grownCap w n 0 31=cap at *;clear hr hi hz ha hc hb;go_enter Tryz.func180,Tryz.ntmps180
  go_wp2_with (at_builtin;refine Lib.wpList_append_run _ rfl _ _ _ _ rfl _ _ rfl rfl _ _ HR.o ?_)
  go_ret
  exact ⟨_,rfl,HO.o,HB.o⟩
theorem X2c (L:List (List Tk)) (k:Nat) (h:k < L.length):(L.take (k+1)).flatten=(L.take k).flatten++L[k]:=by
 rw [List.take_succ_eq_append_getElem h,List.flatten_append,List.flatten_cons,List.flatten_nil,List.append_nil]
theorem Y1n (L:List (List Tk)) (k:Nat):(L.take k).flatten.length≤L.flatten.length:=by
 have:=congrArg (fun l=>(List.flatten l).length) (List.take_append_drop k L);simp only [List.flatten_append,List.length_append] at this;omega
theorem Y7c (L:List (List Tk)) (v:Value) (w:World) (h:RdTT w v L) (hl:L.length≤100000) (hn:L.flatten.length≤100000):
 Calls Tryz.prog 156 #[v] w (F7 31 tkC 3 w L.flatten):=by
 obtain ⟨R,hj⟩:∃ R,yK (R=F7 31 tkC 3 w L.flatten):=⟨_,rfl⟩;rw [←hj.o];obtain ⟨A,c,rfl,h0⟩:=h;have H:yK (RdTT w (.slice A L.length c) L):=⟨A,c,rfl,h0⟩;have HN:=zW hn;clear h0 hn;go_enter Tryz.func156,Tryz.ntmps156
 go_wp2_with fail
 go_loopg [3,11] L.length (fun gk sv iv wr=>∃ k:Nat,sv=.int .i64 ((L.take k).flatten.length:Nat)∧iv=.int .i64 k∧k≤L.length∧w=wr∧L.length - k≤gk)
 case atStart=>exact ⟨0,rfl,rfl,Nat.zero_le _,rfl,yQ⟩
 case round=>
  obtain ⟨k,rfl,rfl,hk,rfl,hgk⟩:=hrel;by_cases hlt:k < L.length
  ·obtain ⟨b,o,A',c',hA,hb,q,hr⟩:=RdTT.at_ H.o k hlt;subst hA;have hu:=Y1n L k;have hf:=Y1n L (k+1);have hd:=congrArg List.length (X2c L k hlt);rw [List.length_append] at hd;have hm:=HN.o;have HS:yK (((L.take k).flatten.length:Int)+(L[k].length:Int)=(((L.take (k+1)).flatten.length:Nat):Int)):=(by show _=_;omega);have he:(L.take k).flatten.length≤100000:=yY;have hw:L[k].length≤100000:=yY;clear hd hu hf hr hm;generalize (L.take k).flatten.length=s0 at *;generalize L[k].length=s1 at *;go_wp2_with fail
   rw [HS.o];go_roundg (L.length - (k+1))
   case measure=>omega
   case rel=>exact ⟨k+1,rfl,rfl,hlt,rfl,yQ⟩
  ·obtain rfl:k=L.length:=yY;rw [List.take_length];have HG:=zW (Z9f L.flatten.length HN.o w);generalize hfl:L.flatten.length=fl at HG ⊢;have hv:=zW hfl;clear hfl;go_wp2_with (go_at_call 180;refine (HG.o).mono ?_;rintro e w1 ⟨v1,rfl,ho,he⟩;have hi:=zW ho;have hh:=zW he;clear ho he)
   go_loopg [6,27] L.length (fun gk sv iv wr=>∃ k:Nat,yK (OwnT 31 wr w.heap.size sv (L.take k).flatten)∧iv=.int .i64 k∧k≤L.length∧yK (Below w.heap.size w wr)∧L.length - k≤gk)
   case atStart=>exact ⟨0,hi.o,rfl,Nat.zero_le _,hh.o,yQ⟩
   case round=>
    obtain ⟨k,HO,rfl,hk,HB,hgk⟩:=hrel;clear hi hh;by_cases hlt:k < L.length
    ·obtain ⟨b,o,A',c',hA,hb,q,hr⟩:=RdTT.at_ (H.o.below HB.o yQ) k hlt;subst hA;have ht:=zW hr;have hf:=Y1n L (k+1);have hd:=congrArg List.length (X2c L k hlt);rw [List.length_append] at hd;have hm:(L.take k).flatten.length+L[k].length≤100000:=(by have:=HN.o;omega);have hz:=HB.o.size;have hq:yK ((L.take k).flatten++L[k]=(L.take (k+1)).flatten):=(X2c L k hlt).symm;clear hr hf hd;go_wp2_with (at_builtin;refine V1 rfl (.tmp 31) (.tmp 32) 24 31 rfl Tryz.underlying24 _ tkC 3 32 Z7 rfl yX Q5 K2 w.heap.size _ (L.take k).flatten rfl (by exact HO.o) _ L[k] rfl (by exact ht.o) yY yX hz ?_;intro v2 w2 hc ha hg;have hs:=zW hc;have hp:=zW (ha w.heap.size w yQ HB.o);clear hc ha hg)
     go_roundg (L.length - (k+1))
     case measure=>omega
     case rel=>
      refine ⟨k+1,?_,rfl,hlt,hp.o,yQ⟩;rw [←hq.o];exact hs.o
    ·obtain rfl:k=L.length:=yY;rw [List.take_length] at HO;obtain ⟨A2,c2,rfl⟩:=Q0 HO.o;go_wp2_with fail
     first | go_ret | skip
     rw [hj.o];exact ⟨_,rfl,HO.o,HB.o⟩
theorem Q8p (a b:List Tk) (A A':Option Addr) (c c':Nat) (w:World) (ha:RdT w (.slice A a.length c) a) (hb:RdT w (.slice A' b.length c') b) (hn:a.length+b.length≤100000) (hw:X2 (a++b)≤1000000):
 Calls Tryz.prog 113 #[.slice A a.length c,.slice A' b.length c'] w (F7 31 tkC 3 w (Q9 (a++b))):=by
 have hd:=(Below.refl w.heap.size w).alloc yQ (.cells #[.slice A a.length c,.slice A' b.length c'] 24);have HL:yK (RdTT (w.alloc (.cells #[.slice A a.length c,.slice A' b.length c'] 24)) (.slice (some ⟨w.heap.size,0,none⟩) 2 2) [a,b]):=by
  refine ⟨_,2,rfl,fun _=>⟨_,_,rfl,by simp,fun i x hi=>?_⟩⟩;have hc:(w.alloc (.cells #[.slice A a.length c,.slice A' b.length c'] 24)).heap[w.heap.size]? =some (.cells #[.slice A a.length c,.slice A' b.length c'] 24):=Array.getElem?_push_size;rcases i with _ | _ | i
  ·simp at hi;subst hi;exact ⟨A,c,by rw [cell_of_row _ _ _ _ _ _ hc];rfl,ha.below hd yQ⟩
  ·simp at hi;subst hi;exact ⟨A',c',by rw [cell_of_row _ _ _ _ _ _ hc];rfl,hb.below hd yQ⟩
  ·simp at hi
 have HC:=zW (Y7c [a,b] _ _ HL.o yW (by simpa using hn));have hm:=zW (fun (v:Value) (w':World) (h:RdT w' v (a++b))=>X2p (a++b) v w' h (by simpa using hn) hw);have hf:=zW hd;clear ha hb hd;go_enter Tryz.func113,Tryz.ntmps113
 go_wp2_with (first
  | (go_at_call 156;refine (HC.o).mono ?_;rintro e w1 ⟨v1,rfl,hj,hg⟩;have ho:=zW hj;have he:=zW (hf.o.trans (hg.mono hf.o.size));clear hj hg)
  | (go_at_call 104;refine (hm.o _ _ (by have:=ho.o.rd Q5;simpa using this)).mono ?_;rintro e w2 ⟨v2,rfl,hk,hh⟩;have hp:=zW hk;have hl:=zW (he.o.trans (hh.mono he.o.size));have hq:=he.o.size;clear hk hh))
 go_ret
 exact ⟨_,rfl,Y7 hp.o hq,hl.o⟩
theorem RdP.at_ {w:World} {A:Option Addr} {n c:Nat} {l:List Pt} (h:RdE ptC 3 w (.slice A n c) l) (k:Nat) (hk:k < l.length):
 ∃ b o,A=some ⟨b,o,none⟩∧b < w.heap.size∧w.cell? ⟨b,o+k * 3,none⟩=some (.bool l[k].un)∧w.cell? ⟨b,o+k * 3+1,none⟩=some (.string l[k].key)∧w.cell? ⟨b,o+k * 3+2,none⟩=some (.string l[k].raw):=by
 obtain ⟨b,o,hA,hb,hx⟩:=RdE.cells h yY;refine ⟨b,o,hA,hb,?_,?_,?_⟩
 ·exact hx k l[k] 0 (.bool l[k].un) (List.getElem?_eq_getElem hk) rfl
 ·exact hx k l[k] 1 (.string l[k].key) (List.getElem?_eq_getElem hk) rfl
 ·exact hx k l[k] 2 (.string l[k].raw) (List.getElem?_eq_getElem hk) rfl
theorem V7o (w:World) (u:Bool) (k r:ByteArray):(binOp .neq 52 (.agg #[.bool u,.string k,.string r]) (.agg #[.bool u,.string k,.string r])).run Tryz.prog w=.ok (.bool false) w:=by
 go_simp
theorem V7p (w:World) (k d:Int) (t:ByteArray):(binOp .neq 31 (.agg #[.int .i64 k,.string t,.int .i64 d]) (.agg #[.int .i64 k,.string t,.int .i64 d])).run Tryz.prog w=.ok (.bool false) w:=by
 go_simp
theorem Y8k (l:List Pt) (va vb:Value) (w:World) (ha:RdE ptC 3 w va l) (hb:RdE ptC 3 w vb l) (hl:l.length≤1000000):
 Calls Tryz.prog 105 #[va,vb] w (fun e w'=>e=.returned (.bool true)∧∃ n,w'=w.drewN n):=by
 obtain ⟨R,hc⟩:∃ R:Ending→World→Prop,yK (R=fun e w'=>e=.returned (.bool true)∧∃ n,w'=w.drewN n):=⟨_,rfl⟩;rw [←hc.o];obtain ⟨A,c,rfl,_,_⟩:=ha.shape;obtain ⟨A',c',rfl,_,_⟩:=hb.shape;have HA:=zW ha;have HB:=zW hb;have hf:=fun (w:World)=>V7o w;clear ha hb;go_enter Tryz.func105,Tryz.ntmps105
 go_wp2_with fail
 go_loopg [13] l.length (fun gk iv wr=>∃ k n:Nat,iv=.int .i64 k∧k≤l.length∧wr=w.drewN n∧l.length - k≤gk)
 case atStart=>exact ⟨0,0,rfl,Nat.zero_le _,rfl,yQ⟩
 case round=>
  obtain ⟨k,n,rfl,hk,rfl,hgk⟩:=hrel;by_cases hlt:k < l.length
  ·obtain ⟨b1,o1,rfl,hd,c0,c1,c2⟩:=RdP.at_ HA.o k hlt;obtain ⟨b2,o2,rfl,he,d0,d1,d2⟩:=RdP.at_ HB.o k hlt;generalize l[k].un=x0 at c0 d0;generalize l[k].key=x1 at c1 d1;generalize l[k].raw=x2 at c2 d2;go_wp2_with fail
   go_region
   all_goals (
    go_wp2_with fail
    go_roundg (l.length - (k+1))
    case measure=>omega
    case rel=>exact ⟨k+1,_,rfl,hlt,by first | rfl | simp only [World.drewN_drewN,World.drewN_drew],yQ⟩)
  ·obtain rfl:k=l.length:=yY;go_wp2_with fail
   first | go_ret | skip
   rw [hc.o];exact ⟨rfl,n,rfl⟩
theorem Y8l (l:List Tk) (va vb:Value) (w:World) (ha:RdE tkC 3 w va l) (hb:RdE tkC 3 w vb l) (hl:l.length≤1000000):
 Calls Tryz.prog 109 #[va,vb] w (fun e w'=>e=.returned (.bool true)∧∃ n,w'=w.drewN n):=by
 obtain ⟨R,hc⟩:∃ R:Ending→World→Prop,yK (R=fun e w'=>e=.returned (.bool true)∧∃ n,w'=w.drewN n):=⟨_,rfl⟩;rw [←hc.o];obtain ⟨A,c,rfl,_,_⟩:=ha.shape;obtain ⟨A',c',rfl,_,_⟩:=hb.shape;have HA:=zW ha;have HB:=zW hb;have hf:=fun (w:World)=>V7p w;clear ha hb;go_enter Tryz.func109,Tryz.ntmps109
 go_wp2_with fail
 go_loopg [13] l.length (fun gk iv wr=>∃ k n:Nat,iv=.int .i64 k∧k≤l.length∧wr=w.drewN n∧l.length - k≤gk)
 case atStart=>exact ⟨0,0,rfl,Nat.zero_le _,rfl,yQ⟩
 case round=>
  obtain ⟨k,n,rfl,hk,rfl,hgk⟩:=hrel;by_cases hlt:k < l.length
  ·obtain ⟨b1,o1,rfl,hd,c0,c1,c2⟩:=RdT.at_ HA.o k hlt;obtain ⟨b2,o2,rfl,he,d0,d1,d2⟩:=RdT.at_ HB.o k hlt;generalize l[k].k=x0 at c0 d0;generalize l[k].t=x1 at c1 d1;generalize l[k].d=x2 at c2 d2;go_wp2_with fail
   go_region
   all_goals (
    go_wp2_with fail
    go_roundg (l.length - (k+1))
    case measure=>omega
    case rel=>exact ⟨k+1,_,rfl,hlt,by first | rfl | simp only [World.drewN_drewN,World.drewN_drew],yQ⟩)
  ·obtain rfl:k=l.length:=yY;go_wp2_with fail
   first | go_ret | skip
   rw [hc.o];exact ⟨rfl,n,rfl⟩
theorem V1j (l:List Tk) (va vb:Value) (w:World) (ha:RdT w va l) (hb:RdT w vb l) (hl:l.length≤1000000):
 Calls Tryz.prog 69 #[va,vb] w (fun e w'=>e=.returned (.bool true)∧∃ n,w'=w.drewN n):=by
 have HC:=zW (Y8l l va vb w ha hb hl);obtain ⟨A,c,rfl,_,_⟩:=ha.shape;obtain ⟨A',c',rfl,_,_⟩:=hb.shape;clear ha hb;go_enter Tryz.func69,Tryz.ntmps69
 go_wp2_with (go_at_call 109;refine (HC.o).mono ?_;rintro e w1 ⟨rfl,n,rfl⟩)
 go_ret
 exact ⟨rfl,n,rfl⟩
theorem Y8h (l:List Pt) (v:Value) (w:World) (h:RdE ptC 3 w v l) (hl:l.length≤1000000) (hn:l≠[]):
 Calls Tryz.prog 72 #[v] w (F7 52 ptC 3 w l):=by
 obtain ⟨A,c,rfl,h1,h2⟩:=h.shape;have hq:=fun (w:World) (a:Option Addr) (n c:Nat)=>Lib.run_eql_slice_nil w 39 52 a n c 0 0 Tryz.underlying39;have HO:yK (OwnE 52 ptC 3 (w.alloc (.cells #[] 52)) w.heap.size (.slice (some ⟨w.heap.size,0,none⟩) 0 0) []):=World.ownsRow_made w #[] 0 yQ (Nat.zero_le _) rfl;obtain ⟨b,o,rfl,_⟩:∃ b o,A=some ⟨b,o,none⟩∧True:=by
  obtain ⟨b,o,hA,_⟩:=RdE.cells h (by cases l with | nil=>exact absurd rfl hn | cons x l=>simp);exact ⟨b,o,hA,trivial⟩
 have hc:=zW ((Below.refl w.heap.size w).alloc yQ (.cells #[] 52));have HR:=zW (h.below hc.o yQ);have hz:=hc.o.size;clear h;go_enter Tryz.func72,Tryz.ntmps72
 go_wp2_with (at_builtin;refine V1 rfl (.tmp 5) (.tmp 6) 39 52 rfl Tryz.underlying39 _ ptC 3 40 X0w rfl yX K0 X0v w.heap.size _ [] rfl (by exact HO.o) _ l rfl (by exact HR.o) yV yX hz ?_;intro v2 w2 hb ha hd;have hf:=zW hb;have he:=zW (ha w.heap.size w yQ hc.o);clear hb ha hd)
 go_ret
 exact ⟨_,rfl,hf.o,he.o⟩
theorem Z3g:(Tryz.prog.info? 117).map (·.size)=some 2:=by kernel_rfl
theorem V5s:liesAt Tryz.prog Tryz.prog.depth 117 (2 / Tryz.prog.cellsOf 117) 0 117 1=true:=by kernel_rfl
theorem X5h (b:Nat) (w:World) (h0:w.cell? ⟨b,0,none⟩=some (.pointer (some ⟨b,0,none⟩))):
 Calls Tryz.prog 93 #[.pointer (some ⟨b,0,none⟩)] w fun e w'=>e=.returned (.tuple #[])∧w'=w:=by
 obtain ⟨j,hj,ha⟩:=Option.map_eq_some_iff.1 Z3g;go_enter Tryz.func93,Tryz.ntmps93
 go_wp2
 rw [Lib.run_neq_ptr_same w _ Tryz.underlying115 hj];go_wp2
 go_end0
 exact ⟨rfl,rfl⟩
theorem X4b (b:Nat) (w:World) (h0:w.cell? ⟨b,0,none⟩=some (.pointer none)) (hsh:w.shape? b=some (117,2)) (hfz:w.frozen? ⟨b,0,none⟩=false):
 Calls Tryz.prog 93 #[.pointer (some ⟨b,0,none⟩)] w fun e w'=>e=.returned (.tuple #[])∧w'=w.setCell ⟨b,0,none⟩ (.pointer (some ⟨b,0,none⟩)):=by
 obtain ⟨j,hj,ha⟩:=Option.map_eq_some_iff.1 Z3g;go_enter Tryz.func93,Tryz.ntmps93
 go_wp2
 rw [Lib.run_to_unsafe w ⟨b,0,none⟩ Tryz.underlying115 Tryz.underlying203 hj (by rw [ha];decide) hsh (Nat.zero_lt_succ 1)];simp only [Result.andThen];rw [Oper.upon_value];go_wp2
 rw [run_callFunc_extern Tryz.func141 yZ yZ yZ (e:=Extern.AbiNoEscape.same) yZ];rw [Lib.run_noEscape];simp only [Result.andThen];rw [Oper.upon_value];go_wp2
 rw [Lib.run_from_unsafe w ⟨b,0,none⟩ Tryz.underlying203 Tryz.underlying115 hj hsh V5s];simp only [Result.andThen];rw [Oper.upon_value];go_wp2
 go_end0
 exact ⟨rfl,rfl⟩
theorem X8l (B b:Nat) (bs:List Value) (w:World) (h:Lib.IsBuilder 117 5 B b bs w):
 Calls Tryz.prog 93 #[.pointer (some ⟨b,0,none⟩)] w fun e w'=>e=.returned (.tuple #[])∧(Lib.BuilderAt 117 5 B b (.pointer (some ⟨b,0,none⟩)) bs w'∧Below B w w'):=by
 rcases h with h | h
 ·refine (X4b b w h.cell0 h.shape h.frozen0).mono ?_;rintro e w' ⟨rfl,rfl⟩;exact ⟨rfl,h.used _,(Below.refl B w).setCell (p:=⟨b,0,none⟩) h.1 _⟩
 ·refine (X5h b w h.cell0).mono ?_;rintro e w' ⟨rfl,rfl⟩;exact ⟨rfl,h,Below.refl B _⟩
theorem X4f (B b:Nat) (bs:List Value) (s:ByteArray) (w:World) (h:Lib.IsBuilder 117 5 B b bs w) (hlen:bs.length+s.size≤140737488355328) (hBw:B≤w.heap.size):
 Calls Tryz.prog 53 #[.pointer (some ⟨b,0,none⟩),.string s] w fun e w'=>e=.returned (.tuple #[.int .i64 s.size,.nilIface])∧(Lib.BuilderAt 117 5 B b (.pointer (some ⟨b,0,none⟩)) (bs++Lib.strCells s) w'∧Below B w w'):=by
 obtain ⟨i0,hi,hf,hg,hh⟩:=info_parts X1n;have HC:=zW (X8l B b bs w h);clear h;go_enter Tryz.func53,Tryz.ntmps53
 go_wp2_with (go_at_call 93;refine (HC.o).mono ?_)
 rintro e w1 ⟨rfl,h1,hb1⟩;obtain ⟨hB,v,hc,ha,he⟩:=h1;have c0:w1.cell? ⟨b,0,none⟩=some (.pointer (some ⟨b,0,none⟩)):=(by rw [Lib.cell_of_heap hc];rfl);have c1:w1.cell? ⟨b,1,none⟩=some v:=(by rw [Lib.cell_of_heap hc];rfl);go_wp2_with (at_builtin;refine Lib.wpList_append_own_string _ rfl _ _ 89 9 rfl B 5 i0 Tryz.underlying89 Tryz.underlying9 hi hf hg hh _ _ _ rfl ha s rfl ?c3 ?c4 ?c5 ?_)
 case c3=>unfold maxLen;omega
 case c4=>omega
 case c5=>have:=hb1.size;omega
 intro v' w2 hown' hgrow _;have hd:b < w1.heap.size:=by
  rcases Nat.lt_or_ge b w1.heap.size with h' | h'
  ·exact h'
  ·simp [Array.getElem?_eq_none h'] at hc
 have hb:w2.heap[b]? =some (.cells #[.pointer (some ⟨b,0,none⟩),v] 117 (0,0)):=by
  rw [hgrow.block b hd (fun e=>he e.symm)];exact hc
 have d0:w2.cell? ⟨b,0,none⟩=some (.pointer (some ⟨b,0,none⟩)):=(by rw [Lib.cell_of_heap hb];rfl);have d1:w2.cell? ⟨b,1,none⟩=some v:=(by rw [Lib.cell_of_heap hb];rfl);have f1:w2.frozen? ⟨b,1,none⟩=false:=Lib.frozen_of_heap hb 1;obtain ⟨ao,n',cap,rfl⟩:∃ ao n' cap,v'=.slice ao n' cap:=by
  rcases hown'.2 with ⟨hv,_⟩ | ⟨g,cap,cur,hv,_⟩
  ·exact ⟨_,_,_,hv⟩
  ·exact ⟨_,_,_,hv⟩
 go_wp2
 go_ret2
 refine ⟨rfl,?_,?_⟩
 ·exact Lib.BuilderAt.put (T:=117) (e:=5) hB hb (bs':=bs++Lib.strCells s) (by simpa [Lib.strCells_length] using hown') yX
 ·exact (hb1.grown hgrow (by have:=hb1.size;omega) (fun k hk=>(ha.lt k hk).1)).setCell (p:=⟨b,1,none⟩) hB _
end Go.Proofs.YtfkojnofbpdjdaaGreatDoor
namespace Go.Proofs.YtfkojnofbpdjdaaGreatDoor
abbrev Prs:=List (UInt8×ByteArray)
def lk:Prs→UInt8→Option ByteArray
 | [],_=>none
 | (b,r)::ps,c=>if b=c then some r else lk ps c
def Q6n (ps:Prs) (c:UInt8):List UInt8:=match lk ps c with
 | none=>[c]
 | some r=>r.data.toList
def G0 (ps:Prs) (l:List UInt8):List UInt8:=l.flatMap (Q6n ps)
def dB (ps:Prs) (c:UInt8):Nat:=match lk ps c with
 | none=>0
 | some r=>r.size - 1
def dL (ps:Prs):List UInt8→Nat
 | []=>0
 | c::l=>dB ps c+dL ps l
def Q5f (ps:Prs):Prop:=(∀ p∈ps,2≤p.2.size∧p.2.size≤100)∧(ps.map (·.1)).Nodup
theorem Q6a:∀ (ps:Prs) (c:UInt8) (r:ByteArray),lk ps c=some r→(c,r)∈ps
 | [],_,_,h=>by cases h
 | (b,q)::ps,c,r,h=>by
   rw [lk] at h;split at h
   ·rename_i e;injection h with h;subst e h;simp
   ·exact List.mem_cons_of_mem _ (Q6a ps c r h)
theorem Z2m:∀ (ps:Prs) (c:UInt8),c∉ps.map (·.1)→lk ps c=none
 | [],_,_=>rfl
 | (b,q)::ps,c,h=>by
   rw [List.map_cons,List.mem_cons,not_or] at h;rw [lk,if_neg (fun e=>h.1 e.symm)];exact Z2m ps c h.2
theorem Z2n:∀ (ps:Prs) (c:UInt8),c∈ps.map (·.1)→∃ r,lk ps c=some r
 | [],_,h=>by simp at h
 | (b,q)::ps,c,h=>by
   rw [lk];split
   ·exact ⟨_,rfl⟩
   ·rename_i hne;rw [List.map_cons,List.mem_cons] at h;exact Z2n ps c (h.resolve_left fun e=>hne e.symm)
theorem Z3d (ps:Prs) (h:∀ p∈ps,2≤p.2.size):∀ l:List UInt8,(G0 ps l).length=l.length+dL ps l
 | []=>rfl
 | c::l=>by
   have ih:=Z3d ps h l;rw [show G0 ps (c::l)=Q6n ps c++G0 ps l from rfl,List.length_append,ih,List.length_cons,dL];unfold Q6n dB;cases hk:lk ps c with
   | none=>simp;omega
   | some r=>
     have:=h _ (Q6a ps c r hk);simp only at this ⊢;rw [←Lib.size_eq];omega
theorem Z8e (ps:Prs):∀ a b:List UInt8,dL ps (a++b)=dL ps a+dL ps b
 | [],b=>by simp [dL]
 | c::a,b=>by rw [List.cons_append,dL,dL,Z8e ps a b,Nat.add_assoc]
theorem Y6i (ps:Prs) (a b:List UInt8):G0 ps (a++b)=G0 ps a++G0 ps b:=by simp [G0]
theorem Y6l (ps:Prs):∀ l:List UInt8,(∀ c∈l,lk ps c=none)→G0 ps l=l
 | [],_=>rfl
 | c::l,h=>by
   rw [show G0 ps (c::l)=Q6n ps c++G0 ps l from rfl,Y6l ps l fun d hd=>h d (by simp [hd])];unfold Q6n;rw [h c yW];rfl
theorem Z1o (ps:Prs) (hp:∀ p∈ps,2≤p.2.size):∀ l:List UInt8,dL ps l=0→∀ c∈l,lk ps c=none
 | [],_,c,hc=>by simp at hc
 | d::l,h,c,hc=>by
   rw [dL] at h;rcases List.mem_cons.1 hc with rfl | hc
   ·cases hk:lk ps c with
    | none=>rfl
    | some r=>
      have:=hp _ (Q6a ps c r hk);unfold dB at h;rw [hk] at h;simp only at this h;omega
   ·exact Z1o ps hp l yY c hc
def Q1d (ps:Prs) (l:List UInt8):List UInt8→Nat
 | []=>0
 | x::ks=>l.count x * dB ps x+Q1d ps l ks
theorem Y3w (ps:Prs) (l:List UInt8):∀ a b:List UInt8,Q1d ps l (a++b)=Q1d ps l a+Q1d ps l b
 | [],b=>by simp [Q1d]
 | c::a,b=>by rw [List.cons_append,Q1d,Q1d,Y3w ps l a b,Nat.add_assoc]
def Y8t (ps:Prs) (c:UInt8):List UInt8→Nat
 | []=>0
 | x::ks=>(if x=c then dB ps x else 0)+Y8t ps c ks
theorem X9f (ps:Prs) (c:UInt8) (l:List UInt8):∀ ks:List UInt8,Q1d ps (c::l) ks=Q1d ps l ks+Y8t ps c ks
 | []=>rfl
 | x::ks=>by
   rw [Q1d,Q1d,Y8t,X9f ps c l ks,List.count_cons];by_cases h:c=x
   ·subst h;simp [Nat.add_mul];omega
   ·have:(c==x)=false:=(by simpa using h);rw [this,if_neg yX,if_neg (fun e=>h e.symm),Nat.add_zero];omega
theorem X5y (ps:Prs) (c:UInt8):∀ ks:List UInt8,c∉ks→Y8t ps c ks=0
 | [],_=>rfl
 | x::ks,h=>by
   rw [List.mem_cons,not_or] at h;rw [Y8t,if_neg (fun e=>h.1 e.symm),X5y ps c ks h.2]
theorem Z2f (ps:Prs) (c:UInt8):∀ ks:List UInt8,ks.Nodup→c∈ks→Y8t ps c ks=dB ps c
 | [],_,h=>by simp at h
 | x::ks,hn,h=>by
   obtain ⟨h1,h2⟩:=List.nodup_cons.1 hn;rw [Y8t];by_cases e:x=c
   ·subst e;rw [if_pos rfl,X5y ps x ks h1,Nat.add_zero]
   ·rw [if_neg e,Z2f ps c ks h2 ((List.mem_cons.1 h).resolve_left fun e2=>e e2.symm),Nat.zero_add]
theorem Y3v (ps:Prs) (ks:List UInt8) (hn:ks.Nodup) (hk:∀ c,c∈ks↔lk ps c≠none):∀ l:List UInt8,Q1d ps l ks=dL ps l
 | []=>by
   have:∀ ks:List UInt8,Q1d ps [] ks=0:=fun ks=>by
    induction ks with
    | nil=>rfl
    | cons x ks ih=>rw [Q1d,ih];simp
   exact this ks
 | c::l=>by
   rw [X9f,Y3v ps ks hn hk l,dL];by_cases h:c∈ks
   ·rw [Z2f ps c ks hn h];omega
   ·rw [X5y ps c ks h];have:lk ps c=none:=by
     cases e:lk ps c with
     | none=>rfl
     | some r=>exact absurd ((hk c).2 (by rw [e];simp)) h
    unfold dB;rw [this];simp
/-! ### The three formats -/
def X0s:Prs:=[(60,⟨#[38,108,116,59]⟩),(38,⟨#[38,97,109,112,59]⟩),(123,⟨#[38,108,98,59]⟩)]
def X0t:Prs:=[(10,⟨#[92,110]⟩),(9,⟨#[92,116]⟩),(13,⟨#[92,114]⟩),(92,⟨#[92,92]⟩),(123,⟨#[92,123]⟩)]
def X0u:Prs:=[(34,⟨#[34,34]⟩),(123,⟨#[123,123]⟩)]
theorem V4v:Q5f X0s:=by unfold Q5f X0s;decide
theorem V4w:Q5f X0t:=by unfold Q5f X0t;decide
theorem V4x:Q5f X0u:=by unfold Q5f X0u;decide
theorem V9m (c:UInt8):Q6n X0s c=F5 1 c:=by
 unfold Q6n F5 X0s;rw [if_pos rfl];simp only [lk];by_cases h1:c=60
 ·subst h1;rfl
 ·rw [if_neg (fun e=>h1 e.symm),if_neg h1];by_cases h2:c=38
  ·subst h2;rfl
  ·rw [if_neg (fun e=>h2 e.symm),if_neg h2];by_cases h3:c=123
   ·subst h3;rfl
   ·rw [if_neg (fun e=>h3 e.symm),if_neg h3]
theorem V9n (c:UInt8):Q6n X0t c=F5 2 c:=by
 unfold Q6n F5 X0t;rw [if_neg yX,if_pos rfl];simp only [lk];by_cases h1:c=10
 ·subst h1;rfl
 ·rw [if_neg (fun e=>h1 e.symm),if_neg h1];by_cases h2:c=9
  ·subst h2;rfl
  ·rw [if_neg (fun e=>h2 e.symm),if_neg h2];by_cases h3:c=13
   ·subst h3;rfl
   ·rw [if_neg (fun e=>h3 e.symm),if_neg h3];by_cases h4:c=92
    ·subst h4;rfl
    ·rw [if_neg (fun e=>h4 e.symm),if_neg h4];by_cases h5:c=123
     ·subst h5;rfl
     ·rw [if_neg (fun e=>h5 e.symm),if_neg h5]
theorem V9o (c:UInt8):Q6n X0u c=F5 3 c:=by
 unfold Q6n F5 X0u;rw [if_neg yX,if_neg yX];simp only [lk];by_cases h1:c=34
 ·subst h1;rfl
 ·rw [if_neg (fun e=>h1 e.symm),if_neg h1];by_cases h2:c=123
  ·subst h2;rfl
  ·rw [if_neg (fun e=>h2 e.symm),if_neg h2]
end Go.Proofs.YtfkojnofbpdjdaaGreatDoor
namespace Go.Proofs.YtfkojnofbpdjdaaGreatDoor
open Go.RowKit
theorem Z6u (s:ByteArray) (a b:Nat) (hab:a≤b) (hb:b≤s.size) (W:World):(Instr.sliceAt 9 (.string s) (some (.int .i64 (a:Int))) (some (.int .i64 (b:Int))) none).run Tryz.prog W=.ok (.string (s.extract a b)) W:=by
 have h1:(a:Int)≤(b:Int):=yY;have h2:(b:Int)≤(s.size:Int):=yY;have h3:(0:Int)≤(a:Int):=yY;have h4:(0:Int)≤(b:Int):=yY;go_simp
theorem V0i {w w':World} {B:Nat} {e:TypeId} {size:Nat} {v:Value} {n:Nat} {xs:List Value} (h:w.ownsRow B e size v n xs) (hk:∀ k,v.ownBlock=some k→w'.heap[k]? =w.heap[k]?):w'.ownsRow B e size v n xs:=by
 refine ⟨h.1,?_⟩;rcases h.2 with h0 | ⟨g,cap,cur,hv,hbg,hg,rest⟩
 ·exact .inl h0
 ·refine .inr ⟨g,cap,cur,hv,hbg,?_,rest⟩;rw [hk g (by rw [hv];rfl)];exact hg
theorem X6c (k:Int) (t:ByteArray) (d:Int) (w:World) (ht:k=1→t.size≤1000000000000000000):
 Calls Tryz.prog 87 #[.agg #[.int .i64 k,.string t,.int .i64 d]] w fun e w'=>e=.returned (.int .i64 (wdI ⟨k,t,d⟩:Nat))∧Below w.heap.size w w':=by
 obtain ⟨V,HV⟩:∃ V,yK (wdI ⟨k,t,d⟩=V):=⟨_,rfl⟩;rw [HV.o];unfold wdI at HV;have hb:=zW ((Below.refl w.heap.size w).alloc yQ (.cells #[.int .i64 k,.string t,.int .i64 d] 31));by_cases hk:k=1
 ·subst hk;rw [if_pos rfl] at HV;have ha:=ht rfl;clear ht;go_enter Tryz.func87,Tryz.ntmps87
  go_wp2_with fail
  go_ret
  exact ⟨by rw [←HV.o];rfl,hb.o⟩
 ·rw [if_neg hk] at HV;have t1:(k==1)=false:=(by simpa using hk);go_enter Tryz.func87,Tryz.ntmps87
  go_wp2_with fail
  go_ret
  exact ⟨by rw [←HV.o];rfl,hb.o⟩
theorem Q0n (f:List Tk) (v:Value) (w:World) (h1:RdT w v f) (hl:X2 f≤1000000000000000000) (hfl:f.length≤1000000):
 Calls Tryz.prog 62 #[v] w fun e w'=>e=.returned (.int .i64 (X2 f:Nat))∧Below w.heap.size w w':=by
 obtain ⟨A,c,rfl,_,_⟩:=h1.shape;have H1:=zW h1;clear h1;go_enter Tryz.func62,Tryz.ntmps62
 go_wp2_with fail
 obtain ⟨wo,hi⟩:∃ wo,yK (wo=w):=⟨w,rfl⟩;go_loopg [3,5,8] f.length (fun gk nv xv jv wr=>∃ k n:Nat,nv=.int .i64 n∧jv=.int .i64 k∧k≤f.length∧yK (n=X2 (f.take k))∧yK (Below w.heap.size w wr)∧f.length - k≤gk)
 case atStart=>exact ⟨0,0,rfl,rfl,Nat.zero_le _,by show _=_;rw [List.take_zero];rfl,Below.refl _ _,yY⟩
 case round=>
  clear hi;obtain ⟨k,n,rfl,rfl,hk,HN,HB,hgk⟩:=hrel;by_cases hkl:k < f.length
  ·have hp:(k:Int) < (f.length:Int):=yY;have ho:(0:Int)≤(k:Int):=yY;obtain ⟨b,o,rfl,hd,q1,q2,q3⟩:=RdT.at_ H1.o k hkl;rw [←HB.o.cell (p:=⟨b,o+k * 3,none⟩) hd] at q1;rw [←HB.o.cell (p:=⟨b,o+k * 3+1,none⟩) hd] at q2;rw [←HB.o.cell (p:=⟨b,o+k * 3+2,none⟩) hd] at q3;have hn:=HB.o.size;have hm:b < wr.heap.size:=yY;have ha:=Q4q f (k+1);have he:=M0 f k hkl;rw [he,←HN.o] at ha;have hc:yK (n+wdI f[k]=X2 (f.take (k+1))):=by
    show _=_;rw [he,←HN.o]
   clear he;generalize f[k]=x at q1 q2 q3 hc ha;obtain ⟨xk,xt,xd⟩:=x;simp only at q1 q2 q3;have hg:xk=1→xt.size≤1000000000000000000:=fun e=>by
    have:wdI ⟨xk,xt,xd⟩=xt.size:=(by unfold wdI;rw [if_pos e]);omega
   have hf:=zW (fun u=>X6c xk xt xd u hg);generalize wdI ⟨xk,xt,xd⟩=z at hf hc ha;have hs:n+z≤1000000000000000000:=yY;have HX:yK ((wr.alloc (.cells #[.int .i64 xk,.string xt,.int .i64 xd] 31)).heap[wr.heap.size]? =some (.cells #[.int .i64 xk,.string xt,.int .i64 xd] 31)):=heap_alloc_new wr _;have hb:=zW (HB.o.alloc hn (.cells #[.int .i64 xk,.string xt,.int .i64 xd] 31));clear hg ha;go_upto_region 5 with fail
   generalize wr.alloc (.cells #[.int .i64 xk,.string xt,.int .i64 xd] 31)=w3 at HX hb ⊢;obtain ⟨q,hq⟩:∃ q,yK (q=wr.heap.size):=⟨_,rfl⟩;rw [←hq.o] at HX ⊢;have hr:q < w3.heap.size:=(Array.getElem?_eq_some_iff.1 HX.o).1;clear q1 q2 q3;obtain ⟨x0,x1,x2,_⟩:=bx3 HX.o;go_wp2_with (go_at_call 87;refine (hf.o _).mono ?_;rintro e w4 ⟨rfl,hj⟩;have hh:=zW (hb.o.trans (hj.mono hb.o.size)))
   go_roundg (f.length - (k+1))
   case measure=>omega
   case rel=>exact ⟨k+1,n+z,rfl,rfl,yY,hc.o,hh.o,yY⟩
  ·obtain rfl:k=f.length:=yY;have e:n=X2 f:=(by rw [HN.o,List.take_length]);go_wp2_with fail
   go_ret
   exact ⟨by rw [←e];rfl,HB.o⟩
theorem V4q (x:Tk) (a p q:Nat):pcI x a p q=if max p a < min q (a+wdI x) then [⟨x.k,if x.k=1 then x.t.extract (max p a - a) (min q (a+wdI x) - a) else x.t,x.d⟩] else []:=by
 unfold pcI wdI;by_cases hx:x.k=1
 ·rw [if_neg yY,if_pos hx,if_pos hx];by_cases h:max p a < min q (a+x.t.size)
  ·rw [if_pos h,if_pos yY,hx]
  ·rw [if_neg h,if_neg yY]
 ·rw [if_pos hx,if_neg hx,if_neg hx];by_cases h:max p a < min q (a+1)
  ·rw [if_pos h,if_pos yY]
  ·rw [if_neg h,if_neg yY]
theorem Q8s (f:List Tk) (v:Value) (p q:Nat) (w:World) (h1:RdT w v f) (hl:X2 f≤1000000000000000000) (hfl:f.length≤1000000) (hpq:p≤q) (hq:q≤X2 f):
 Calls Tryz.prog 47 #[v,.int .i64 (p:Int),.int .i64 (q:Int)] w (Z1h w (slI f 0 p q)):=by
 obtain ⟨R,hH⟩:∃ R,yK (R=Z1h w (slI f 0 p q)):=⟨_,rfl⟩;rw [←hH.o];obtain ⟨A,c,rfl,_,_⟩:=h1.shape;have HL:=zW (Q0n f _ w h1 hl hfl);have H1:=zW h1;clear h1;have Hc:¬ (p:Int) < 0:=yY;have Hd:¬ (q:Int) < (p:Int):=yY;have He:(p:Int)≤(q:Int):=yY;obtain ⟨n,hn⟩:∃ n,yK (n=X2 f):=⟨_,rfl⟩;rw [←hn.o] at hl hq HL;have Hb:¬ (n:Int) < (q:Int):=yY;have hV:decide (n < q)=false:=decide_eq_false yY;go_enter Tryz.func47,Tryz.ntmps47
 go_upto_region 6 with (go_at_call 62;refine HL.o.mono ?_;rintro e w1 ⟨rfl,hI⟩;have hc:=zW hI)
 clear hI;obtain ⟨wo,hO⟩:∃ wo,yK (wo=w1):=⟨w1,rfl⟩;go_loopg [8,9,11,12,13,14,30] f.length (fun gk ov av xv nv lv hv jv wr=>∃ k at_:Nat,av=.int .i64 at_∧jv=.int .i64 k∧k≤f.length∧yK (at_=X2 (f.take k))∧yK (OwnE 31 tkC 3 wr w.heap.size ov (slI (f.take k) 0 p q))∧yK (Below w.heap.size w wr)∧f.length - k≤gk)
 case atStart=>exact ⟨0,0,rfl,rfl,Nat.zero_le _,by (show _=_);rw [List.take_zero];rfl,OwnE.nil,hc.o,yY⟩
 case round=>
  clear hO hc;obtain ⟨k,a0,rfl,rfl,hk,HA,HO,HB,hgk⟩:=hrel;by_cases hkl:k < f.length
  ·have Ha:(k:Int) < (f.length:Int):=yY;have hZ:(0:Int)≤(k:Int):=yY;obtain ⟨b,o,rfl,hC,q1,q2,q3⟩:=RdT.at_ H1.o k hkl;have hY:=HB.o.size;rw [←HB.o.cell (p:=⟨b,o+k * 3,none⟩) hC] at q1;rw [←HB.o.cell (p:=⟨b,o+k * 3+1,none⟩) hC] at q2;rw [←HB.o.cell (p:=⟨b,o+k * 3+2,none⟩) hC] at q3;have hQ:b < wr.heap.size:=yY;have hh:=Q4q f (k+1);have ha:=zW (Y7k f p q k hkl);have he:=zW (M0 f k hkl);rw [he.o,←HA.o] at hh;rw [←HA.o] at ha he;rw [V4q] at ha;have hE:=X4t (f.take k) 0 p q;rw [List.length_take] at hE;obtain ⟨Ao,co,hF⟩:=Q0 HO.o;generalize hol0:(slI (f.take k) 0 p q).length=no at hF hE;subst hF;have hb:=zW hol0;clear hol0;have hW:no≤1000000:=yY;clear hE;generalize f[k]=x at q1 q2 q3 ha he hh;obtain ⟨xk,xt,xd⟩:=x;simp only at q1 q2 q3;rw [←hn.o] at hh;have ho:xk=1→wdI ⟨xk,xt,xd⟩=xt.size:=fun e=>by unfold wdI;rw [if_pos e]
   have hK:xk=1→xt.size≤1000000000000000000:=fun e=>by have:=ho e;omega
   have hz:=zW (fun u=>X6c xk xt xd u hK);generalize wdI ⟨xk,xt,xd⟩=z at hz ha he hh ho;have hN:=zW ho;have Hf:a0+z≤1000000000000000000:=yY;have HX:yK ((wr.alloc (.cells #[.int .i64 xk,.string xt,.int .i64 xd] 31)).heap[wr.heap.size]? =some (.cells #[.int .i64 xk,.string xt,.int .i64 xd] 31)):=heap_alloc_new wr _;have hc:=zW (HB.o.alloc hY (.cells #[.int .i64 xk,.string xt,.int .i64 xd] 31));have ht:=zW (World.ownsRow.alloc HO.o (.cells #[.int .i64 xk,.string xt,.int .i64 xd] 31));clear hK hh ho;go_upto_region 8 with fail
   generalize wr.alloc (.cells #[.int .i64 xk,.string xt,.int .i64 xd] 31)=w3 at HX hc ht ⊢;obtain ⟨g,hg⟩:∃ g,yK (g=wr.heap.size):=⟨_,rfl⟩;rw [←hg.o] at HX ⊢;have hJ:g < w3.heap.size:=(Array.getElem?_eq_some_iff.1 HX.o).1;clear q1 q2 q3;obtain ⟨x0,x1,x2,_⟩:=bx3 HX.o;go_upto_region 9 with (go_at_call 87;refine (hz.o _).mono ?_;rintro e w4 ⟨rfl,hb4⟩)
   have hr:=zW (hc.o.trans (hb4.mono hc.o.size));have hA:=zW ((hb4.block g hJ).trans HX.o);have hu:=zW (V4 ht.o hb4 yQ);have hp:yK (a0+z=X2 (f.take (k+1))):=he.o.symm;have hR:g < w4.heap.size:=(Array.getElem?_eq_some_iff.1 hA.o).1;have hM:yK (∀ j,(Value.slice Ao no co).ownBlock=some j→j < g):=fun j hj=>by have:=(HO.o.lt j hj).2;rw [hg.o];exact this
   clear hb4 HX hc ht x0 x1 x2 hz hJ HO HB he;go_upto_region 10 with fail
   rw [show max (p:Int) (a0:Int)=((max p a0:Nat):Int) by omega,show min (q:Int) ((a0:Int)+(z:Int))=((min q (a0+z):Nat):Int) by omega];have hU:a0≤max p a0:=yY;have hT:min q (a0+z)≤a0+z:=yY;generalize max p a0=lo at ha hU ⊢;generalize min q (a0+z)=hi at ha hT ⊢;obtain ⟨x0,x1,x2,y0,y1,y2⟩:=bx3 hA.o;by_cases hlh:lo < hi
   ·have hD:(lo:Int) < (hi:Int):=yY;rw [if_pos hlh] at ha;by_cases hx:xk=1
    ·subst hx;rw [if_pos rfl] at ha;have hL:xt.size=z:=(hN.o rfl).symm;obtain ⟨y,hy⟩:∃ y:ByteArray,yK (y=xt.extract (lo - a0) (hi - a0)):=⟨_,rfl⟩;rw [←hy.o] at ha;have hX:(Instr.sliceAt 9 (.string xt) (some (.int .i64 ((lo:Int) - (a0:Int)))) (some (.int .i64 ((hi:Int) - (a0:Int)))) none).run Tryz.prog w4=.ok (.string y) w4:=by
      have h1:(lo:Int) - (a0:Int)=((lo - a0:Nat):Int):=yY;have h2:(hi:Int) - (a0:Int)=((hi - a0:Nat):Int):=yY;rw [h1,h2,hy.o];exact Z6u xt _ _ yY yY w4
     have hP:=zW hL;clear hL;have h3:(hi:Int) - (a0:Int)≤(xt.size:Int):=(by have:=hP.o;omega);go_upto_region 13 with fail
     have hB:yK ((w4.setCell ⟨g,1,none⟩ (.string y)).heap[g]? =some (.cells #[.int .i64 1,.string y,.int .i64 xd] 31)):=R3 hA.o 1 _;have hd:=zW (hr.o.setCell (p:=⟨g,1,none⟩) (by show _≤g;have:=hg.o;omega) (.string y));have hm:yK (OwnE 31 tkC 3 (w4.setCell ⟨g,1,none⟩ (.string y)) w.heap.size (.slice Ao no co) (slI (f.take k) 0 p q)):=V0i hu.o (fun j hj=>heap_setCell_other _ _ _ _ (fun e=>by have:=hM.o j hj;have e2:j=g:=e;omega));clear x0 x1 x2 y0 y1 y2 hX h3;generalize w4.setCell ⟨g,1,none⟩ (.string y)=w5 at hB hd hm ⊢;obtain ⟨x0,x1,x2,y0,y1,y2⟩:=bx3 hB.o;have hS:g < w5.heap.size:=(Array.getElem?_eq_some_iff.1 hB.o).1;have hG:=hd.o.size;have hf:=zW (World.ownsRow.alloc hm.o (.cells (tkC ⟨1,y,xd⟩).toArray 31));go_wp2_with (at_builtin;go_must (refine Z5 rfl (.tmp 60) (.tmp 62) 24 31 rfl Tryz.underlying24 _ 3 32 Z7 rfl yX w.heap.size (.slice Ao no co) no ((slI (f.take k) 0 p q).flatMap tkC) rfl (by have h:=hf.o;simp only [hb.o] at h;exact h) ⟨w5.heap.size,0,none⟩ 1 (tkC ⟨1,y,xd⟩) rfl rfl (by exact F4 _ _ _) (K2 _) yY yX yV ?_);intro g9 cap9 w9 hown9 hg9 hbel9 hgr9)
     have hw:yK (OwnE 31 tkC 3 w9 w.heap.size (.slice (some ⟨g9,0,none⟩) (no+1) cap9) (slI (f.take (k+1)) 0 p q)):=by
      show OwnE _ _ _ _ _ _ _;rw [ha.o];refine OwnE.snoc (f:=tkC) ?_;rw [hb.o];exact hown9
     have hs:=zW (hbel9 _ _ yQ (hd.o.alloc hG (.cells (tkC ⟨1,y,xd⟩).toArray 31)));clear hown9 hbel9 hgr9 hf;go_wp2_with fail
     go_roundg (f.length - (k+1))
     case measure=>omega
     case rel=>exact ⟨k+1,a0+z,rfl,rfl,yY,hp.o,hw.o,hs.o,yY⟩
    ·have t1:(xk==1)=false:=(by simpa using hx);rw [if_neg hx] at ha;have hm:=hu;have hd:=hr;have hG:=hd.o.size;have hf:=zW (World.ownsRow.alloc hm.o (.cells (tkC ⟨xk,xt,xd⟩).toArray 31));go_wp2_with (at_builtin;go_must (refine Z5 rfl (.tmp 60) (.tmp 62) 24 31 rfl Tryz.underlying24 _ 3 32 Z7 rfl yX w.heap.size (.slice Ao no co) no ((slI (f.take k) 0 p q).flatMap tkC) rfl (by have h:=hf.o;simp only [hb.o] at h;exact h) ⟨w4.heap.size,0,none⟩ 1 (tkC ⟨xk,xt,xd⟩) rfl rfl (by exact F4 _ _ _) (K2 _) yY yX yV ?_);intro g9 cap9 w9 hown9 hg9 hbel9 hgr9)
     have hw:yK (OwnE 31 tkC 3 w9 w.heap.size (.slice (some ⟨g9,0,none⟩) (no+1) cap9) (slI (f.take (k+1)) 0 p q)):=by
      show OwnE _ _ _ _ _ _ _;rw [ha.o];refine OwnE.snoc (f:=tkC) ?_;rw [hb.o];exact hown9
     have hs:=zW (hbel9 _ _ yQ (hd.o.alloc hG (.cells (tkC ⟨xk,xt,xd⟩).toArray 31)));clear hown9 hbel9 hgr9 hf;go_wp2_with fail
     go_roundg (f.length - (k+1))
     case measure=>omega
     case rel=>exact ⟨k+1,a0+z,rfl,rfl,yY,hp.o,hw.o,hs.o,yY⟩
   ·have hD:¬ (lo:Int) < (hi:Int):=yY;rw [if_neg hlh,List.append_nil] at ha;go_wp2_with fail
    go_roundg (f.length - (k+1))
    case measure=>omega
    case rel=>exact ⟨k+1,a0+z,rfl,rfl,yY,hp.o,by (show OwnE _ _ _ _ _ _ _);rw [ha.o];exact hu.o,hr.o,yY⟩
  ·obtain rfl:k=f.length:=yY;rw [List.take_length] at HO;obtain ⟨Ao,co,hF⟩:=Q0 HO.o;go_wp2_with fail
   rw [hH.o];exact ⟨_,rfl,HO.o,HB.o⟩
theorem Q7n:∀ (f:List Tk) (i:Nat) (x:Tk),Normal f→f[i]? =some x→x.k=1→x.t.size≠0∧x.d=0
 | [],i,x,_,h,_=>by simp at h
 | y::f,0,x,hn,h,hk=>by
   injection h with h;subst h;exact ⟨(hn.1 hk).1,(hn.1 hk).2.1⟩
 | y::f,i+1,x,hn,h,hk=>Q7n f i x hn.2 h hk
theorem Q6c:∀ (f:List Tk) (i:Nat) (x y:Tk),Normal f→f[i]? =some y→f[i+1]? =some x→x.k=1→y.k≠1
 | [],i,x,y,_,h,_,_=>by simp at h
 | z::f,0,x,y,hn,h,h1,hk=>by
   injection h with h;subst h;intro hz;cases f with
   | nil=>simp at h1
   | cons q f=>
     injection h1 with h1;exact (hn.1 hz).2.2 q rfl (by rw [h1];exact hk)
 | z::f,i+1,x,y,hn,h,h1,hk=>Q6c f i x y hn.2 h h1 hk
theorem Q5v (k:Int) (t:ByteArray) (d:Int) (w:World) (h:k=2∨k=3∨k=4):
 Calls Tryz.prog 76 #[.agg #[.int .i64 k,.string t,.int .i64 d]] w fun e w'=>e=.returned (.bool true)∧Below w.heap.size w w':=by
 have HB:=zW ((Below.refl w.heap.size w).alloc yQ (.cells #[.int .i64 k,.string t,.int .i64 d] 31));rcases h with rfl | rfl | rfl
 all_goals (
  go_enter Tryz.func76,Tryz.ntmps76
  go_wp2_with fail
  go_ret
  exact ⟨rfl,HB.o⟩)
theorem X4m (k:Int) (t:ByteArray) (d:Int) (w:World) (h:k=1∨k=5):
 Calls Tryz.prog 76 #[.agg #[.int .i64 k,.string t,.int .i64 d]] w fun e w'=>e=.returned (.bool false)∧Below w.heap.size w w':=by
 have HB:=zW ((Below.refl w.heap.size w).alloc yQ (.cells #[.int .i64 k,.string t,.int .i64 d] 31));rcases h with rfl | rfl
 all_goals (
  go_enter Tryz.func76,Tryz.ntmps76
  go_wp2_with fail
  go_ret
  exact ⟨rfl,HB.o⟩)
theorem X8b (f:List Tk) (v:Value) (i:Nat) (m:Int) (w:World) (hm:w.cell? ⟨0,0,none⟩=some (.int .i64 m)) (h1:RdT w v f) (hi:i < f.length) (hfl:f.length≤1000000) (hn:Normal f) (hw:WfI f[i]) (hs:f[i].t.size≤1000000):
 Calls Tryz.prog 75 #[v,.int .i64 i] w fun e w'=>e=.returned (.bool true)∧Below w.heap.size w w':=by
 obtain ⟨A,c,rfl,_,_⟩:=h1.shape;obtain ⟨b,o,rfl,hf,q1,q2,q3⟩:=RdT.at_ h1 i hi;have hx:f[i]? =some f[i]:=List.getElem?_eq_getElem hi;have ha:∀ j,i=j+1→f[i].k=1→∃ kp:Int,w.cell? ⟨b,o+j * 3,none⟩=some (.int .i64 kp)∧(kp != 1)=true:=by
  intro j hj hk;obtain ⟨b',o',hA,_,p1,_,_⟩:=RdT.at_ h1 j yY;injection hA with hA;injection hA with e1 e2;subst e1 e2;refine ⟨_,p1,?_⟩;have:=Q6c f j f[i] f[j] hn (List.getElem?_eq_getElem yY) (by rw [←hj];exact hx) hk;simpa using this
 have hb:=Q7n f i f[i] hn hx;generalize f[i]=x at q1 q2 q3 hw hs ha hb;obtain ⟨k,t,d⟩:=x;simp only at q1 q2 q3 hs ha hb;have hg:(i:Int) < (f.length:Int):=yY;have ho:(0:Int)≤(i:Int):=yY;have HB:=zW ((Below.refl w.heap.size w).alloc yQ (.cells #[.int .i64 k,.string t,.int .i64 d] 31));have HM:yK ((w.alloc (.cells #[.int .i64 k,.string t,.int .i64 d] 31)).cell? ⟨0,0,none⟩=some (.int .i64 m)):=(by show _=_;rw [World.cell?_alloc_past _ _ _ (Q2i hm)];exact hm);clear h1 hx hn hm;generalize f.length=n at hi hfl hg;rcases hw with hk | ⟨hk,hnm,hd⟩ | ⟨hk,hct,hd1,hd2⟩ | ⟨hk,hnm,hd1,hd2⟩
 ·have hk':k=1:=hk;subst hk';obtain ⟨a1,a2⟩:=hb rfl;subst a2;have hl:(t.toList != [])=true:=by
   rw [bne_iff_ne,Y4];intro h;exact a1 (by rw [Lib.size_eq,h];rfl)
  have hc:¬ t.toList=[]:=(by simpa using hl);clear hb a1;cases i with
  | zero=>
    clear ha;rw [Nat.zero_mul,Nat.add_zero] at q1 q2 q3;go_enter Tryz.func75,Tryz.ntmps75
    go_wp2_with fail
    go_ret
    exact ⟨U9 (by first | rfl | simp [hc]),HB.o⟩
  | succ j=>
    obtain ⟨kp,p1,he⟩:=ha j rfl rfl;have hh:¬ kp=1:=(by simpa using he);have hr:¬ ((j+1:Nat):Int)=0:=yY;have hp:(((j+1:Nat):Int)==0)=false:=(by rw [beq_eq_false_iff_ne];omega);have hq:((j+1:Nat):Int) - 1=(j:Int):=yY;have p1':(w.alloc (.cells #[.int .i64 1,.string t,.int .i64 0] 31)).cell? ⟨b,o+j * 3,none⟩=some (.int .i64 kp):=(by rw [World.cell?_alloc_past _ _ _ hf];exact p1);clear ha;go_enter Tryz.func75,Tryz.ntmps75
    go_wp2_with fail
    go_ret
    exact ⟨U9 (by first | rfl | exact he | simp [he,hc]),HB.o⟩
 ·have hk':k=5:=hk;have hd':d=0:=hd;subst hk' hd';have CN:=zW (fun w=>L5 t w (by unfold maxLen;omega));rw [show V8 t.data.toList=true from hnm] at CN;clear ha hb hnm;go_enter Tryz.func75,Tryz.ntmps75
  go_wp2_with (go_at_call 114;refine (CN.o _).mono ?_;rintro e w' ⟨rfl,rfl⟩)
  go_ret
  exact ⟨rfl,HB.o⟩
 ·have hd1':(1:Int)≤d:=hd1;have hd2':d≤999:=hd2;have CC:=zW (fun w hm=>Q3c t m w hm hct);clear ha hb hct;rcases hk with hk | hk
  ·have hk':k=2:=hk;subst hk';clear hk;go_enter Tryz.func75,Tryz.ntmps75
   go_wp2_with (go_at_call 115;refine (CC.o _ HM.o).mono ?_;rintro e w' ⟨rfl,n1,rfl⟩)
   go_ret
   exact ⟨U9 (by simp [hd1',hd2']),Q1 HB.o n1⟩
  ·have hk':k=4:=hk;subst hk';clear hk;go_enter Tryz.func75,Tryz.ntmps75
   go_wp2_with (go_at_call 115;refine (CC.o _ HM.o).mono ?_;rintro e w' ⟨rfl,n1,rfl⟩)
   go_ret
   exact ⟨U9 (by simp [hd1',hd2']),Q1 HB.o n1⟩
 ·have hk':k=3:=hk;subst hk';have hd1':(1:Int)≤d:=hd1;have hd2':d≤999:=hd2;have CN:=zW (fun w=>L5 t w (by unfold maxLen;omega));rw [show V8 t.data.toList=true from hnm] at CN;clear ha hb hnm hk;go_enter Tryz.func75,Tryz.ntmps75
  go_wp2_with (go_at_call 114;refine (CN.o _).mono ?_;rintro e w' ⟨rfl,rfl⟩)
  go_ret
  exact ⟨U9 (by simp [hd1',hd2']),HB.o⟩
theorem V4k (s:ByteArray) (m:Int) (w:World) (hs:s.size≤1000000) (hm:w.cell? ⟨0,0,none⟩=some (.int .i64 m)):
 Calls Tryz.prog 116 #[.string s] w fun e w'=>e=.returned (.string (J8 s))∧∃ n,w'=w.drewN n:=by
 have hcut:=X5k s.data.toList;have HC:=zW (Tryz.strings_Cut s (⟨#[32]⟩:ByteArray) m w yY hm);have HN:yK ((⟨(Lib.cut s.data.toList [32]).1.toArray⟩:ByteArray)=J8 s):=by
  show _=_;rw [hcut,←Q8w]
 rw [←HN.o];clear hcut HN;generalize Lib.cut s.data.toList [32]=cc at HC ⊢;go_enter Tryz.func116,Tryz.ntmps116
 go_wp2_with (go_at_call 80;refine (HC.o).mono ?_;rintro e w1 ⟨rfl,n1,rfl⟩)
 go_ret
 exact ⟨rfl,n1,rfl⟩
theorem Z8z (f:List Tk) (v:Value) (xk:Int) (xt:ByteArray) (xd m:Int) (w:World) (hm:w.cell? ⟨0,0,none⟩=some (.int .i64 m)) (h1:RdT w v f) (hfl:f.length≤1000000) (hx:N1 ⟨xk,xt,xd⟩) (hk:∀ y∈f,y.k=1∨y.k=5∨y.k=2∨y.k=3∨y.k=4) (hs:∀ y∈f,y.t.size≤1000000) (hfit:∀ y∈f,Y0w y ⟨xk,xt,xd⟩):
 Calls Tryz.prog 77 #[v,.agg #[.int .i64 xk,.string xt,.int .i64 xd]] w fun e w'=>e=.returned (.bool true)∧Below w.heap.size w w':=by
 obtain ⟨R,hE⟩:∃ R:Ending→World→Prop,yK (R=fun e w'=>e=.returned (.bool true)∧Below w.heap.size w w'):=⟨_,rfl⟩;rw [←hE.o];obtain ⟨A,c,rfl,_,_⟩:=h1.shape;have hF:=Q2i hm;have ht:yK ((w.alloc (.cells #[.int .i64 xk,.string xt,.int .i64 xd] 31)).heap[w.heap.size]? =some (.cells #[.int .i64 xk,.string xt,.int .i64 xd] 31)):=Array.getElem?_push_size;have hy:=zW ((Below.refl w.heap.size w).alloc yQ (.cells #[.int .i64 xk,.string xt,.int .i64 xd] 31));have hz:yK ((w.alloc (.cells #[.int .i64 xk,.string xt,.int .i64 xd] 31)).cell? ⟨0,0,none⟩=some (.int .i64 m)):=(by show _=_;rw [World.cell?_alloc_past _ _ _ hF];exact hm);have H1:yK (RdT (w.alloc (.cells #[.int .i64 xk,.string xt,.int .i64 xd] 31)) (.slice A f.length c) f):=RdE.alloc h1 _;have hv:w.heap.size < (w.alloc (.cells #[.int .i64 xk,.string xt,.int .i64 xd] 31)).heap.size:=yW;have HK:=zW hk;have hH:=zW hs;have HF:=zW hfit;have HT:=zW hx;obtain ⟨p,hp⟩:∃ p,yK (p=w.heap.size):=⟨_,rfl⟩;clear h1 hm hF hk hs hfit hx;go_enter Tryz.func77,Tryz.ntmps77
 go_upto_region 1 with fail
 rw [←hp.o] at ht hv ⊢;generalize w.alloc (.cells #[.int .i64 xk,.string xt,.int .i64 xd] 31)=w0 at ht hy hz H1 hv ⊢;go_wp2_with fail
 go_loopg [9] f.length (fun gk iv wr=>∃ i:Nat,iv=.int .i64 i∧i≤f.length∧yK (Below w0.heap.size w0 wr)∧f.length - i≤gk)
 case atStart=>exact ⟨0,rfl,Nat.zero_le _,Below.refl _ _,yQ⟩
 case round=>
  obtain ⟨i,rfl,hi,HB,hgk⟩:=hrel;by_cases hlt:i < f.length
  ·have hK:(i:Int) < (f.length:Int):=yY;have hJ:(0:Int)≤(i:Int):=yY;obtain ⟨b,o,hA,hB,p0,p1,p2⟩:=RdT.at_ H1.o i hlt;subst hA;have hc:=List.getElem_mem hlt;have hC:=HK.o _ hc;have hD:=hH.o _ hc;have hu:=HF.o _ hc;clear hc;generalize f[i]=y at p0 p1 p2 hC hD hu;obtain ⟨yk,yt,yd⟩:=y;simp only at p0 p1 p2 hC hD;have q0:=(HB.o.cell (p:=⟨b,o+i * 3,none⟩) hB).trans p0;have q1:=(HB.o.cell (p:=⟨b,o+i * 3+1,none⟩) hB).trans p1;have q2:=(HB.o.cell (p:=⟨b,o+i * 3+2,none⟩) hB).trans p2;clear p0 p1 p2;have hI:=HB.o.size;have HY:yK ((wr.alloc (.cells #[.int .i64 yk,.string yt,.int .i64 yd] 31)).heap[wr.heap.size]? =some (.cells #[.int .i64 yk,.string yt,.int .i64 yd] 31)):=Array.getElem?_push_size;have hb:=zW (HB.o.alloc hI (.cells #[.int .i64 yk,.string yt,.int .i64 yd] 31));have hw:wr.heap.size < (wr.alloc (.cells #[.int .i64 yk,.string yt,.int .i64 yd] 31)).heap.size:=yW;obtain ⟨q,hq⟩:∃ q,yK (q=wr.heap.size):=⟨_,rfl⟩;go_upto_region 4 with fail
   rw [←hq.o] at HY hw ⊢;generalize wr.alloc (.cells #[.int .i64 yk,.string yt,.int .i64 yd] 31)=w1 at HY hb hw ⊢;obtain ⟨y0,y1,y2,_⟩:=bx3 HY.o;by_cases htag:yk=2∨yk=3∨yk=4
   ·by_cases hd:yd=xd
    ·obtain ⟨e1,e2,e3⟩:=hu htag HT.o hd;have e1':xk=3:=e1;have e2':yk=2:=e2;have e3':J8 yt=xt:=e3;subst e1' e2' hd;have ho:=zW (fun w hm=>V4k yt m w hD hm);rw [e3'] at ho;clear e1 e2 e3 hu hC;have CT:=zW (Q5v 2 yt yd w1 htag);go_wp2_with (go_at_call 76;refine (CT.o).mono ?_;rintro e w2 ⟨rfl,ha⟩;have hr:=zW ha;have hG:=ha.size;have hh:yK (w2.heap[p]? =some (.cells #[.int .i64 3,.string xt,.int .i64 yd] 31)):=(ha.block p (by have:=hb.o.size;omega)).trans ((hb.o.block p hv).trans ht.o);have hj:yK (w2.heap[q]? =some (.cells #[.int .i64 2,.string yt,.int .i64 yd] 31)):=(ha.block q hw).trans HY.o;have x2:=(bx3 hh.o).2.2.1;have z2:=(bx3 hj.o).2.2.1;have hg:=zW (hb.o.trans (ha.mono (hb.o.size)));clear ha)
     obtain ⟨x0,x1,_⟩:=bx3 hh.o;obtain ⟨z0,z1,_⟩:=bx3 hj.o;have hn:yK (w2.cell? ⟨0,0,none⟩=some (.int .i64 m)):=(hg.o.cell (p:=⟨0,0,none⟩) (Q2i hz.o)).trans hz.o;clear y0 y1 y2 x2 z2 CT HY hb hr;generalize w2=w3 at hh hj x0 x1 z0 z1 hn hg hG ⊢;refine zqR (l0:=#[false,false,false,false,false,false,false,false,false,false,false,false,false,false,false,false]) 16 rfl ?_;refine zqF 0 23 (.pointer (some ⟨p,0,none⟩)) rfl rfl (.pointer (some ⟨p,0,none⟩)) ?_;simp only [Act.put,zZ,zY,zX];refine zqo 1 rfl ?_;refine zqL (.int .i64 3) rfl (.pointer (some ⟨p,0,none⟩)) (O0 (w:=w3.drew) x0) ?_;refine zqB 2 25 (.bool false) rfl rfl (.int .i64 3) (.int .i64 3) ?_;refine zqM 3 26 (.bool false) rfl ?_;refine zqF 4 27 (.pointer (some ⟨q,0,none⟩)) rfl rfl (.pointer (some ⟨q,0,none⟩)) ?_;simp only [Act.put,zZ,zY,zX];refine zqo 5 rfl ?_;refine zqL (.int .i64 2) rfl (.pointer (some ⟨q,0,none⟩)) (O0 (w:=w3.drew) z0) ?_;refine zqB 6 29 (.bool false) rfl rfl (.int .i64 2) (.int .i64 2) ?_;refine zqP 7 30 (.bool false) rfl rfl false ?_;refine zqM 8 31 (.bool false) rfl ?_;refine zqF 9 32 (.pointer (some ⟨q,1,none⟩)) rfl rfl (.pointer (some ⟨q,0,none⟩)) ?_;refine zqF 12 35 (.pointer (some ⟨p,1,none⟩)) rfl rfl (.pointer (some ⟨p,0,none⟩)) ?_;simp only [Act.put,zZ,zY,zX];refine zqt 10 13 rfl rfl ?_ ?_;refine zqL (.string yt) rfl (.pointer (some ⟨q,1,none⟩)) (L0 (w:=w3.drew) z1) ?_;simp only [Act.put,zZ,zY,zX];refine zqt 11 13 rfl rfl ?_ ?_;refine Q0y (.string yt) rfl Tryz.func116 (ho.o _ (by exact hn.o)) ?_;rintro e w1 ⟨rfl,n1,rfl⟩;refine ⟨.string xt,rfl,?_⟩;simp only [Act.put,zZ,zY,zX];refine zqo 13 rfl ?_;refine zqL (.string xt) rfl (.pointer (some ⟨p,1,none⟩)) (L0 (w:=w3.drew.drewN n1) x1) ?_;refine zqB 14 37 (.bool false) rfl rfl (.string xt) (.string xt) ?_;refine zqP 15 38 (.bool false) rfl rfl false ?_;refine wpAny_done yZ ?_ _;simp only [Act.put,zZ,zY,zX];have he:yK (∃ n,w3.drew.drewN n1=w3.drewN n):=⟨1+n1,by simp⟩;obtain ⟨n2,hf⟩:=he.o;rw [hf];clear hf he;rotate_left 1
     refine zqL (.string xt) rfl (.pointer (some ⟨p,1,none⟩)) (L0 (w:=w3.drew) x1) ?_;simp only [Act.put,zZ,zY,zX];refine zqo 11 rfl ?_;refine Q0y (.string yt) rfl Tryz.func116 (ho.o _ (by exact hn.o)) ?_;rintro e w1 ⟨rfl,n1,rfl⟩;refine ⟨.string xt,rfl,?_⟩;refine zqB 14 37 (.bool false) rfl rfl (.string xt) (.string xt) ?_;refine zqP 15 38 (.bool false) rfl rfl false ?_;refine wpAny_done yZ ?_ _;simp only [Act.put,zZ,zY,zX];have he:yK (∃ n,w3.drew.drewN n1=w3.drewN n):=⟨1+n1,by simp⟩;obtain ⟨n2,hf⟩:=he.o;rw [hf];clear hf he;rotate_left 1
     refine zqL (.string xt) rfl (.pointer (some ⟨p,1,none⟩)) (L0 (w:=w3.drew) x1) ?_;simp only [Act.put,zZ,zY,zX];refine zqo 10 rfl ?_;refine zqL (.string yt) rfl (.pointer (some ⟨q,1,none⟩)) (L0 (w:=w3.drew) z1) ?_;simp only [Act.put,zZ,zY,zX];refine zqo 11 rfl ?_;refine Q0y (.string yt) rfl Tryz.func116 (ho.o _ (by exact hn.o)) ?_;rintro e w1 ⟨rfl,n1,rfl⟩;refine ⟨.string xt,rfl,?_⟩;refine zqB 14 37 (.bool false) rfl rfl (.string xt) (.string xt) ?_;refine zqP 15 38 (.bool false) rfl rfl false ?_;refine wpAny_done yZ ?_ _;simp only [Act.put,zZ,zY,zX];have he:yK (∃ n,w3.drew.drewN n1=w3.drewN n):=⟨1+n1,by simp⟩;obtain ⟨n2,hf⟩:=he.o;rw [hf];clear hf he;all_goals (
      have hl:=zW (Q1 hg.o n2);clear hg hn x0 x1 z0 z1 hh hj;generalize w3.drewN n2=w4 at hl ⊢;go_wp2_with fail
      go_roundg (f.length - (i+1))
      case measure=>omega
      case rel=>exact ⟨i+1,by go_num,hlt,hl.o,yY⟩)
    ·have hL:(yd != xd)=true:=(by simpa using hd);clear hu;have CT:=zW (Q5v yk yt yd w1 htag);go_wp2_with (go_at_call 76;refine (CT.o).mono ?_;rintro e w2 ⟨rfl,ha⟩;have hr:=zW ha;have hG:=ha.size;have hh:yK (w2.heap[p]? =some (.cells #[.int .i64 xk,.string xt,.int .i64 xd] 31)):=(ha.block p (by have:=hb.o.size;omega)).trans ((hb.o.block p hv).trans ht.o);have hj:yK (w2.heap[q]? =some (.cells #[.int .i64 yk,.string yt,.int .i64 yd] 31)):=(ha.block q hw).trans HY.o;have x2:=(bx3 hh.o).2.2.1;have z2:=(bx3 hj.o).2.2.1;have hg:=zW (hb.o.trans (ha.mono (hb.o.size)));clear ha)
     go_roundg (f.length - (i+1))
     case measure=>omega
     case rel=>exact ⟨i+1,by go_num,hlt,hg.o,yY⟩
   ·have CT:=zW (X4m yk yt yd w1 yY);go_wp2_with (go_at_call 76;refine (CT.o).mono ?_;rintro e w2 ⟨rfl,ha⟩;have hr:=zW ha;clear ha)
    go_roundg (f.length - (i+1))
    case measure=>omega
    case rel=>exact ⟨i+1,by go_num,hlt,hb.o.trans (hr.o.mono hb.o.size),yY⟩
  ·obtain rfl:i=f.length:=yY;go_wp2_with fail
   first | go_ret | skip
   rw [hE.o];exact ⟨rfl,hy.o.trans (HB.o.mono hy.o.size)⟩
theorem Q5e (f:List Tk) (v:Value) (m:Int) (w:World) (hm:w.cell? ⟨0,0,none⟩=some (.int .i64 m)) (h1:RdT w v f) (hv:ValF f) (hs:∀ y∈f,y.t.size≤1000000):
 Calls Tryz.prog 37 #[v] w fun e w'=>e=.returned (.int .i64 0)∧Below w.heap.size w w':=by
 obtain ⟨R,hp⟩:∃ R:Ending→World→Prop,yK (R=fun e w'=>e=.returned (.int .i64 0)∧Below w.heap.size w w'):=⟨_,rfl⟩;rw [←hp.o];obtain ⟨A,c,rfl,hC,_⟩:=h1.shape;have hJ:=hv.len;have hD:=hv.pos;have CL:=zW (Q0n f _ w h1 yY yY);generalize X2 f=ln at hD CL;have H1:=zW h1;have HV:=zW hv;have HM:=zW hm;have hr:=zW hs;have t1:¬ (512:Int) < (f.length:Int):=yY;have t2:¬ (1024:Int) < (ln:Int):=yY;clear h1 hv hm hs;go_enter Tryz.func37,Tryz.ntmps37
 go_wp2_with (go_at_call 62;refine (CL.o).mono ?_;rintro e w0 ⟨rfl,hx⟩;have hz:=zW hx;clear hx)
 go_loopg [15] f.length (fun gk iv wr=>∃ i:Nat,iv=.int .i64 i∧i≤f.length∧yK (Below w.heap.size w wr)∧f.length - i≤gk)
 case atStart=>exact ⟨0,rfl,Nat.zero_le _,hz.o,yQ⟩
 case round=>
  obtain ⟨i,rfl,hi,HB,hgk⟩:=hrel;by_cases hlt:i < f.length
  ·have hI:(i:Int) < (f.length:Int):=yY;have hH:(0:Int)≤(i:Int):=yY;obtain ⟨b,o,hA,hn,p0,p1,p2⟩:=RdT.at_ H1.o i hlt;subst hA;have hb:=List.getElem_mem hlt;have hh:=HV.o.wf _ hb;have hw:=hr.o _ hb;have hF:=HB.o.size;have ho:yK (∀ wx,Below w.heap.size w wx→wx.cell? ⟨0,0,none⟩=some (.int .i64 m)):=fun wx h=>X6 HM.o h;have CW:=zW (fun wx (h:Below w.heap.size w wx)=>X8b f _ i m wx (ho.o wx h) (RdE.below H1.o h yQ) hlt yY HV.o.nrm hh hw);have hc:∀ y∈f.take i,Y0w y f[i]:=by
    intro y hy;obtain ⟨j,hj,rfl⟩:=List.mem_iff_getElem.1 hy;rw [List.length_take] at hj;rw [List.getElem_take];exact (List.pairwise_iff_getElem.1 HV.o.fit) j i yY hlt yY
   have CF:yK (N1 f[i]→∀ wx,Below w.heap.size w wx→Calls Tryz.prog 77 #[.slice (some ⟨b,o,none⟩) i c,.agg #[.int .i64 f[i].k,.string f[i].t,.int .i64 f[i].d]] wx fun e w'=>e=.returned (.bool true)∧Below wx.heap.size wx w'):=fun ht wx h=>
    Z8z (f.take i) _ f[i].k f[i].t f[i].d m wx (ho.o wx h) (by
     have:=RdE.take (RdE.below H1.o h yQ) i (Nat.le_of_lt hlt);exact this) (by rw [List.length_take];omega) ht (fun y hy=>by
     rcases HV.o.wf y (List.mem_of_mem_take hy) with h | ⟨h,_⟩ | ⟨h,_⟩ | ⟨h,_⟩
     ·exact .inl h
     ·exact .inr (.inl h)
     ·omega
     ·omega) (fun y hy=>hr.o y (List.mem_of_mem_take hy)) hc
   clear hc hb hw;have q0:=(HB.o.cell (p:=⟨b,o+i * 3,none⟩) hn).trans p0;have q1:=(HB.o.cell (p:=⟨b,o+i * 3+1,none⟩) hn).trans p1;have q2:=(HB.o.cell (p:=⟨b,o+i * 3+2,none⟩) hn).trans p2;generalize f[i]=x at p0 p1 p2 q0 q1 q2 hh CF;obtain ⟨xk,xt,xd⟩:=x;simp only at p0 p1 p2 q0 q1 q2 CF;clear p0 p1 p2;have HY:yK ((wr.alloc (.cells #[.int .i64 xk,.string xt,.int .i64 xd] 31)).heap[wr.heap.size]? =some (.cells #[.int .i64 xk,.string xt,.int .i64 xd] 31)):=Array.getElem?_push_size;have he:=zW (HB.o.alloc hF (.cells #[.int .i64 xk,.string xt,.int .i64 xd] 31));have hk:wr.heap.size < (wr.alloc (.cells #[.int .i64 xk,.string xt,.int .i64 xd] 31)).heap.size:=yW;obtain ⟨q,hq⟩:∃ q,yK (q=wr.heap.size):=⟨_,rfl⟩;go_upto_region 6 with fail
   rw [←hq.o] at HY hk ⊢;generalize wr.alloc (.cells #[.int .i64 xk,.string xt,.int .i64 xd] 31)=w1 at HY he hk ⊢;go_wp2_with (go_at_call 75;refine (CW.o _ he.o).mono ?_;rintro e w2 ⟨rfl,hg⟩;have hf:=zW (he.o.trans (hg.mono he.o.size));have hu:yK (w2.heap[q]? =some (.cells #[.int .i64 xk,.string xt,.int .i64 xd] 31)):=(hg.block q hk).trans HY.o;have hE:q < w2.heap.size:=Nat.lt_of_lt_of_le hk hg.size;clear hg)
   obtain ⟨y0,y1,y2,_⟩:=bx3 hu.o;have hG:(i:Int)≤(c:Int):=yY;by_cases htag:xk=2∨xk=3∨xk=4
   ·have CT:=zW (Q5v xk xt xd w2.drew htag);have CF:=zW (CF.o htag);refine zqR (l0:=#[false,false,false,false,false,false,false,false,false,false]) 10 rfl ?_;refine zqo 0 rfl ?_;refine zqL (.agg #[.int .i64 xk,.string xt,.int .i64 xd]) rfl (.pointer (some ⟨q,0,none⟩)) (X6g (w:=w2.drew) y0 y1 y2) ?_;simp only [Act.put,zZ,zY,zX];refine zqo 1 rfl ?_;refine Q0y (.agg #[.int .i64 xk,.string xt,.int .i64 xd]) rfl Tryz.func76 (CT.o) ?_;rintro e w5 ⟨rfl,hw5⟩;have ha:=zW ((Below.drew hf.o).trans (hw5.mono hf.o.size));have hB:yK (w5.heap[q]? =some (.cells #[.int .i64 xk,.string xt,.int .i64 xd] 31)):=(hw5.block q hE).trans hu.o;obtain ⟨z0,z1,z2,_⟩:=bx3 hB.o;refine ⟨.bool true,rfl,?_⟩;refine zqM 2 26 (.bool true) rfl ?_;refine zqM 3 27 (.slice (some ⟨b,o,none⟩) f.length c) rfl ?_;refine zqM 4 28 (.int .i64 (i:Int)) rfl ?_;refine zzA 5 (.slice (some ⟨b,o,none⟩) i c) (some 29) rfl (fun _=>X0c 24 _ _ _ (.slice (some ⟨b,o,none⟩) f.length c) _ none (some (.int .i64 (i:Int))) rfl yZ yZ yZ yU) ?_;simp only [Act.put,zZ,zY,zX];refine zqo 6 rfl ?_;refine zqL (.agg #[.int .i64 xk,.string xt,.int .i64 xd]) rfl (.pointer (some ⟨q,0,none⟩)) (X6g z0 z1 z2) ?_;simp only [Act.put,zZ,zY,zX];refine zqo 7 rfl ?_;refine Q2n (.slice (some ⟨b,o,none⟩) i c) (.agg #[.int .i64 xk,.string xt,.int .i64 xd]) rfl Tryz.func77 (CF.o _ ha.o) ?_;rintro e w6 ⟨rfl,hw6⟩;have hl:=zW (ha.o.trans (hw6.mono ha.o.size));refine ⟨.bool true,rfl,?_⟩;simp only [Act.put,zZ,zY,zX];refine zzA 8 (.bool false) (some 32) rfl (fun _=>V3n .not 4 _ (.bool true) _ rfl yZ yU) ?_;refine zqP 9 33 (.bool false) rfl rfl true ?_;refine wpAny_done yZ ?_ _;simp only [Act.put,zZ,zY,zX]
    go_wp2_with fail
    go_roundg (f.length - (i+1))
    case measure=>omega
    case rel=>exact ⟨i+1,by go_num,hlt,hl.o,yY⟩
   ·have hd:xk=1∨xk=5:=by
     rcases hh with h | ⟨h,_⟩ | ⟨h,_⟩ | ⟨h,_⟩
     ·exact .inl h
     ·exact .inr h
     ·exact absurd (by rcases h with h | h;exact .inl h;exact .inr (.inr h)) htag
     ·exact absurd (.inr (.inl h)) htag
    have CT:=zW (X4m xk xt xd w2.drew hd);clear hd hh CF;refine zqR (l0:=#[false,false,false,false,false,false,false,false,false,false]) 10 rfl ?_;refine zqo 0 rfl ?_;refine zqL (.agg #[.int .i64 xk,.string xt,.int .i64 xd]) rfl (.pointer (some ⟨q,0,none⟩)) (X6g (w:=w2.drew) y0 y1 y2) ?_;simp only [Act.put,zZ,zY,zX];refine zqo 1 rfl ?_;refine Q0y (.agg #[.int .i64 xk,.string xt,.int .i64 xd]) rfl Tryz.func76 (CT.o) ?_;rintro e w5 ⟨rfl,hw5⟩;have ha:=zW ((Below.drew hf.o).trans (hw5.mono hf.o.size));refine ⟨.bool false,rfl,?_⟩;refine zqM 2 26 (.bool false) rfl ?_;refine zqS 3 27 rfl ?_;refine zqS 4 28 rfl ?_;refine zqS 5 29 rfl ?_;refine zqS 6 30 rfl ?_;refine zqS 7 31 rfl ?_;refine zqS 8 32 rfl ?_;refine zqP 9 33 (.bool false) rfl rfl false ?_;refine wpAny_done yZ ?_ _;simp only [Act.put,zZ,zY,zX]
    go_wp2_with fail
    go_roundg (f.length - (i+1))
    case measure=>omega
    case rel=>exact ⟨i+1,by go_num,hlt,ha.o,yY⟩
  ·obtain rfl:i=f.length:=yY;go_wp2_with fail
   first | go_ret | skip
   rw [hp.o];exact ⟨rfl,HB.o⟩
def Q8e (s:ByteArray):List Value:=[.string s]
def BytesAt (w:World) (v:Value) (r:ByteArray):Prop:=∃ (g c:Nat) (cur:Array Value) (fr:Nat×Nat),v=.slice (some ⟨g,0,none⟩) r.size c∧r.size≤c∧w.heap[g]? =some (.cells cur 5 fr)∧∀ (j:Nat) (u:Value),(Go.Lib.strCells r)[j]? =some u→cur[j]? =some u
theorem BytesAt.keep {w w':World} {v:Value} {r:ByteArray} (h:BytesAt w v r) (hk:∀ (g:Nat) (cur:Array Value) (fr:Nat×Nat),w.heap[g]? =some (.cells cur 5 fr)→w'.heap[g]? =w.heap[g]?):BytesAt w' v r:=by
 obtain ⟨g,c,cur,fr,hv,hc,hg,hx⟩:=h;exact ⟨g,c,cur,fr,hv,hc,(hk g cur fr hg).trans hg,hx⟩
structure BsIn (w:World) (Q:Nat) (ps:Prs) (ks:List UInt8) (cs:List Value) (tv:Value):Prop where
 box:w.heap[Q]? =some (.cells cs.toArray 239)
 len:cs.length=257
 at_:∀ b:UInt8,∃ v,cs[b.toNat]? =some v∧(lk ps b=none→v=.slice none 0 0)∧(∀ r,lk ps b=some r→BytesAt w v r)
 tov:cs[256]? =some tv
 tos:RdE Q8e 1 w tv (ks.map fun b=>(⟨#[b]⟩:ByteArray))
theorem BsIn.below {w w':World} {Q:Nat} {ps:Prs} {ks:List UInt8} {cs:List Value} {tv:Value} (h:BsIn w Q ps ks cs tv) (hb:Below w.heap.size w w'):BsIn w' Q ps ks cs tv:=by
 refine ⟨(hb.block Q (Array.getElem?_eq_some_iff.1 h.box).1).trans h.box,h.len,fun b=>?_,h.tov,RdE.below h.tos hb yQ⟩;obtain ⟨v,h1,h2,h3⟩:=h.at_ b;exact ⟨v,h1,h2,fun r hr=>(h3 r hr).keep fun g cur fr hg=>hb.block g (Array.getElem?_eq_some_iff.1 hg).1⟩
theorem BsIn.cell {w:World} {Q:Nat} {ps:Prs} {ks:List UInt8} {cs:List Value} {tv:Value} (h:BsIn w Q ps ks cs tv) (b:UInt8):(lk ps b=none∧w.cell? ⟨Q,b.toNat,none⟩=some (.slice none 0 0))∨∃ r g c,lk ps b=some r∧r.size≤c∧w.cell? ⟨Q,b.toNat,none⟩=some (.slice (some ⟨g,0,none⟩) r.size c)∧g < w.heap.size∧∀ j u,(Go.Lib.strCells r)[j]? =some u→w.cell? ⟨g,j,none⟩=some u:=by
 obtain ⟨v,h1,h2,h3⟩:=h.at_ b;have hc:=Z8 h.box b.toNat h1;cases hk:lk ps b with
 | none=>rw [h2 hk] at hc;exact .inl ⟨rfl,hc⟩
 | some r=>
   obtain ⟨g,c,cur,fr,rfl,ha,hg,hx⟩:=h3 r hk;refine .inr ⟨r,g,c,rfl,ha,hc,(Array.getElem?_eq_some_iff.1 hg).1,fun j u hj=>?_⟩;rw [World.cell?,hg];exact hx j u hj
theorem V6m (ps:Prs) (h:∀ p∈ps,p.2.size≤100):∀ l:List UInt8,dL ps l≤100 * l.length
 | []=>yQ
 | c::l=>by
   have ih:=V6m ps h l;rw [dL,List.length_cons];have:dB ps c≤100:=by
    unfold dB;cases hk:lk ps c with
    | none=>simp
    | some r=>
      have:=h _ (Q6a ps c r hk);simp only at this ⊢;omega
   omega
def bv (c:UInt8):Value:=.int .u8 (c.toNat:Int)
def Q0i (l:List UInt8) (N:Nat):List Value:=l.map bv++List.replicate (N - l.length) (.int .u8 0)
theorem Q9r (l:List UInt8) (N:Nat) (h:l.length≤N):(Q0i l N).length=N:=by
 unfold Q0i;rw [List.length_append,List.length_map,List.length_replicate];omega
theorem X5d (l m:List UInt8) (N:Nat) (h:l.length+m.length≤N):Q0i l N=l.map bv++(List.replicate m.length (.int .u8 0)++List.replicate (N - (l++m).length) (.int .u8 0)):=by
 unfold Q0i;rw [List.replicate_append_replicate,List.length_append];congr 2;omega
theorem Y8e (l m:List UInt8) (N:Nat) (h:l.length+m.length≤N):splice (Q0i l N) l.length (m.map bv)=Q0i (l++m) N:=by
 unfold splice;rw [X5d l m N h,List.length_map];have e1:l.length=(l.map bv).length:=yW;have e2:l.length+m.length=(l.map bv++List.replicate m.length (Value.int .u8 0)).length:=yW;rw [show (l.map bv++(List.replicate m.length (Value.int .u8 0)++List.replicate (N - (l++m).length) (Value.int .u8 0))).take l.length=l.map bv by
  conv=>lhs;rw [e1]
  exact List.take_left]
 rw [←List.append_assoc (l.map bv) (m.map bv),←List.append_assoc (l.map bv),show ((l.map bv++List.replicate m.length (Value.int .u8 0))++List.replicate (N - (l++m).length) (Value.int .u8 0)).drop (l.length+m.length)=List.replicate (N - (l++m).length) (Value.int .u8 0) by
  conv=>lhs;rw [e2]
  exact List.drop_left]
 unfold Q0i;rw [List.map_append]
theorem V2y (l:List UInt8) (c:UInt8) (N:Nat) (h:l.length < N):(Q0i l N).set l.length (bv c)=Q0i (l++[c]) N:=by
 rw [X5d l [c] N yV];unfold Q0i;have e1:l.length=(l.map bv).length:=yW;conv=>lhs;rw [e1]
 rw [List.set_append_right _ _ yW];simp
theorem Z7x (N:Nat):madeCells #[.int .u8 0] (N * 1)=(Q0i [] N).toArray:=by
 unfold Q0i madeCells;apply Array.ext
 ·simp
 ·intro i h1 h2;simp [Nat.mod_one]
theorem V6x (l:List UInt8) (N j:Nat) (hj:j=l.length) (h:j < N):(Q0i l N)[j]? =some (.int .u8 0):=by
 subst hj;rw [X5d l [0] N yV,List.getElem?_append_right yW];simp
theorem V6e:(Tryz.prog.info? 5).map (·.size)=some 1:=by kernel_rfl
theorem V2c:(Tryz.prog.info? 5).map (fun i=>(i.zero,i.size,i.bytes))=some (some (.int .u8 0),1,1):=by kernel_rfl
theorem Y7a (n:Nat) (hn:n≤100000000) (w:World):(Instr.makeSlice 89 (.int .i64 (n:Int)) (.int .i64 (n:Int))).run Tryz.prog w=.ok (.slice (some ⟨w.heap.size,0,none⟩) n n) (w.alloc (.cells (Q0i [] n).toArray 5)):=by
 obtain ⟨i,hi,hz,hs,hb⟩:=info_parts V2c;have h:=run_make (P:=Tryz.prog) w 89 5 i _ Tryz.underlying89 hi hz .i64 .i64 (n:Int) (n:Int) yY (Int.le_refl _) (by rw [hb];omega) yY;rw [hs] at h;rw [←Z7x];exact h
theorem Y2l (ps:Prs) (l:List UInt8) (i:Nat):(G0 ps (l.take i)).length≤(G0 ps l).length:=by
 conv=>rhs;rw [←List.take_append_drop i l,Y6i,List.length_append]
 omega
theorem X8j (Q:Nat) (ps:Prs) (ks:List UInt8) (cs:List Value) (tv:Value) (s:ByteArray) (w:World) (h:BsIn w Q ps ks cs tv) (hp:Q5f ps) (hkn:ks.Nodup) (hkm:∀ c,c∈ks↔lk ps c≠none) (hkl:ks.length≤10) (hs:s.size≤100000):
 Calls Tryz.prog 266 #[.pointer (some ⟨Q,0,none⟩),.string s] w fun e w'=>e=.returned (.string (ofL (G0 ps s.data.toList)))∧Below w.heap.size w w':=by
 obtain ⟨R,hO⟩:∃ R:Ending→World→Prop,yK (R=fun e w'=>e=.returned (.string (ofL (G0 ps s.data.toList)))∧Below w.heap.size w w'):=⟨_,rfl⟩;rw [←hO.o];obtain ⟨A,c,rfl,hX,_⟩:=h.tos.shape;rw [List.length_map] at hX;have HI:w.cell? ⟨Q,256,none⟩=some (.slice A ks.length c):=by
  have:=Z8 h.box 256 h.tov;rwa [List.length_map] at this
 have HT:yK (RdE Q8e 1 w (.slice A ks.length c) (ks.map fun b=>(⟨#[b]⟩:ByteArray))):=by
  have:=h.tos;rwa [List.length_map] at this
 have H:=zW h;have HP:=zW hp;have Hr:=zW hkn;have Hd:=zW hkm;have HA:((ks.length:Int) * 8)≤80:=yY;clear h hp hkn hkm;go_enter Tryz.func266,Tryz.ntmps266
 go_upto_if 26 with fail
 go_cut [5,6] (fun nv av wx=>∃ (b:Bool),nv=.int .i64 (s.size+dL ps s.data.toList:Nat)∧av=.bool b∧yK (b=false→dL ps s.data.toList=0)∧yK (b=true→1≤dL ps s.data.toList)∧yK (Below w.heap.size w wx))
 case first=>
  have hY:∀ x,(s.data.toList.count x)≤s.size:=fun x=>by rw [Lib.size_eq];exact List.count_le_length
  by_cases hbig:(ks.length:Int) * 8≤(s.size:Int)
  ·have hQ:yK (Q1d ps s.data.toList ks=dL ps s.data.toList):=Y3v ps ks Hr.o Hd.o _;go_wp2_with fail
   rw [show decide ((ks.length:Int) * 8≤(s.size:Int))=true by simpa using hbig];go_loopg [5,6,32] ks.length (fun gk nv av iv wr=>∃ (i N:Nat) (b:Bool),iv=.int .i64 i∧nv=.int .i64 (N:Nat)∧av=.bool b∧i≤ks.length∧yK (N=s.size+Q1d ps s.data.toList (ks.take i))∧N≤s.size+i * 10000000∧yK (b=false→Q1d ps s.data.toList (ks.take i)=0)∧yK (b=true→1≤Q1d ps s.data.toList (ks.take i))∧yK (Below w.heap.size w wr)∧ks.length - i≤gk)
   case atStart=>exact ⟨0,s.size,false,rfl,rfl,rfl,Nat.zero_le _,rfl,yY,fun _=>rfl,(fun h=>by cases h),Below.refl _ _,yQ⟩
   case round=>
    obtain ⟨i,N,b,rfl,rfl,rfl,hi,HN,Hg,HZ,he,HW,hgk⟩:=hrel;have HT:=zW (RdE.below HT.o HW.o yQ);have H:=zW (H.o.below HW.o);have HI:wr.cell? ⟨Q,256,none⟩=some (.slice A ks.length c):=by
     have:=Z8 H.o.box 256 H.o.tov;rwa [List.length_map] at this
    by_cases hlt:i < ks.length
    ·have Hk:(i:Int) < (ks.length:Int):=yY;have Hj:(0:Int)≤(i:Int):=yY;obtain ⟨bb,oo,hA,HL,hk⟩:=HT.o.cells yV;have q0:=hk i (⟨#[ks[i]]⟩:ByteArray) 0 (.string (⟨#[ks[i]]⟩:ByteArray)) (by simp [List.getElem?_eq_getElem hlt]) rfl;rw [show oo+(i * 1+0)=oo+i by omega] at q0;subst hA;have hy:lk ps ks[i]≠none:=(Hd.o _).1 (List.getElem_mem hlt);have hu:ks.take (i+1)=ks.take i++[ks[i]]:=List.take_succ_eq_append_getElem hlt;have Hh:=hY ks[i];have hC:=Tryz.strings_Count_one s ks[i] wr;have Hx:∀ (z:UInt8) h,((⟨#[z]⟩:ByteArray)[0]'h).toNat=z.toNat:=fun _ _=>rfl;have ha:=UInt8.toNat_lt ks[i];have hl:Q1d ps s.data.toList (ks.take (i+1))=Q1d ps s.data.toList (ks.take i)+s.data.toList.count ks[i] * dB ps ks[i]:=by
      rw [hu,Y3w];rfl
     have hd:=zW hl;have HC:=zW hC;have hF:=H.o.cell ks[i];have hc:∀ r,lk ps ks[i]=some r→2≤r.size∧r.size≤100:=fun r hr=>HP.o.1 _ (Q6a ps _ r hr);have hdB:∀ r,lk ps ks[i]=some r→dB ps ks[i]=r.size - 1:=fun r hr=>by unfold dB;rw [hr]
     clear hC hl hu hk;generalize ks[i]=x at q0 hy Hh Hx ha hd HC hF hc hdB;rcases hF with ⟨hn,_⟩ | ⟨r,g,c2,hr,hc2,hcl,hg,_⟩
     ·exact absurd hn hy
     ·obtain ⟨Hn,ho⟩:=hc r hr;rw [hdB r hr] at hd;clear hc hdB hy hr;change yK (Calls _ _ _ wr fun e w'=>e=.returned (.int .i64 ((s.data.toList.count x:Nat):Int))∧w'=wr) at HC
      generalize s.data.toList.count x=k at Hh hd HC;by_cases hk0:k=0
      ·subst hk0;rw [Nat.zero_mul,Nat.add_zero] at hd;have hx:yK (N=s.size+Q1d ps s.data.toList (ks.take (i+1))):=(by show _=_;rw [hd.o];exact HN.o);have hV:N≤s.size+(i+1) * 10000000:=Nat.le_trans Hg (Nat.add_le_add_left (Nat.mul_le_mul_right _ (Nat.le_succ i)) _);have hT:yK (b=false→Q1d ps s.data.toList (ks.take (i+1))=0):=fun hb=>by rw [hd.o];exact HZ.o hb
       have hU:yK (b=true→1≤Q1d ps s.data.toList (ks.take (i+1))):=fun hb=>by rw [hd.o];exact he.o hb
       go_wp2_with (go_at_call 268;refine (HC.o).mono ?_;rintro e w' ⟨rfl,rfl⟩)
       go_roundg (ks.length - (i+1))
       case measure=>omega
       case rel=>exact ⟨i+1,N,b,by go_num,rfl,rfl,hlt,hx.o,hV,hT.o,hU.o,HW.o,yY⟩
      ·have HB:((k:Int) != 0)=true:=(by simpa using hk0);have HD:¬ (k:Int)=0:=yY;obtain ⟨p,hP⟩:∃ p,yK (p=k * (r.size - 1)):=⟨_,rfl⟩;have HR:p≤10000000:=by
        rw [hP.o];calc k * (r.size - 1)≤100000 * 100:=Nat.mul_le_mul yY yY
         _=10000000:=yX
       have HS:1≤p:=by
        rw [hP.o];exact Nat.mul_pos yY yY
       have HH:(k:Int) * ((r.size:Int) - 1)=(p:Int):=by
        rw [hP.o,Int.natCast_mul,Int.natCast_sub yY];rfl
       rw [←hP.o] at hd;have HK:(i:Nat) * 10000000≤100000000:=yY;have hx:yK (N+p=s.size+Q1d ps s.data.toList (ks.take (i+1))):=(by show _=_;rw [hd.o,HN.o];omega);go_wp2_with (go_at_call 268;refine (HC.o).mono ?_;rintro e w' ⟨rfl,rfl⟩)
       go_region
       all_goals (
        go_wp2_with fail
        go_roundg (ks.length - (i+1))
        case measure=>omega
        case rel=>exact ⟨i+1,N+p,true,by go_num,by go_num,rfl,hlt,hx.o,yY,(fun hb=>by cases hb),(fun _=>by rw [hd.o];omega),HW.o.drew,yY⟩)
    ·obtain rfl:i=ks.length:=yY;rw [List.take_length,hQ.o] at HN HZ he;have hN:=HN.o;go_wp2_with fail
     go_meet
     exact ⟨b,by rw [hN],rfl,HZ.o,he.o,HW.o⟩
  ·have He:=zW (Lib.size_eq s);go_wp2_with fail
   rw [show decide ((ks.length:Int) * 8≤(s.size:Int))=false by simpa using hbig];go_loopg [5,6,10] s.size (fun gk nv av iv wr=>∃ (i N:Nat) (b:Bool),iv=.int .i64 i∧nv=.int .i64 (N:Nat)∧av=.bool b∧i≤s.size∧yK (N=s.size+dL ps (s.data.toList.take i))∧N≤s.size+i * 100∧yK (b=false→dL ps (s.data.toList.take i)=0)∧yK (b=true→1≤dL ps (s.data.toList.take i))∧yK (Below w.heap.size w wr)∧s.size - i≤gk)
   case atStart=>exact ⟨0,s.size,false,rfl,rfl,rfl,Nat.zero_le _,rfl,yY,fun _=>rfl,(fun h=>by cases h),Below.refl _ _,yQ⟩
   case round=>
    obtain ⟨i,N,b,rfl,rfl,rfl,hi,HN,Hg,HZ,he,HW,hgk⟩:=hrel;have H:=zW (H.o.below HW.o);by_cases hlt:i < s.size
    ·have Hk:(i:Int) < (s.size:Int):=yY;have Hj:(0:Int)≤(i:Int):=yY;have hu:s.data.toList.take (i+1)=s.data.toList.take i++[s[i]]:=by
      rw [List.take_succ_eq_append_getElem (by rw [←He.o];exact hlt)];rfl
     have hw:yK (dL ps (s.data.toList.take (i+1))=dL ps (s.data.toList.take i)+dB ps s[i]):=by
      show _=_;rw [hu,Z8e];rfl
     have hF:=H.o.cell s[i];have hc:∀ r,lk ps s[i]=some r→2≤r.size∧r.size≤100:=fun r hr=>HP.o.1 _ (Q6a ps _ r hr);have hdB:∀ r,lk ps s[i]=some r→dB ps s[i]=r.size - 1:=fun r hr=>by unfold dB;rw [hr]
     have ha:=UInt8.toNat_lt s[i];clear hu;rcases hF with ⟨hn,hcl⟩ | ⟨r,g,c2,hr,hc2,hcl,hg,_⟩
     ·have Hi:dB ps s[i]=0:=(by unfold dB;rw [hn]);rw [Hi,Nat.add_zero] at hw;have hx:yK (N=s.size+dL ps (s.data.toList.take (i+1))):=(by show _=_;rw [hw.o];exact HN.o);have hT:yK (b=false→dL ps (s.data.toList.take (i+1))=0):=fun hb=>by rw [hw.o];exact HZ.o hb
      have hU:yK (b=true→1≤dL ps (s.data.toList.take (i+1))):=fun hb=>by rw [hw.o];exact he.o hb
      clear hc hdB hn Hi;go_wp2_with fail
      go_roundg (s.size - (i+1))
      case measure=>omega
      case rel=>exact ⟨i+1,N,b,by go_num,rfl,rfl,hlt,hx.o,yY,hT.o,hU.o,HW.o,yY⟩
     ·obtain ⟨Hn,ho⟩:=hc r hr;rw [hdB r hr] at hw;clear hc hdB hr;have HU:((r.size:Int) - 1)=((r.size - 1:Nat):Int):=yY;have hx:yK (N+(r.size - 1)=s.size+dL ps (s.data.toList.take (i+1))):=(by show _=_;rw [hw.o,HN.o];omega);go_wp2_with fail
      first | (go_region;all_goals go_wp2_with fail) | skip
      all_goals (
       go_roundg (s.size - (i+1))
       case measure=>omega
       case rel=>exact ⟨i+1,N+(r.size - 1),true,by go_num,by first | go_num | (congr 1;omega),rfl,hlt,hx.o,yY,(fun hb=>by cases hb),(fun _=>by rw [hw.o];omega),(by first | exact HW.o | exact HW.o.drew),yY⟩)
    ·obtain rfl:i=s.size:=yY;rw [show s.data.toList.take s.size=s.data.toList by rw [He.o];exact List.take_length] at HN HZ he;have hN:=HN.o;go_wp2_with fail
     go_meet
     exact ⟨b,by rw [hN],rfl,HZ.o,he.o,HW.o⟩
 case rest=>
  obtain ⟨b,rfl,rfl,HZ,he,HW⟩:=hcut;have hf:=Z3d ps (fun p hp=>(HP.o.1 p hp).1) s.data.toList;rw [←Lib.size_eq] at hf;have hZ:=V6m ps (fun p hp=>(HP.o.1 p hp).2) s.data.toList;rw [←Lib.size_eq] at hZ;cases b with
  | false=>
    have ht:G0 ps s.data.toList=s.data.toList:=Y6l ps _ (Z1o ps (fun p hp=>(HP.o.1 p hp).1) _ (HZ.o rfl));have HE:yK (ofL (G0 ps s.data.toList)=s):=(by show _=_;rw [ht];exact Q8y s);clear hf hZ ht;go_wp2_with fail
    first | go_ret | skip
    rw [hO.o];exact ⟨by rw [HE.o],HW.o⟩
  | true=>
    have Hz:=he.o rfl;obtain ⟨N,hM⟩:∃ N,yK (N=s.size+dL ps s.data.toList):=⟨_,rfl⟩;have hE:yK ((G0 ps s.data.toList).length=N):=(by show _=_;rw [hM.o];exact hf);have HJ:1≤N:=(by rw [hM.o];omega);have Hw:N≤100000000:=(by rw [hM.o];omega);rw [←hM.o];have HF:=Y7a N Hw;have hJ:=HW.o.size;have hK:yK ((wc.alloc (.cells (Q0i [] N).toArray 5)).heap[wc.heap.size]? =some (.cells (Q0i [] N).toArray 5)):=Array.getElem?_push_size;have hR:=zW (HW.o.alloc hJ (.cells (Q0i [] N).toArray 5));have Hc:=zW (Lib.size_eq s);clear HZ he Hz hf hZ;obtain ⟨G,hG⟩:∃ G,yK (G=wc.heap.size):=⟨_,rfl⟩;go_upto_region 22 with fail
    rw [←hG.o] at hK hJ ⊢;generalize wc.alloc (.cells (Q0i [] N).toArray 5)=w1 at hK hR ⊢;clear HF HW hG;go_wp2_with fail
    go_loopg [13,14] s.size (fun gk jv iv wr=>∃ i,iv=.int .i64 (i:Nat)∧jv=.int .i64 ((G0 ps (s.data.toList.take i)).length:Nat)∧i≤s.size∧yK (wr.heap[G]? =some (.cells (Q0i (G0 ps (s.data.toList.take i)) N).toArray 5))∧yK (Below w.heap.size w wr)∧s.size - i≤gk)
    case atStart=>exact ⟨0,rfl,rfl,Nat.zero_le _,hK.o,hR.o,yQ⟩
    case round=>
     clear hK hR;obtain ⟨i,rfl,rfl,hi,HG,HW,hgk⟩:=hrel;by_cases hlt:i < s.size
     ·have Hk:(i:Int) < (s.size:Int):=yY;have Hj:(0:Int)≤(i:Int):=yY;have H:=zW (H.o.below HW.o);have hu:s.data.toList.take (i+1)=s.data.toList.take i++[s[i]]:=by
       rw [List.take_succ_eq_append_getElem (by rw [←Hc.o];exact hlt)];rfl
      have hh:yK (G0 ps (s.data.toList.take (i+1))=G0 ps (s.data.toList.take i)++Q6n ps s[i]):=by
       show _=_;rw [hu,Y6i];simp [G0]
      have hm:=Y2l ps s.data.toList (i+1);rw [hh.o,hE.o,List.length_append] at hm;have hF:=H.o.cell s[i];have hz:lk ps s[i]=none→Q6n ps s[i]=[s[i]]:=fun hq=>by unfold Q6n;rw [hq]
      have hB:∀ r,lk ps s[i]=some r→Q6n ps s[i]=r.data.toList:=fun r hq=>by unfold Q6n;rw [hq]
      have hc:∀ r,lk ps s[i]=some r→2≤r.size∧r.size≤100:=fun r hr=>HP.o.1 _ (Q6a ps _ r hr);have ha:=UInt8.toNat_lt s[i];clear hu;obtain ⟨pre,Ha⟩:∃ pre,yK (pre=G0 ps (s.data.toList.take i)):=⟨_,rfl⟩;rw [←Ha.o] at hh hm HG ⊢;rcases hF with ⟨hn,hcl⟩ | ⟨r,g,c2,hr,hc2,hcl,hgl,hgc⟩
      ·rw [hz hn] at hh hm;simp only [List.length_singleton] at hm;clear hz hB hc hn;have Hl:(0:Int)≤(pre.length:Int):=yY;have Hm:(pre.length:Int) < (N:Int):=yY;have p0:wr.cell? ⟨G,pre.length,none⟩=some (.int .u8 0):=Z8 HG.o pre.length (V6x pre N _ rfl yY);have f0:=Y9 HG.o pre.length;have hL:yK ((wr.setCell ⟨G,pre.length,none⟩ (.int .u8 (s[i].toNat:Int))).heap[G]? =some (.cells (Q0i (G0 ps (s.data.toList.take (i+1))) N).toArray 5)):=by
        show _=_;rw [K1 HG.o,hh.o,←V2y pre s[i] N yY,List.setIfInBounds_toArray];rfl
       have hD:yK (((pre.length:Int)+1)=(((G0 ps (s.data.toList.take (i+1))).length:Nat):Int)):=by
        show _=_;rw [hh.o,List.length_append];simp
       have Hf:=zW (HW.o.setCell (p:=⟨G,pre.length,none⟩) hJ (.int .u8 (s[i].toNat:Int)));generalize pre.length=pl at p0 f0 Hl Hm hL hD Hf ⊢;go_wp2_with fail
       rw [hD.o];go_roundg (s.size - (i+1))
       case measure=>omega
       case rel=>exact ⟨i+1,by go_num,rfl,hlt,hL.o,Hf.o,yY⟩
      ·obtain ⟨Hn,ho⟩:=hc r hr;rw [hB r hr] at hh hm;simp only [←Lib.size_eq] at hm;clear hz hB hc hr;have Hl:(0:Int)≤(pre.length:Int):=yY;have Hm:(pre.length:Int)≤(N:Int):=yY;have HM:pre.length < N:=yY;have hW:(s[i].toNat:Int) < 256:=yY;have HQ:¬ N < pre.length:=yY;have HO:¬ N=pre.length:=yY;have Hp:=Y8e pre r.data.toList N (by rw [←Lib.size_eq];exact hm);have Hu:=zW Hp;have hD:yK (((pre.length:Int)+(r.size:Int))=(((G0 ps (s.data.toList.take (i+1))).length:Nat):Int)):=by
        show _=_;rw [hh.o,List.length_append,←Lib.size_eq];simp
       have hH:wr.drew.heap[G]? =some (.cells (Q0i pre N).toArray 5):=HG.o;have Hq:yK (∀ (j:Nat) (v:Value),(r.data.toList.map bv)[j]? =some v→wr.drew.cell? ((⟨g,0,none⟩:Addr).add j)=some v):=fun j v hj=>by
        have:=hgc j v hj;have e:(⟨g,0,none⟩:Addr).add j=⟨g,j,none⟩:=by cases j<;>simp [Addr.add]
        rw [e];exact this
       have Hb:=zW (Lib.size_eq r);have Ht:yK ((Q0i pre N).length=N):=Q9r pre N yY;clear Hp;go_wp2_with fail
       go_region_law (refine step_copy_splice rfl (.tmp 105) (.tmp 111) 89 89 rfl 5 Tryz.underlying89 V6e (some ⟨G,pre.length,none⟩) (some ⟨g,0,none⟩) (N - pre.length) (N - pre.length) r.size c2 (by simp [Act.eval]) (by simp [Act.eval]) G pre.length (Q0i pre N) 5 hH (r.data.toList.map bv) (by rw [List.length_map,←Hb.o];exact (Nat.min_eq_left yY).symm) (fun _=>⟨rfl,_,rfl,Hq.o⟩) (by rw [List.length_map,←Hb.o,Ht.o];exact hm) (fun v hv=>by obtain ⟨b,_,rfl⟩:=List.mem_map.1 hv;rfl) w.heap.size w (by exact HW.o.drew) hJ ?_;intro w4 hg4 hb4)
       all_goals (
        have hL:yK (w4.heap[G]? =some (.cells (Q0i (G0 ps (s.data.toList.take (i+1))) N).toArray 5)):=by
         show _=_;rw [hg4.out,Hu.o,hh.o]
        have Hv:=zW hb4;have Hs:yK (IntKind.i64.wrap ((pre.length:Int)+(r.size:Int))=(((G0 ps (s.data.toList.take (i+1))).length:Nat):Int)):=by
         show _=_;rw [IntKind.wrap_i64,←hD.o];omega
        clear hg4 hb4 hH hcl hgc;go_wp2_with fail
        first | rw [Hs.o] | rw [hD.o] | skip
        go_roundg (s.size - (i+1))
        case measure=>omega
        case rel=>exact ⟨i+1,by go_num,by first | rfl | (rw [←hD.o]),hlt,hL.o,Hv.o,yY⟩)
     ·obtain rfl:i=s.size:=yY;rw [show s.data.toList.take s.size=s.data.toList by rw [Hc.o];exact List.take_length] at HG ⊢;have hS:(ofL (G0 ps s.data.toList)).size=N:=(by rw [Lib.size_eq,←hE.o];simp [ofL]);have Ho:Go.Lib.strCells (ofL (G0 ps s.data.toList))=Q0i (G0 ps s.data.toList) N:=by
       unfold Go.Lib.strCells Q0i;rw [hE.o,Nat.sub_self];simp [ofL,bv]
      have hI:wr.ownsRow w.heap.size 5 1 (.slice (some ⟨G,0,none⟩) N N) N (Go.Lib.strCells (ofL (G0 ps s.data.toList))):=by
       rw [Ho];refine ⟨by rw [Q9r _ _ (by rw [hE.o];exact yQ)];omega,.inr ⟨G,N,_,rfl,hJ,HG.o,yQ,by unfold maxLen;omega,?_,?_⟩⟩
       ·rw [List.size_toArray,Q9r _ _ (by rw [hE.o];exact yQ),Nat.mul_one]
       ·rw [Nat.mul_one];exact List.take_of_length_le (by rw [Q9r _ _ (by rw [hE.o];exact yQ)];exact yQ)
      have Hy:=O6 (w:=wr) (ofL (G0 ps s.data.toList)) 89 9 Tryz.underlying89 Tryz.underlying5 Tryz.underlying9 hI hS.symm yY;clear hI Ho hS;generalize ofL (G0 ps s.data.toList)=res at Hy hO;go_wp2_with fail
      first | go_ret | skip
      rw [hO.o];exact ⟨rfl,HW.o⟩
def zB:Array Value:=Array.replicate 257 (.slice none 0 0)
theorem V6h (w:World):(zeroValue 239).run Tryz.prog w=.ok (.agg zB) w:=by
 kernel_rfl
theorem V6g:(Tryz.prog.info? 239).map (·.size)=some 257:=by kernel_rfl
theorem V2z (A:Option Addr) (n c:Nat):Tryz.prog.built 239 [(1,.slice A n c)]=some (zB.setIfInBounds 256 (.slice A n c)):=by
 kernel_rfl
theorem V2n {o:Oper} {a:Act} {w:World} (ho:o.op=.alloc 239):(execOp a.eval o).run Tryz.prog w=.ok (.value (.pointer (some ⟨w.heap.size,0,none⟩))) (w.alloc (.cells zB 239)):=by
 have h:(Instr.alloc 239 true (.tuple #[])).run Tryz.prog w=.ok (.pointer (some ⟨w.heap.size,0,none⟩)) (w.alloc (.cells zB 239)):=by
  unfold Instr.alloc;rw [Sem.run_bind,V6h,Result.andThen_ok];simp [newVar,Value.cells,newRow]
 unfold execOp;simp only [ho,Sem.run_bind,h,Result.andThen_ok,Sem.run_pure]
structure BsB (B:Nat) (w:World) (Q:Nat) (ps:Prs) (ks:List UInt8) (cs:List Value) (tv:Value):Prop where
 box:w.heap[Q]? =some (.cells cs.toArray 239)
 len:cs.length=257
 at_:∀ b:UInt8,∃ v,cs[b.toNat]? =some v∧(lk ps b=none→v=.slice none 0 0)∧(∀ r,lk ps b=some r→BytesAt w v r)
 tov:cs[256]? =some tv
 own:OwnE 9 Q8e 1 w B tv (ks.map fun b=>(⟨#[b]⟩:ByteArray))
section
variable {B:Nat} {w w':World} {Q:Nat} {ps:Prs} {ks ks':List UInt8} {cs:List Value} {tv tv':Value}
theorem BsB.lt (h:BsB B w Q ps ks cs tv):Q < w.heap.size:=(Array.getElem?_eq_some_iff.1 h.box).1
theorem BsB.bsIn (h:BsB B w Q ps ks cs tv):BsIn w Q ps ks cs tv:=⟨h.box,h.len,h.at_,h.tov,OwnE.rd (fun _=>rfl) h.own⟩
theorem BsB.below (h:BsB B w Q ps ks cs tv) (hb:Below w.heap.size w w'):BsB B w' Q ps ks cs tv:=by
 refine ⟨(hb.block Q h.lt).trans h.box,h.len,fun b=>?_,h.tov,(Mod.of_below hb).own h.own fun _ _ hf=>hf⟩;obtain ⟨v,h1,h2,h3⟩:=h.at_ b;exact ⟨v,h1,h2,fun r hr=>(h3 r hr).keep fun g cur fr hg=>hb.block g (Array.getElem?_eq_some_iff.1 hg).1⟩
theorem BsB.push (h:BsB B w Q ps ks cs tv) (ho:OwnE 9 Q8e 1 w' B tv' (ks'.map fun b=>(⟨#[b]⟩:ByteArray))) (hg:w.grownBy w' tv.ownBlock):
 BsB B (w'.setCell ⟨Q,256,none⟩ tv') Q ps ks' (cs.set 256 tv') tv':=by
 have hc:w'.heap[Q]? =some (.cells cs.toArray 239):=(hg.block Q h.lt (fun e=>Y1 h.own h.box yX Q e.symm rfl)).trans h.box;have hd:=h.len;have hs:=Mod.set w' Q 256 tv';refine ⟨by rw [K1 hc];simp,by simp [hd],fun b=>?_,by simp [hd],hs.own ho fun k hk e=>Y1 ho hc yX k hk e⟩;obtain ⟨v,h1,h2,h3⟩:=h.at_ b;have hb:=UInt8.toNat_lt b;refine ⟨v,by rw [List.getElem?_set_ne yY];exact h1,h2,fun r hr=>(h3 r hr).keep fun g cur fr ha=>?_⟩;have hf:=(Array.getElem?_eq_some_iff.1 ha).1;refine (Below.heap_setCell _ _ _ _ (by intro e;rw [show g=Q from e,h.box] at ha;injection ha with ha;injection ha with _ e2 _;revert e2;decide)).trans (hg.block g hf fun e=>?_);obtain ⟨cur',he⟩:=B7 h.own e.symm;rw [he] at ha;injection ha with ha;injection ha with _ e2 _;revert e2
 decide
theorem BsB.put (h:BsB B w Q ps ks cs tv) (b:UInt8) (r:ByteArray) (v:Value) (hv:BytesAt w v r):BsB B (w.setCell ⟨Q,b.toNat,none⟩ v) Q ((b,r)::ps) ks (cs.set b.toNat v) tv:=by
 have hc:=h.len;have hb:=UInt8.toNat_lt b;have hs:=Mod.set w Q b.toNat v;have hk:∀ (g:Nat) (cur:Array Value) (fr:Nat×Nat),w.heap[g]? =some (.cells cur 5 fr)→(w.setCell ⟨Q,b.toNat,none⟩ v).heap[g]? =w.heap[g]? :=fun g cur fr ha=>
  Below.heap_setCell _ _ _ _ (by intro e;rw [show g=Q from e,h.box] at ha;injection ha with ha;injection ha with _ e2 _;revert e2;decide)
 refine ⟨by rw [K1 h.box];simp,by simp [hc],fun d=>?_,by rw [List.getElem?_set_ne yY];exact h.tov,hs.own h.own fun k hk e=>Y1 h.own h.box yX k hk e⟩;by_cases hd:b=d
 ·subst hd;refine ⟨v,by rw [List.getElem?_set_self yY],fun hn=>?_,fun r' hr=>?_⟩
  ·rw [lk,if_pos rfl] at hn;cases hn
  ·rw [lk,if_pos rfl] at hr;injection hr with hr;subst hr;exact hv.keep hk
 ·obtain ⟨v',h1,h2,h3⟩:=h.at_ d;refine ⟨v',by rw [List.getElem?_set_ne (fun e=>hd (UInt8.toNat_inj.1 e))];exact h1,fun hn=>?_,fun r' hr=>?_⟩
  ·rw [lk,if_neg hd] at hn;exact h2 hn
  ·rw [lk,if_neg hd] at hr;exact (h3 r' hr).keep hk
end
theorem V8n (A:Option Addr) (n c:Nat):(zB.setIfInBounds 256 (.slice A n c)).all (·.oneCell')=true:=by kernel_rfl
theorem Z3v (A:Option Addr) (n c:Nat):(zB.setIfInBounds 256 (.slice A n c)).size=257:=by
 rw [Array.size_setIfInBounds];unfold zB;rw [Array.size_replicate]
theorem X6l (w:World) (g:Nat) (cs:Array Value):Mod (fun k=>k=g) w (w.setRow g cs):=
 ⟨rfl,rfl,rfl,by simp [World.setRow],fun k _ hn=>setRow_other w g k cs hn⟩
theorem BsB.start {B:Nat} {w:World} {A:Option Addr} {c:Nat} (ho:OwnE 9 Q8e 1 w B (.slice A 0 c) ([]:List ByteArray)):
 BsB B ((w.alloc (.cells zB 239)).setRow w.heap.size (zB.setIfInBounds 256 (.slice A 0 c))) w.heap.size [] [] (zB.setIfInBounds 256 (.slice A 0 c)).toList (.slice A 0 c):=by
 have hl:zB.size=257:=(by unfold zB;rw [Array.size_replicate]);have hh:=heap_alloc_new w (.cells zB 239);refine ⟨?_,by rw [Array.length_toList,Array.size_setIfInBounds,hl],fun b=>?_,?_,(X6l _ _ _).own (World.ownsRow.alloc ho _) fun k hk e=>?_⟩
 ·rw [Array.toArray_toList];exact setRow_heap _ _ _ _ _ _ hh
 ·have hb:=UInt8.toNat_lt b;refine ⟨.slice none 0 0,?_,fun _=>rfl,fun r hr=>by cases hr⟩;rw [Array.getElem?_toList,Array.getElem?_setIfInBounds_ne yY];unfold zB;rw [Array.getElem?_replicate,if_pos yY]
 ·rw [Array.getElem?_toList,Array.getElem?_setIfInBounds_self_of_lt (by rw [hl];decide)]
 ·have:=(ho.lt k hk).2;omega
theorem Y8g (w:World) (r:ByteArray) (h:r.size≤grownCap w r.size 0 5):BytesAt (w.drew.alloc (.cells (bytesRow r (grownCap w r.size 0 5)) 5 ((bytesRow r (grownCap w r.size 0 5)).size,(bytesRow r (grownCap w r.size 0 5)).size+1))) (.slice (some ⟨w.heap.size,0,none⟩) r.size (grownCap w r.size 0 5)) r:=by
 refine ⟨w.heap.size,_,_,_,rfl,h,heap_alloc_new w.drew _,fun j u hj=>?_⟩;unfold bytesRow;have hl:j < (Go.Lib.strCells r).length:=(List.getElem?_eq_some_iff.1 hj).1;have ha:(Go.Lib.strCells r).length=r.data.size:=(by unfold Go.Lib.strCells;simp);rw [Array.getElem?_append_left (by rw [Array.size_map];omega),Array.getElem?_map];unfold Go.Lib.strCells at hj;rw [List.getElem?_map] at hj;rw [←Array.getElem?_toList];exact hj
def I0 (ps:Prs):List ByteArray:=ps.flatMap fun p=>[(⟨#[p.1]⟩:ByteArray),p.2]
theorem Q1i:∀ ps:Prs,(I0 ps).length=2 * ps.length
 | []=>rfl
 | p::ps=>by
   rw [show I0 (p::ps)=[(⟨#[p.1]⟩:ByteArray),p.2]++I0 ps from rfl,List.length_append,Q1i ps,List.length_cons,List.length_cons,List.length_cons];simp;omega
theorem Y4o:∀ (ps:Prs) (j:Nat) (h:j < ps.length),(I0 ps)[2 * j]? =some (⟨#[ps[j].1]⟩:ByteArray)∧(I0 ps)[2 * j+1]? =some ps[j].2
 | p::ps,0,_=>⟨rfl,rfl⟩
 | p::ps,j+1,h=>by
   obtain ⟨h1,h2⟩:=Y4o ps j (by simpa using h);rw [show I0 (p::ps)=(⟨#[p.1]⟩:ByteArray)::p.2::I0 ps from rfl,show 2 * (j+1)=2 * j+1+1 by omega];exact ⟨by rw [List.getElem?_cons_succ,List.getElem?_cons_succ];exact h1,by rw [List.getElem?_cons_succ,List.getElem?_cons_succ];exact h2⟩
end Go.Proofs.YtfkojnofbpdjdaaGreatDoor
