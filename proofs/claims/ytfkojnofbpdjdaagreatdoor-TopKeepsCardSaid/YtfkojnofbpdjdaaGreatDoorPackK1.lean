/-
  Contracts and plain laws that this claim leans on, part 1.
-/
import Derived.WalkKit
import Derived.WalkLawsBesides
import Derived.Lib.Hide
import Derived.Lib.Strings
import Derived.Laws.IdiomStrings
import Derived.Deep.Draws
import Derived.Deep.QuietTactic
import Derived.BigQuiet
import Derived.Deep.OwnRows
import Derived.ProofKit
import Derived.OpenShut
import Derived.KernelRfl
import Derived.Below
import Derived.Laws.AppendOwnNone
import Derived.Test.YtfkojnofbpdjdaaGreatDoorChecked
import Derived.Lib.SmallJoins
import Derived.WalkSpells
import Derived.Maps.AppendAt
import Derived.Deep.AppendLies
import Derived.Deep.RegionLaw
import Derived.Deep.DeepCutAuto
import Derived.Deep.CutBlock
import Derived.Deep.RegionWith
import Derived.Lib.AppendStr
import Derived.BigRegion
import Derived.Laws.CopyOwn
import Derived.Laws.ResultCell
import Derived.Lib.Bytealg
import Derived.Lib.Walk
import Derived.Lib.SplitLaws
import Derived.Lib.Split
import Derived.Lib.IndexMore
import Derived.Deep.LoopGhost
import Derived.Deep.MidRow
import Derived.StillTailTactics
import Derived.Deep.RegionHeld3
import Derived.Great.BuildSlice
import Derived.LaidMore
import Derived.Laws.Tables
import Derived.Lay
import Derived.Lib.SliceRun
import Derived.Maps.Own
import Derived.Maps.OwnOps
import Derived.Maps.Views
import Derived.SizedLaws
import Derived.Stop.Joined
import Derived.Shelf.Vars
import Derived.Lib.Index
set_option linter.unusedVariables false
set_option linter.unusedSimpArgs false
set_option maxHeartbeats 16000000
set_option maxRecDepth 100000
namespace Go.Proofs.YtfkojnofbpdjdaaGreatDoor
open Go.RowKit
theorem zZ {α : Type} (l : List α) (i : Nat) (a : α) : l.toArray.setIfInBounds i a = (l.set i a).toArray := List.setIfInBounds_toArray _ _ _
theorem zY {α : Type} (x : α) (xs : List α) (a : α) : (x :: xs).set 0 a = a :: xs := List.set_cons_zero
theorem zX {α : Type} (x : α) (xs : List α) (n : Nat) (a : α) : (x :: xs).set (n + 1) a = x :: xs.set n a := List.set_cons_succ
def yK (p : Prop) : Prop := p
theorem yK.o {p : Prop} (h : yK p) : p := h
theorem zW {p : Prop} (h : p) : yK p := h
theorem yZ {p : Prop} (h : p := by kernel_rfl) : p := h
theorem yY {p : Prop} (h : p := by omega) : p := h
theorem yX {p : Prop} (h : p := by decide) : p := h
theorem yW {p : Prop} (h : p := by simp) : p := h
theorem yV {p : Prop} (h : p := by simp; omega) : p := h
theorem yU {p : Prop} (h : p := by go_simp) : p := h
theorem yQ {n : Nat} : n ≤ n := Nat.le_refl n
theorem X1b {k:IntKind} {a b:Int} (h:a=b):Ending.returned (.int k a)=.returned (.int k b):=by rw [h]
theorem U9 {a b:Bool} (h:a=b):Ending.returned (.bool a)=.returned (.bool b):=by rw [h]
theorem Q4w {a b:Value} (h:a=b):Ending.returned a=.returned b:=by rw [h]
theorem F4 (w:World) (xs:List Value) (t:TypeId):∀ j u,xs[j]? =some u→(w.alloc (.cells xs.toArray t)).cell? ((⟨w.heap.size,0,none⟩:Addr).add j)=some u:=by
 intro j u hj;rw [Addr.add_lit,Nat.zero_add];have:(w.alloc (.cells xs.toArray t)).heap[w.heap.size]? =some (.cells xs.toArray t):=by
  show (w.heap.push (.cells xs.toArray t))[w.heap.size]? =_;simp
 rw [cell_of_row _ _ j _ _ _ this];simpa using hj
theorem Z5 {P:Program} {ops:Array Oper} {rest:List Oper} {o:Oper} {a:Act} {Q:Exit→Act→World→Prop} {w:World} (hgd:o.guard=none) (s x:Operand) (t e:TypeId)
 (ho:o.op=.call { callee:=.builtin .append,args:=#[s,x],argTypes:=#[t,t] })
 (ht:P.underlying t=some (.slice e)) (z:Value) (size bytes:Nat) (hinfo:(P.info? e).map (fun i=>(i.zero,i.size,i.bytes))=some (some z,size,bytes)) (hzs:z.cells.size=size) (hsz:0 < size)
 (base:Nat) (v:Value) (n:Nat) (xs:List Value) (hs:a.eval s=v) (hown:w.ownsRow base e size v n xs)
 (ad:Addr) (c:Nat) (news:List Value) (hx:a.eval x=.slice (some ad) 1 c) (hl:news.length=size) (hnews:∀ j u,news[j]? =some u→w.cell? (ad.add j)=some u) (h1:∀ u∈news,u.oneCell'=true)
 (hbytes:(n+1) * bytes≤140737488355328) (hb1:1≤bytes) (hbase:base≤w.heap.size)
 (h:∀ g cap w',w'.ownsRow base e size (.slice (some ⟨g,0,none⟩) (n+1) cap) (n+1) (xs++news)→base≤g→(∀ B W,B≤base→Below B W w→Below B W w')→w.grownBy w' v.ownBlock→
   wpList P ops Q rest (a.put o.dst (.slice (some ⟨g,0,none⟩) (n+1) cap)) w'):wpList P ops Q (o::rest) a w:=by
 obtain ⟨i,hi,hz,ha,hc⟩:=info_parts hinfo;have h2:n+1≤140737488355328:=Nat.le_trans (Nat.le_mul_of_pos_right _ hb1) hbytes;refine wpList_append_own w hgd s x t ho base e i z size bytes ht hi hz ha hc hzs hsz v n xs hs hown ad 1 c news hx (by rw [hl,Nat.one_mul]) hnews h1 (by unfold maxLen;omega) hbytes hbase ?_;intro v' w' hown' hg _;have hd:∃ g cap,v'=.slice (some ⟨g,0,none⟩) (n+1) cap∧base≤g:=by
  rcases hown'.2 with ⟨_,h0⟩ | ⟨g,cap,_,h,hb,_⟩
  ·omega
  ·exact ⟨g,cap,h,hb⟩
 obtain ⟨g,cap,hv,hb⟩:=hd;rw [hv] at hown' ⊢;exact h g cap w' hown' hb (fun B W hB hW=>hW.grown hg (Nat.le_trans hB hbase) (fun k hk=>Nat.le_trans hB (hown.lt k hk).1)) hg
theorem Q0 {w:World} {base:Nat} {e:TypeId} {size:Nat} {v:Value} {n:Nat} {xs:List Value} (h:w.ownsRow base e size v n xs):∃ A c,v=.slice A n c:=by
 rcases h.2 with ⟨rfl,rfl⟩ | ⟨g,cap,_,h,_⟩
 ·exact ⟨none,0,rfl⟩
 ·exact ⟨_,_,h⟩
theorem X6u {w:World} {base:Nat} {e:TypeId} {size:Nat} {v:Value} {n:Nat} {xs:List Value} (h:w.ownsRow base e size v n xs) (hn:0 < n):∃ g c,v=.slice (some ⟨g,0,none⟩) n c∧base≤g:=by
 rcases h.2 with ⟨_,h0⟩ | ⟨g,cap,_,h,hb,_⟩
 ·omega
 ·exact ⟨_,_,h,hb⟩
theorem Q1y {α:Type} (f:α→List Value) (m:Nat) (hm:∀ x,(f x).length=m):∀ (l:List α) (i j:Nat) (x:α),l[i]? =some x→j < m→(l.flatMap f)[i * m+j]? =(f x)[j]?
 | [],i,j,x,h,_=>by simp at h
 | y::l,0,j,x,h,hj=>by
   simp at h;subst h;simp [List.getElem?_append_left (show j < (f y).length by rw [hm];exact hj)]
 | y::l,i+1,j,x,h,hj=>by
   have ih:=Q1y f m hm l i j x (by simpa using h) hj;rw [List.flatMap_cons,List.getElem?_append_right (by rw [hm,Nat.add_mul];omega),hm,←ih];congr 1;rw [Nat.add_mul];omega
theorem T7 {α:Type} (f:α→List Value) (m:Nat) (hm:∀ x,(f x).length=m) (l:List α):(l.flatMap f).length=l.length * m:=by
 induction l with
 | nil=>simp
 | cons x l ih=>rw [List.flatMap_cons,List.length_append,hm,ih,List.length_cons,Nat.add_mul];omega
/-! ### Quiet calls in a region that draws its order -/
theorem X7b {P:Program} {f:FuncId} {args:Array Value} {w:World} {n:Nat} {v:Value}
 (h:Calls P f args (w.drewN n) fun e w'=>e=.returned v∧w.drewN n=w'):Calls P f args (w.drewN n) fun e w''=>e=.returned v∧∃ m,w''=w.drewN m:=
 h.mono fun _ _ ⟨he,hw⟩=>⟨he,n,hw.symm⟩
theorem Q1 {B:Nat} {a w:World} (h:Below B a w) (n:Nat):Below B a (w.drewN n):=⟨h.os,h.tape,h.output,h.size,h.block⟩
theorem Y4 (a:ByteArray):a.toList=a.data.toList:=ByteArray.toList_eq a
def Z7j (w:World) (v:Value) (e:Ending) (w':World):Prop:=e=.returned v∧∃ n,w'=w.drewN n
def Q5k (n:Int):Int:=
 if n=9∨n=10∨n=13∨n=32 then 2
 else if n < 32∨n=127 then 1
 else if 48≤n∧n≤57 then 3
 else if (97≤n∧n≤122)∨(65≤n∧n≤90)∨128≤n then 4
 else 5
/-! ### Names -/
def M7 (c:UInt8):Bool:=decide (97≤c.toNat∧c.toNat≤122)
def R5 (c:UInt8):Bool:=decide ((97≤c.toNat∧c.toNat≤122)∨(48≤c.toNat∧c.toNat≤57)∨c.toNat=45)
def V8:List UInt8→Bool
 | []=>false
 | c::r=>decide (r.length≤23) && M7 c && r.all R5
theorem X3r (l:List UInt8) (h:l.length < 1):V8 l=false:=by
 have:l=[]:=List.eq_nil_of_length_eq_zero yY;subst this;rfl
theorem X6n (l:List UInt8) (h:24 < l.length):V8 l=false:=by
 match l,h with
 | c::r,h=>simp at h;simp [V8];omega
theorem X6m (l:List UInt8) (h:0 < l.length) (hc:M7 l[0]=false):V8 l=false:=by
 match l,h with
 | c::r,h=>simp at hc;simp [V8,hc]
theorem X6o (l:List UInt8) (h:0 < l.length) (hl:l.length≤24) (hc:M7 l[0]=true):V8 l=(l.drop 1).all R5:=by
 match l,h with
 | c::r,h=>simp at hc hl;simp [V8,hc,hl]
theorem Q8h (l:List UInt8) (k:Nat) (h:k < l.length):(l.drop k).all R5=(R5 l[k] && (l.drop (k+1)).all R5):=by
 rw [List.drop_eq_getElem_cons h,List.all_cons]
theorem Q9n (l:List UInt8) (k:Nat) (h:¬ k < l.length):(l.drop k).all R5=true:=by
 rw [List.drop_of_length_le yY];rfl
/-! ### Trim -/
def Z7h (l:List UInt8) (x y:Nat):Prop:=
 (x=0∧y=0∧∀ (j:Nat) (c:UInt8),l[j]? =some c→Q5k c.toNat=2)∨
 (x < y∧y≤l.length∧(∀ c,l[x]? =some c→Q5k c.toNat≠2)∧(∀ c,l[y - 1]? =some c→Q5k c.toNat≠2)∧(∀ (j:Nat) (c:UInt8),j < x→l[j]? =some c→Q5k c.toNat=2)∧∀ (j:Nat) (c:UInt8),y≤j→l[j]? =some c→Q5k c.toNat=2)
/-! ### Runs -/
structure Tk where
 k:Int
 t:ByteArray
 d:Int
theorem Tk.ext' {a b:Tk} (h1:a.k=b.k) (h2:a.t=b.t) (h3:a.d=b.d):a=b:=by
 cases a;cases b;simp at h1 h2 h3;rw [h1,h2,h3]
theorem R7 {a b:ByteArray} (h:a.data.toList=b.data.toList):a=b:=by
 obtain ⟨⟨l⟩⟩:=a;obtain ⟨⟨m⟩⟩:=b;simp at h;rw [h]
def X9 (f:List Tk):Nat:=(f.map fun x=>x.t.size).sum
theorem Q4f (x:Tk) (f:List Tk):X9 (x::f)=x.t.size+X9 f:=by simp [X9]
theorem Y1c (f:List Tk) (k:Nat):X9 (f.take k)≤X9 f:=by
 induction f generalizing k with
 | nil=>simp [X9]
 | cons x f ih=>
   cases k with
   | zero=>simp [X9]
   | succ k=>rw [List.take_succ_cons,Q4f,Q4f];have:=ih k;omega
theorem Y3r (f:List Tk) (k:Nat) (h:k < f.length):X9 (f.take k)+f[k].t.size≤X9 f:=by
 have h1:=Y1c f (k+1);rw [List.take_succ_eq_append_getElem h] at h1;have h2:X9 (f.take k++[f[k]])=X9 (f.take k)+f[k].t.size:=by
  unfold X9;rw [List.map_append,List.sum_append];simp only [List.map_cons,List.map_nil,List.sum_cons,List.sum_nil,Nat.add_zero]
 omega
def RdE {α:Type} (f:α→List Value) (m:Nat) (w:World) (v:Value) (l:List α):Prop:=
 ∃ A c,v=.slice A l.length c∧l.length≤c∧(A=none→c=0)∧(0 < l.length→∃ b o,A=some ⟨b,o,none⟩∧b < w.heap.size∧∀ (i:Nat) (x:α) (j:Nat) (u:Value),l[i]? =some x→(f x)[j]? =some u→
  w.cell? ⟨b,o+(i * m+j),none⟩=some u)
section
variable {α:Type} {f:α→List Value} {m:Nat} {w w':World} {v:Value} {l:List α}
theorem RdE.nil:RdE f m w (.slice none 0 0) ([]:List α):=⟨none,0,rfl,by simp,fun _=>rfl,fun h=>by simp at h⟩
theorem RdE.keep (h:RdE f m w v l) (hs:w.heap.size≤w'.heap.size) (hk:∀ b,b < w.heap.size→w'.heap[b]? =w.heap[b]?):RdE f m w' v l:=by
 obtain ⟨A,c,hv,hc,hn,h⟩:=h;refine ⟨A,c,hv,hc,hn,fun h0=>?_⟩;obtain ⟨b,o,hA,hb,hx⟩:=h h0;refine ⟨b,o,hA,yY,fun i x j u hi hj=>?_⟩;rw [World.cell?_of_block (w:=w) (hk b hb)];exact hx i x j u hi hj
theorem RdE.below {B:Nat} (h:RdE f m w v l) (hb:Below B w w') (hB:w.heap.size≤B):RdE f m w' v l:=
 h.keep hb.size (fun b ha=>hb.block b yY)
theorem RdE.drew (h:RdE f m w v l):RdE f m w.drew v l:=h
theorem RdE.alloc (h:RdE f m w v l) (o:Obj):RdE f m (w.alloc o) v l:=h.keep yW (fun b hb=>Below.heap_alloc w o b hb)
theorem RdE.shape (h:RdE f m w v l):∃ A c,v=.slice A l.length c∧l.length≤c∧(A=none→c=0):=by
 obtain ⟨A,c,hv,hc,hn,_⟩:=h;exact ⟨A,c,hv,hc,hn⟩
theorem RdE.cells {A:Option Addr} {n c:Nat} (h:RdE f m w (.slice A n c) l) (h0:0 < l.length):
 ∃ b o,A=some ⟨b,o,none⟩∧b < w.heap.size∧∀ (i:Nat) (x:α) (j:Nat) (u:Value),l[i]? =some x→(f x)[j]? =some u→w.cell? ⟨b,o+(i * m+j),none⟩=some u:=by
 obtain ⟨A',c',hv,_,_,h⟩:=h;injection hv with hA _ _;subst hA;exact h h0
theorem RdE.cap {A:Option Addr} {n c:Nat} (h:RdE f m w (.slice A n c) l):l.length≤c:=by
 obtain ⟨_,_,hv,hc,_⟩:=h;injection hv with _ _ h3;omega
end
abbrev OwnE {α:Type} (e:TypeId) (f:α→List Value) (m:Nat) (w:World) (B:Nat) (v:Value) (l:List α):Prop:=w.ownsRow B e m v l.length (l.flatMap f)
section
variable {α:Type} {e:TypeId} {f:α→List Value} {m:Nat} {w w':World} {B:Nat} {v:Value} {l:List α}
theorem OwnE.nil:OwnE e f m w B (.slice none 0 0) ([]:List α):=World.ownsRow_nil _ _ _ _
theorem OwnE.snoc {x:α} (h:w.ownsRow B e m v (l.length+1) (l.flatMap f++f x)):OwnE e f m w B v (l++[x]):=by
 unfold OwnE;rw [List.length_append,List.flatMap_append];simpa using h
theorem V4 {size n:Nat} {xs:List Value} {B':Nat} (h:w.ownsRow B e size v n xs) (hb:Below B' w w') (hB:w.heap.size≤B'):w'.ownsRow B e size v n xs:=by
 refine ⟨h.1,?_⟩;rcases h.2 with h0 | ⟨g,cap,cur,hv,hbg,hg,rest⟩
 ·exact .inl h0
 ·refine .inr ⟨g,cap,cur,hv,hbg,?_,rest⟩;rw [hb.block g (Nat.lt_of_lt_of_le (Array.getElem?_eq_some_iff.1 hg).1 hB)];exact hg
theorem Y7 {size n:Nat} {xs:List Value} {B':Nat} (h:w.ownsRow B e size v n xs) (hB:B'≤B):w.ownsRow B' e size v n xs:=
 ⟨h.1,h.2.imp id (fun ⟨g,cap,cur,a,b,c⟩=>⟨g,cap,cur,a,Nat.le_trans hB b,c⟩)⟩
theorem OwnE.rd (hm:∀ x,(f x).length=m) (h:OwnE e f m w B v l):RdE f m w v l:=by
 rcases h.2 with ⟨rfl,h0⟩ | ⟨g,cap,cur,rfl,_,hh,hc,_⟩
 ·have:l=[]:=List.eq_nil_of_length_eq_zero h0;subst this;exact RdE.nil
 ·refine ⟨some ⟨g,0,none⟩,cap,rfl,hc,(fun h=>by cases h),fun _=>⟨g,0,rfl,(Array.getElem?_eq_some_iff.1 hh).1,fun i x j u hi hj=>?_⟩⟩;have ha:i < l.length:=(List.getElem?_eq_some_iff.1 hi).1;have hb:j < m:=(by rw [←hm x];exact (List.getElem?_eq_some_iff.1 hj).1);have hd:i * m+j < l.length * m:=by
   have:(i+1) * m≤l.length * m:=Nat.mul_le_mul_right _ ha;rw [Nat.add_mul] at this;omega
  rw [Nat.zero_add,h.cellAt (i * m+j) hd,Q1y f m hm l i j x hi hb,hj]
end
theorem V1 {P:Program} {ops:Array Oper} {rest:List Oper} {o:Oper} {a:Act} {Q:Exit→Act→World→Prop} {w:World} {α:Type} (hgd:o.guard=none) (s x:Operand) (t e:TypeId)
 (ho:o.op=.call { callee:=.builtin .append,args:=#[s,x],argTypes:=#[t,t] })
 (ht:P.underlying t=some (.slice e)) (z:Value) (f:α→List Value) (size bytes:Nat) (hinfo:(P.info? e).map (fun i=>(i.zero,i.size,i.bytes))=some (some z,size,bytes)) (hzs:z.cells.size=size) (hsz:0 < size)
 (hm:∀ x,(f x).length=size) (h1:∀ x,∀ u∈f x,u.oneCell'=true)
 (base:Nat) (v:Value) (l:List α) (hs:a.eval s=v) (hown:w.ownsRow base e size v l.length (l.flatMap f))
 (v2:Value) (l2:List α) (hx:a.eval x=v2) (hrd:RdE f size w v2 l2)
 (hbytes:(l.length+l2.length) * bytes≤140737488355328) (hb1:1≤bytes) (hbase:base≤w.heap.size)
 (h:∀ v' w',w'.ownsRow base e size v' (l++l2).length ((l++l2).flatMap f)→(∀ B W,B≤base→Below B W w→Below B W w')→w.grownBy w' v.ownBlock→wpList P ops Q rest (a.put o.dst v') w'):wpList P ops Q (o::rest) a w:=by
 obtain ⟨i,hi,hz,hb,hh⟩:=info_parts hinfo;have h2:l.length+l2.length≤140737488355328:=Nat.le_trans (Nat.le_mul_of_pos_right _ hb1) hbytes;obtain ⟨A,c,hf,hc,hn,ha⟩:=hrd;rcases A with _ | ad
 ·have hl:=hn rfl;have hw:l2=[]:=List.eq_nil_of_length_eq_zero yY;subst hw hl;refine wpList_append_own_none hgd s x t ho base e i size ht hi v l.length _ hs hown (by rw [hx,hf];rfl) (h v w (by simpa using hown) (fun _ _ _ hB=>hB) (World.grownBy.refl w _))
 ·refine wpList_append_own w hgd s x t ho base e i z size bytes ht hi hz hb hh hzs hsz v l.length _ hs hown ad l2.length c (l2.flatMap f) (by rw [hx,hf]) (T7 f size hm l2) (fun j u hj=>?_) (fun u hu=>?_) (by unfold maxLen;omega) hbytes hbase ?_
  ·have he:j < l2.length * size:=(by rw [←T7 f size hm l2];exact (List.getElem?_eq_some_iff.1 hj).1);have hv:0 < l2.length:=by
    rcases Nat.eq_zero_or_pos l2.length with h0 | h0
    ·rw [h0] at he;omega
    ·exact h0
   obtain ⟨b,o',hA,_,hp⟩:=ha hv;injection hA with hA;subst hA;have hq:j / size < l2.length:=Nat.div_lt_of_lt_mul (by rw [Nat.mul_comm];exact he);have hr:j % size < size:=Nat.mod_lt _ hsz;have hx':l2[j / size]? =some l2[j / size]:=List.getElem?_eq_getElem hq;have hd:j / size * size+j % size=j:=(by rw [Nat.mul_comm];exact Nat.div_add_mod j size);have hg:=Q1y f size hm l2 (j / size) (j % size) _ hx' hr;rw [hd,hj] at hg;have:=hp (j / size) _ (j % size) u hx' hg.symm;rw [hd] at this;rw [Addr.add_lit];exact this
  ·obtain ⟨x,hx,hu⟩:=List.mem_flatMap.1 hu;exact h1 x u hu
  ·intro v' w' hown' hg _;refine h v' w' ?_ (fun B W hB hW=>hW.grown hg (Nat.le_trans hB hbase) (fun k hk=>Nat.le_trans hB (hown.lt k hk).1)) hg;rw [List.length_append,List.flatMap_append];exact hown'
def F7 {α:Type} (t:TypeId) (f:α→List Value) (m:Nat) (w:World) (l:List α) (e:Ending) (w':World):Prop:=∃ v,e=.returned v∧OwnE t f m w' w.heap.size v l∧Below w.heap.size w w'
theorem O1 (w:World) (g:Nat) (hg:w.heap.size=g) (xs:List Value) (t:TypeId):∀ j u,xs[j]? =some u→(w.alloc (.cells xs.toArray t)).cell? ((⟨g,0,none⟩:Addr).add j)=some u:=by
 subst hg;exact F4 w xs t
def tkC (x:Tk):List Value:=[.int .i64 x.k,.string x.t,.int .i64 x.d]
theorem Q5 (x:Tk):(tkC x).length=3:=rfl
theorem K2 (x:Tk):∀ u∈tkC x,u.oneCell'=true:=by
 intro u hu;simp [tkC] at hu;rcases hu with rfl | rfl | rfl<;>rfl
theorem Z7:(Tryz.prog.info? 31).map (fun i=>(i.zero,i.size,i.bytes))=some (some (.agg #[.int .i64 0,.string ⟨#[]⟩,.int .i64 0]),3,32):=by kernel_rfl
abbrev RdT (w:World) (v:Value) (l:List Tk):Prop:=RdE tkC 3 w v l
abbrev OwnT (e:TypeId) (w:World) (B:Nat) (v:Value) (l:List Tk):Prop:=OwnE e tkC 3 w B v l
theorem RdT.at_ {w:World} {A:Option Addr} {n c:Nat} {l:List Tk} (h:RdT w (.slice A n c) l) (k:Nat) (hk:k < l.length):
 ∃ b o,A=some ⟨b,o,none⟩∧b < w.heap.size∧w.cell? ⟨b,o+k * 3,none⟩=some (.int .i64 l[k].k)∧w.cell? ⟨b,o+k * 3+1,none⟩=some (.string l[k].t)∧w.cell? ⟨b,o+k * 3+2,none⟩=some (.int .i64 l[k].d):=by
 obtain ⟨b,o,hA,hb,hx⟩:=RdE.cells h yY;have hi:l[k]? =some l[k]:=List.getElem?_eq_getElem hk;exact ⟨b,o,hA,hb,hx k _ 0 _ hi rfl,hx k _ 1 _ hi rfl,hx k _ 2 _ hi rfl⟩
end Go.Proofs.YtfkojnofbpdjdaaGreatDoor
namespace Go.Proofs.YtfkojnofbpdjdaaGreatDoor
open Go.ChangeShapes Go.WideShapes Go.ChangeAt Go.RowKit Go.Deep Go.Joins
theorem V8k {n:Int} (h:(Lit.int .i64 n).wf=true):-9223372036854775808≤n∧n≤9223372036854775807:=by
 simp only [Lit.wf,Bool.and_eq_true,decide_eq_true_eq] at h;exact h
section
variable {H:Type} {enc:TypeId×Value→H} {P:Program} {w:World} {base:Nat} {spare:Nat→Bool} {held:Bool}
theorem Z5w {α:Type} (f:α→List Value) (m:Nat) (good:α→Prop) {r:Reach} {b0:Nat} {t e:TypeId} {v:Value} {d:DataW H} {p:List MemPlace} (ht:P.underlying t=some (.slice e)) (hC:P.cellsOf e=m) (hm:∀ x,(f x).length=m) (hm0:0 < m)
 (hel:∀ n cs x,DataW.trod enc P w base spare held n e cs=some x→∃ y:α,cs=f y∧good y) (hv:Value.okWide P w r b0 t v) (h:DataW.Trod enc P w base spare held t v d p):
 ∃ (A:Option Addr) (n c:Nat) (l:List α),v=.slice A n c∧n=l.length∧l.length≤maxLen∧RdE f m w (.slice A n c) l∧∀ x∈l,good x:=by
 obtain ⟨A,n,c,rfl⟩:=okWide_slice ht hv;obtain ⟨fuel,hf⟩:=h;rcases open_slice ht hf with ⟨h0,_⟩ | ⟨a,len,cap,k,n',D,Pl,hcs,_,hl,hmx,hk,_,hi⟩
 ·simp [Value.cells] at h0;obtain ⟨rfl,rfl,rfl⟩:=h0;exact ⟨none,0,0,[],rfl,rfl,by simp,RdE.nil,by simp⟩
 ·simp [Value.cells] at hcs;obtain ⟨rfl,rfl,rfl⟩:=hcs;have hw:n≤k:=by rw [hk];split<;>omega
  have hb:∀ i:Fin n,∃ y:α,good y∧∀ (j:Nat) (u:Value),(f y)[j]? =some u→w.cell? (a.add (i.val * m+j))=some u:=by
   intro i;obtain ⟨cs',hc,hr⟩:=hi i.val yY;obtain ⟨y,rfl,hy⟩:=hel _ _ _ hr;refine ⟨y,hy,fun j u hd=>?_⟩;obtain ⟨_,hs,hj⟩:=World.cells?_some hc;have hp:j < m:=(by rw [←hm y];exact (List.getElem?_eq_some_iff.1 hd).1);have:=hj j (by rw [hC];exact hp);rw [hd,hC,Go.Deep.add_add] at this;exact this
  refine ⟨some a,n,c,List.ofFn fun i=>Classical.choose (hb i),rfl,by simp,by simp;omega,?_,?_⟩
  ·refine ⟨some a,c,by simp,by simp;omega,(fun h=>by cases h),fun h0=>?_⟩;have he:0 < n:=(by simpa using h0);have ho:=Classical.choose_spec (hb ⟨0,he⟩);have hg:(f (Classical.choose (hb ⟨0,he⟩)))[0]? =some _:=List.getElem?_eq_getElem (by rw [hm];omega);have ha:=ho.2 0 _ hg;obtain ⟨b,o,sp⟩:=a;have hq:sp=none:=(by simpa [Addr.add] using World.cell?_spot ha);subst hq;have hn:b < w.heap.size:=by
    unfold World.cell? at ha;split at ha
    ·rename_i hh;have:=(Array.getElem?_eq_some_iff.1 hh).1;rw [Addr.add_lit] at this;exact this
    ·cases ha
   refine ⟨b,o,rfl,hn,fun i x j u hx hu=>?_⟩;rw [List.getElem?_ofFn] at hx;split at hx
   ·rename_i hin;injection hx with hx;subst hx;have:=(Classical.choose_spec (hb ⟨i,hin⟩)).2 j u hu;rw [Addr.add_lit] at this;exact this
   ·cases hx
  ·intro x hx;obtain ⟨i,rfl⟩:=List.mem_ofFn.1 hx;exact (Classical.choose_spec (hb i)).1
end
section
variable {H:Type} {enc:TypeId×Value→H} {w:World} {base:Nat} {spare:Nat→Bool} {held:Bool}
def V6 (x:Int):List Value:=[.int .i64 x]
theorem J9 (x:Int):(V6 x).length=1:=rfl
def I4 (x:Int):Prop:=-9223372036854775808≤x∧x≤9223372036854775807
theorem Z5v {r:Reach} {b0:Nat} {v:Value} {d:DataW H} {p:List MemPlace} (hv:Value.okWide Tryz.prog w r b0 22 v) (h:DataW.Trod enc Tryz.prog w base spare held 22 v d p):
 ∃ (A:Option Addr) (n c:Nat) (l:List Int),v=.slice A n c∧n=l.length∧l.length≤maxLen∧RdE V6 1 w (.slice A n c) l∧∀ x∈l,I4 x:=
 Z5w V6 1 I4 Tryz.underlying22 yZ J9 yX (fun n cs x h=>by
  obtain ⟨a,e,_,wf⟩:=DataW.trod_int Tryz.underlying3 h;exact ⟨a,e,V8k wf⟩) hv h
end
end Go.Proofs.YtfkojnofbpdjdaaGreatDoor
namespace Go.Proofs.YtfkojnofbpdjdaaGreatDoor
open Go.RowKit
theorem Y9s (x n:Int) (hn:1≤n) (hx:x < 0):-n < x.tmod n∧x.tmod n≤0∧(x.tmod n < 0→x % n=x.tmod n+n)∧(¬ x.tmod n < 0→x % n=x.tmod n):=by
 have h1:x.tmod n=-((-x) % n):=by
  have h:=Int.neg_tmod (-x) n;rw [Int.neg_neg] at h;rw [h,Int.tmod_eq_emod_of_nonneg yY]
 have h2:=Int.emod_nonneg (-x) (show n≠0 by omega);have h3:=Int.emod_lt_of_pos (-x) (show 0 < n by omega);have h4:x=x.tmod n+n * x.tdiv n:=(Int.tmod_add_mul_tdiv x n).symm;have h5:x % n=(x.tmod n) % n:=by
  conv=>lhs;rw [h4]
  exact Int.add_mul_emod_self_left ..
 refine ⟨yY,yY,fun hl=>?_,fun hl=>?_⟩
 ·rw [h5,←Int.add_emod_right,Int.emod_eq_of_lt yY yY]
 ·rw [h5,Int.emod_eq_of_lt yY yY]
theorem Y0b (x n:Int) (w:World) (hx:I4 x) (hn:1≤n) (hn2:n≤1000000):
 Calls Tryz.prog 73 #[.int .i64 x,.int .i64 n] w fun e w'=>e=.returned (.int .i64 (x % n))∧w=w':=by
 obtain ⟨hc,hd⟩:=hx;by_cases h:x < 0
 ·obtain ⟨q1,q2,q3,q4⟩:=Y9s x n hn h;by_cases hr:x.tmod n < 0
  ·have e:=q3 hr;go_enter Tryz.func73,Tryz.ntmps73
   go_wp2
   go_ret
   exact ⟨X1b yY,rfl⟩
  ·have e:=q4 hr;go_enter Tryz.func73,Tryz.ntmps73
   go_wp2
   go_ret
   exact ⟨X1b yY,rfl⟩
 ·go_enter Tryz.func73,Tryz.ntmps73
  have hb:=Int.emod_nonneg x (show n≠0 by omega);have ha:=Int.emod_lt_of_pos x (show 0 < n by omega);go_wp2
  go_ret
  exact ⟨rfl,rfl⟩
def X3 (out:List Tk) (x:Tk):List Tk:=
 if x.k≠1 then out++[x] else if x.t.size=0 then out else match out.getLast? with
  | some y=>if y.k=1 then out.dropLast++[⟨1,y.t++x.t,0⟩] else out++[⟨1,x.t,0⟩]
  | none=>[⟨1,x.t,0⟩]
def Q9 (f:List Tk):List Tk:=f.foldl X3 []
theorem Q2f (f:List Tk) (x:Tk):Q9 (f++[x])=X3 (Q9 f) x:=by simp [Q9]
theorem Q8x (f:List Tk) (k:Nat) (h:k < f.length):Q9 (f.take (k+1))=X3 (Q9 (f.take k)) f[k]:=by
 rw [List.take_succ_eq_append_getElem h,Q2f]
theorem K6 (out:List Tk) (x:Tk) (h:x.k≠1):X3 out x=out++[x]:=by rw [X3,if_pos h]
theorem G1 (out:List Tk) (x:Tk) (h:x.k=1) (h2:x.t.size=0):X3 out x=out:=by
 rw [X3,if_neg yY,if_pos h2]
theorem V7 (x:Tk) (h:x.k=1) (h2:x.t.size≠0):X3 [] x=[⟨1,x.t,0⟩]:=by
 rw [X3,if_neg yY,if_neg h2];rfl
theorem J3 (out:List Tk) (y x:Tk) (h:x.k=1) (h2:x.t.size≠0) (hy:y.k=1):X3 (out++[y]) x=out++[⟨1,y.t++x.t,0⟩]:=by
 rw [X3,if_neg yY,if_neg h2];simp [hy]
theorem D1 (out:List Tk) (y x:Tk) (h:x.k=1) (h2:x.t.size≠0) (hy:y.k≠1):X3 (out++[y]) x=out++[y]++[⟨1,x.t,0⟩]:=by
 rw [X3,if_neg yY,if_neg h2];simp [hy]
theorem X4d (out:List Tk) (x:Tk):(X3 out x).length≤out.length+1:=by
 unfold X3;split
 ·simp
 ·split
  ·omega
  ·split
   ·split
    ·simp;try omega
    ·simp
   ·simp
theorem O8 (f:List Tk):(Q9 f).length≤f.length:=by
 suffices h:∀ (g:List Tk) (out:List Tk),(g.foldl X3 out).length≤out.length+g.length by
  have:=h f [];simpa [Q9] using this
 intro g;induction g with
 | nil=>intro out;simp
 | cons x g ih=>
   intro out;rw [List.foldl_cons,List.length_cons];have h1:=ih (X3 out x);have h2:=X4d out x;omega
theorem K5 (f g:List Tk):X9 (f++g)=X9 f+X9 g:=by simp [X9]
theorem D5 (x:Tk):X9 [x]=x.t.size:=by simp [X9]
theorem X6q (out:List Tk) (x:Tk):X9 (X3 out x)=X9 out+x.t.size:=by
 by_cases h:x.k=1
 ·by_cases h2:x.t.size=0
  ·rw [G1 out x h h2];omega
  ·rcases List.eq_nil_or_concat out with rfl | ⟨o,y,rfl⟩
   ·rw [V7 x h h2];simp [X9]
   ·rw [List.concat_eq_append];by_cases hy:y.k=1
    ·rw [J3 o y x h h2 hy,K5,K5,D5,D5];simp;omega
    ·rw [D1 o y x h h2 hy,K5,K5,D5,D5]
 ·rw [K6 out x h,K5,D5]
theorem Q6b (f:List Tk):X9 (Q9 f)=X9 f:=by
 suffices h:∀ (g:List Tk) (out:List Tk),X9 (g.foldl X3 out)=X9 out+X9 g by
  have:=h f [];simpa [Q9,X9] using this
 intro g;induction g with
 | nil=>intro out;simp [X9]
 | cons x g ih=>
   intro out;rw [List.foldl_cons,ih,X6q,Q4f];omega
def Normal:List Tk→Prop
 | []=>True
 | x::r=>(x.k=1→x.t.size≠0∧x.d=0∧∀ y,r.head? =some y→y.k≠1)∧Normal r
theorem Normal.snoc_other (out:List Tk) (x:Tk) (h:Normal out) (hx:x.k≠1):Normal (out++[x]):=by
 induction out with
 | nil=>exact ⟨fun h=>absurd h hx,trivial⟩
 | cons y r ih=>
   refine ⟨fun hy=>?_,ih h.2⟩;obtain ⟨a,b,c⟩:=h.1 hy;refine ⟨a,b,fun z hz=>?_⟩;cases r with
   | nil=>simp at hz;rw [←hz];exact hx
   | cons u r=>exact c z (by simpa using hz)
theorem Normal.snoc_text (out:List Tk) (y x:Tk) (h:Normal (out++[y])) (hy:y.k≠1) (h2:x.t.size≠0) (h3:x.d=0):Normal (out++[y]++[x]):=by
 induction out with
 | nil=>exact ⟨fun h=>absurd h hy,fun _=>⟨h2,h3,fun z hz=>by simp at hz⟩,trivial⟩
 | cons u r ih=>
   refine ⟨fun hu=>?_,ih h.2⟩;obtain ⟨a,b,c⟩:=h.1 hu;refine ⟨a,b,fun z hz=>c z ?_⟩;cases r with
   | nil=>simpa using hz
   | cons u r=>simpa using hz
theorem Normal.replace (out:List Tk) (y x:Tk) (h:Normal (out++[y])) (hy:y.k=1) (_h1:x.k=1) (h2:x.t.size≠0) (h3:x.d=0):Normal (out++[x]):=by
 induction out with
 | nil=>exact ⟨fun _=>⟨h2,h3,fun z hz=>by simp at hz⟩,trivial⟩
 | cons u r ih=>
   refine ⟨fun hu=>?_,ih h.2⟩;obtain ⟨a,b,c⟩:=h.1 hu;refine ⟨a,b,fun z hz=>?_⟩;cases r with
   | nil=>exact absurd hy (c y rfl)
   | cons v r=>exact c z (by simpa using hz)
theorem Normal.step (out:List Tk) (x:Tk) (h:Normal out):Normal (X3 out x):=by
 by_cases hk:x.k=1
 ·by_cases h2:x.t.size=0
  ·rw [G1 out x hk h2];exact h
  ·rcases List.eq_nil_or_concat out with rfl | ⟨o,y,rfl⟩
   ·rw [V7 x hk h2];exact ⟨fun _=>⟨h2,rfl,fun z hz=>by simp at hz⟩,trivial⟩
   ·rw [List.concat_eq_append] at h ⊢;by_cases hy:y.k=1
    ·rw [J3 o y x hk h2 hy];exact Normal.replace o y _ h hy rfl (by show (y.t++x.t).size≠0;rw [ByteArray.size_append];omega) rfl
    ·rw [D1 o y x hk h2 hy];exact Normal.snoc_text o y _ h hy h2 rfl
 ·rw [K6 out x hk];exact Normal.snoc_other out x h hk
theorem C9 (f:List Tk):Normal (Q9 f):=by
 suffices h:∀ (g out:List Tk),Normal out→Normal (g.foldl X3 out) from h f [] trivial
 intro g;induction g with
 | nil=>intro out h;exact h
 | cons x g ih=>intro out h;exact ih _ (Normal.step out x h)
theorem Y1o (f out:List Tk) (h:Normal (out++f)):f.foldl X3 out=out++f:=by
 induction f generalizing out with
 | nil=>simp
 | cons x r ih=>
   have hx:X3 out x=out++[x]:=by
    by_cases hk:x.k=1
    ·have ha:∀ o:List Tk,Normal (o++x::r)→x.t.size≠0∧x.d=0∧∀ p y,o=p++[y]→y.k≠1:=by
      intro o;induction o with
      | nil=>intro h;exact ⟨(h.1 hk).1,(h.1 hk).2.1,fun p y e=>by simp at e⟩
      | cons u o iho=>
        intro h;obtain ⟨a,b,c⟩:=iho h.2;refine ⟨a,b,fun p y e=>?_⟩;cases p with
        | nil=>
          simp at e;obtain ⟨rfl,rfl⟩:=e;intro hu;exact (h.1 hu).2.2 x rfl hk
        | cons q p=>
          simp at e;exact c p y e.2
     obtain ⟨a,b,c⟩:=ha out h;have hb:(⟨1,x.t,0⟩:Tk)=x:=Tk.ext' hk.symm rfl b.symm;rcases List.eq_nil_or_concat out with rfl | ⟨o,y,rfl⟩
     ·rw [V7 x hk a,hb];rfl
     ·rw [List.concat_eq_append];rw [D1 o y x hk a (c o y (by rw [List.concat_eq_append])),hb]
    ·exact K6 out x hk
   rw [List.foldl_cons,hx,ih _ (by rw [List.append_assoc];exact h),List.append_assoc];rfl
theorem Q1b (f:List Tk) (h:Normal f):Q9 f=f:=by
 have:=Y1o f [] h;simpa [Q9] using this
def X0 (L:List Int) (N:Nat) (n:Int):Int:=(L.getD N 0) % n
theorem X7 (L:List Int) (N:Nat) (n:Int) (h:1≤n):0≤X0 L N n∧X0 L N n < n:=
 ⟨Int.emod_nonneg _ yY,Int.emod_lt_of_pos _ yY⟩
def Q8m:List ByteArray:=[⟨#[114,101,100]⟩,⟨#[99,97,114]⟩,⟨#[82,101,100]⟩,⟨#[97]⟩,⟨#[99,97,114,115]⟩,⟨#[49,44,53]⟩,⟨#[50,50]⟩,⟨#[100,111,110,39,116]⟩,⟨#[46]⟩,⟨#[33]⟩,⟨#[32]⟩,⟨#[32,32]⟩,
 ⟨#[60]⟩,⟨#[38]⟩,⟨#[123]⟩,⟨#[34]⟩,⟨#[92]⟩,⟨#[120,45,121]⟩,⟨#[10]⟩,⟨#[61]⟩,⟨#[125]⟩,⟨#[62]⟩,⟨#[9]⟩,⟨#[98]⟩]
def N3 (L:List Int) (N:Nat):ByteArray:=Q8m.getD (X0 L N 24).toNat ⟨#[]⟩
theorem X8c:∀ k,(Q8m.getD k ⟨#[]⟩).size≤5:=by
 intro k;by_cases h:k < Q8m.length
 ·have:∀ x∈Q8m,x.size≤5:=yX;rw [List.getD_eq_getElem?_getD,List.getElem?_eq_getElem h];exact this _ (List.getElem_mem h)
 ·rw [List.getD_eq_getElem?_getD,List.getElem?_eq_none yY];decide
def B4 (L:List Int):Nat→ByteArray→Nat→ByteArray×Nat
 | 0,out,N=>(out,N)
 | i+1,out,N=>
   if 0 < out.size then
    if 0 < X0 L (N+1) 3 then B4 L i (out++⟨#[32]⟩++N3 L N) (N+2) else B4 L i (out++N3 L N) (N+2)
   else B4 L i (out++N3 L N) (N+1)
def D0 (L:List Int) (N:Nat) (n:Int):ByteArray×Nat:=B4 L (X0 L N (n+1)).toNat ⟨#[]⟩ (N+1)
theorem Q7m (L:List Int):∀ i out N,(B4 L i out N).1.size≤out.size+6 * i∧(B4 L i out N).2≤N+2 * i
 | 0,out,N=>⟨yQ,yQ⟩
 | i+1,out,N=>by
   have hw:(N3 L N).size≤5:=X8c _;rw [B4];split
   ·split
    ·have h:=Q7m L i (out++⟨#[32]⟩++N3 L N) (N+2);rw [ByteArray.size_append,ByteArray.size_append] at h;have h1:(ByteArray.mk #[32]).size=1:=rfl;omega
    ·have h:=Q7m L i (out++N3 L N) (N+2);rw [ByteArray.size_append] at h;omega
   ·have h:=Q7m L i (out++N3 L N) (N+1);rw [ByteArray.size_append] at h;omega
theorem X6h (L:List Int) (N:Nat) (n:Int) (h:0≤n):(D0 L N n).1.size≤6 * n.toNat∧(D0 L N n).2≤N+1+2 * n.toNat:=by
 have h1:=X7 L N (n+1) yY;have h2:=Q7m L (X0 L N (n+1)).toNat ⟨#[]⟩ (N+1);have h3:(ByteArray.mk #[]).size=0:=rfl;unfold D0;omega
structure But (g:Nat) (w w':World):Prop where
 os:w'.os=w.os
 tape:w'.tape=w.tape
 output:w'.output=w.output
 size:w.heap.size≤w'.heap.size
 block:∀ k,k < w.heap.size→k≠g→w'.heap[k]? =w.heap[k]?
theorem But.refl (g:Nat) (w:World):But g w w:=⟨rfl,rfl,rfl,yQ,fun _ _ _=>rfl⟩
theorem But.trans {g:Nat} {a b c:World} (h:But g a b) (k:But g b c):But g a c:=
 ⟨k.os.trans h.os,k.tape.trans h.tape,k.output.trans h.output,Nat.le_trans h.size k.size,fun i hi hn=>(k.block i (Nat.lt_of_lt_of_le hi h.size) hn).trans (h.block i hi hn)⟩
theorem But.of_below {g:Nat} {w w':World} (h:Below w.heap.size w w'):But g w w':=⟨h.os,h.tape,h.output,h.size,fun k hk _=>h.block k hk⟩
theorem But.below {g B:Nat} {w w':World} (h:But g w w') (hB:B≤g) (hg:g≤w.heap.size):Below B w w':=⟨h.os,h.tape,h.output,h.size,fun k hk=>h.block k yY yY⟩
theorem But.alloc {g:Nat} {a w:World} (h:But g a w) (o:Obj):But g a (w.alloc o):=h.trans (.of_below ((Below.refl _ _).alloc yQ o))
theorem But.drewN {g:Nat} {a w:World} (h:But g a w) (n:Nat):But g a (w.drewN n):=⟨h.os,h.tape,h.output,h.size,h.block⟩
theorem But.set {g:Nat} {a w:World} (h:But g a w) (o:Nat) (u:Value):But g a (w.setCell ⟨g,o,none⟩ u):=by
 refine h.trans ⟨rfl,rfl,rfl,by simp [World.setCell],fun k hk hn=>Below.heap_setCell _ _ _ _ hn⟩
def Nums (w:World) (g:Nat) (L:List Int) (N:Nat):Prop:=∃ v W0,w.heap[g]? =some (.cells #[v,.int .i64 N] 29)∧RdE V6 1 W0 v L∧W0.heap.size≤g∧(∀ k,k < W0.heap.size→w.heap[k]? =W0.heap[k]?)∧(∀ x∈L,I4 x)
theorem Nums.lt {w:World} {g:Nat} {L:List Int} {N:Nat} (h:Nums w g L N):g < w.heap.size:=by
 obtain ⟨v,W0,h,_⟩:=h;exact (Array.getElem?_eq_some_iff.1 h).1
theorem Nums.keep {w w':World} {g:Nat} {L:List Int} {N:Nat} (h:Nums w g L N) (hk:∀ k,k < w.heap.size→w'.heap[k]? =w.heap[k]?):Nums w' g L N:=by
 have hb:=h.lt;obtain ⟨v,W0,h1,h2,h3,h4,h5⟩:=h;exact ⟨v,W0,(hk g hb).trans h1,h2,h3,fun k ha=>(hk k yY).trans (h4 k ha),h5⟩
theorem Nums.below {w w':World} {g:Nat} {L:List Int} {N B:Nat} (h:Nums w g L N) (hb:Below B w w') (hB:w.heap.size≤B):Nums w' g L N:=h.keep fun k hk=>hb.block k yY
theorem Nums.alloc {w:World} {g:Nat} {L:List Int} {N:Nat} (h:Nums w g L N) (o:Obj):Nums (w.alloc o) g L N:=h.keep fun _ hk=>Below.heap_alloc _ _ _ hk
def Y7v (g:Nat) (L:List Int) (N':Nat) (v:Value) (w:World) (e:Ending) (w':World):Prop:=e=.returned v∧But g w w'∧Nums w' g L N'
theorem Y9 {w:World} {g:Nat} {cs:Array Value} {t:TypeId} (h:w.heap[g]? =some (.cells cs t)) (j:Nat):w.frozen? ⟨g,j,none⟩=false:=by
 unfold World.frozen?;rw [h];simp
theorem X9x {w W0:World} {g N:Nat} {L:List Int} {v:Value} (h1:w.heap[g]? =some (.cells #[v,.int .i64 N] 29)) (h2:RdE V6 1 W0 v L) (h3:W0.heap.size≤g) (h4:∀ k,k < W0.heap.size→w.heap[k]? =W0.heap[k]?) (h5:∀ x∈L,I4 x) (a:Nat):
 Nums ((w.drewN a).setCell ⟨g,1,none⟩ (.int .i64 ((N:Int)+1))) g L (N+1):=by
 refine ⟨v,W0,?_,h2,h3,fun k hk=>?_,h5⟩
 ·have hh:(w.drewN a).heap[g]? =w.heap[g]? :=rfl;show ((w.drewN a).heap.modify g _)[g]? =_;rw [Array.getElem?_modify,if_pos rfl,hh,h1];rfl
 ·rw [Below.heap_setCell _ _ _ _ (by show k≠g;omega)];exact h4 k hk
theorem Z3 (L:List Int) (g N:Nat) (n:Int) (w:World) (h:Nums w g L N) (hN:N≤1000000000) (hn:1≤n) (hn2:n≤1000000):
 Calls Tryz.prog 34 #[.pointer (some ⟨g,0,none⟩),.int .i64 n] w (Y7v g L (N+1) (.int .i64 (X0 L N n)) w):=by
 have hd:=h.lt;obtain ⟨v,W0,h1,h2,h3,h4,h5⟩:=h;have hb:RdE V6 1 w v L:=h2.keep yY h4;obtain ⟨A,c,rfl,_,_⟩:=hb.shape;have q1:w.cell? ⟨g,0,none⟩=some (.slice A L.length c):=(by rw [cell_of_row _ _ 0 _ _ _ h1];rfl);have q2:w.cell? ⟨g,1,none⟩=some (.int .i64 N):=(by rw [cell_of_row _ _ 1 _ _ _ h1];rfl);by_cases hNL:N < L.length
 ·obtain ⟨b,o,rfl,hc,hx⟩:=RdE.cells hb yY;have q3:=hx N _ 0 _ (List.getElem?_eq_getElem hNL) rfl;simp only [Nat.mul_one,Nat.add_zero] at q3;have ha:=h5 _ (List.getElem_mem hNL);have hv:yK (X0 L N n=L[N] % n):=by
   show X0 L N n=L[N] % n;unfold X0;rw [List.getD_eq_getElem?_getD,List.getElem?_eq_getElem hNL];rfl
  generalize L[N]=x at q3 ha hv;have q4:w.frozen? ⟨g,1,none⟩=false:=Y9 h1 1;have HN:=X9x h1 h2 h3 h4 h5;go_enter Tryz.func34,Tryz.ntmps34
  go_wp2_with fail
  go_quiet (fail)
  go_wp2_with fail
  go_quiet (fail)
  go_wp2_with (go_at_call 73;refine (Y0b x n _ ha hn hn2).mono ?_;rintro e w' ⟨rfl,rfl⟩)
  go_ret
  refine ⟨X1b hv.o.symm,?_,?_⟩
  ·exact But.set (But.drewN (But.refl g w) _) 1 _
  ·exact HN _
 ·have hv:yK (X0 L N n=0 % n):=by
   show X0 L N n=0 % n;unfold X0;rw [List.getD_eq_getElem?_getD,List.getElem?_eq_none yY];rfl
  have q4:w.frozen? ⟨g,1,none⟩=false:=Y9 h1 1;have HN:=X9x h1 h2 h3 h4 h5;go_enter Tryz.func34,Tryz.ntmps34
  go_wp2_with fail
  go_quiet (fail)
  go_wp2_with (go_at_call 73;refine (Y0b 0 n _ ⟨yY,yY⟩ hn hn2).mono ?_;rintro e w' ⟨rfl,rfl⟩)
  go_ret
  refine ⟨X1b hv.o.symm,?_,?_⟩
  ·exact But.set (But.drewN (But.refl g w) _) 1 _
  ·exact HN _
theorem Q1v (w:World) (g:Nat) (hg:w.heap.size=g) (xs:List ByteArray) (t:TypeId) (k:Nat) (h:k < xs.length):(w.alloc (.cells (xs.map Value.string).toArray t)).cell? ⟨g,k,none⟩=some (.string (xs.getD k ⟨#[]⟩)):=by
 subst hg;have:=F4 w (xs.map Value.string) t k (.string (xs.getD k ⟨#[]⟩)) (by rw [List.getElem?_map,List.getElem?_eq_getElem h,List.getD_eq_getElem?_getD,List.getElem?_eq_getElem h];rfl);rwa [Addr.add_lit,Nat.zero_add] at this
theorem Y0v (L:List Int) (g N:Nat) (w:World) (h:Nums w g L N) (hN:N≤1000000000):
 Calls Tryz.prog 74 #[.pointer (some ⟨g,0,none⟩)] w (Y7v g L (N+1) (.string (N3 L N)) w):=by
 have H:=zW (h.alloc (.cells (Q8m.map Value.string).toArray 9));have hn:=X7 L N 24 yY;have HC:=Q1v w _ rfl Q8m 9 (X0 L N 24).toNat (by show _ < 24;omega);have HW:yK (Q8m.getD (X0 L N 24).toNat ⟨#[]⟩=N3 L N):=(by show Q8m.getD (X0 L N 24).toNat ⟨#[]⟩=N3 L N;rfl);have HB:=zW (But.alloc (But.refl g w) (.cells (Q8m.map Value.string).toArray 9));have HX:=fun (X:World) (hb:But g (w.alloc (.cells (Q8m.map Value.string).toArray 9)) X)=>(World.cell?_of_block (a:=⟨w.heap.size,(X0 L N 24).toNat,none⟩) (hb.block w.heap.size yW (by have:=h.lt;omega))).trans HC;have ha:=zW HX;clear h HX HC;go_enter Tryz.func74,Tryz.ntmps74
 go_wp2_with fail
 refine (Z3 L g N 24 _ (by exact H.o) hN yX yX).mono ?_;rintro e w1 ⟨rfl,hb1,hn1⟩;have q:=ha.o w1 (by exact hb1);have hc:But g w w1:=HB.o.trans (by exact hb1);rw [HW.o] at q;generalize X0 L N 24=z at hn q;have hz:((z.toNat:Nat):Int)=z:=yY;go_wp2_with fail
 go_ret
 exact ⟨rfl,hc,hn1⟩
theorem X9w (L:List Int) (g N:Nat) (n:Int) (w:World) (h:Nums w g L N) (hN:N≤100000000) (hn:0≤n) (hn2:n≤1000):
 Calls Tryz.prog 35 #[.pointer (some ⟨g,0,none⟩),.int .i64 n] w (Y7v g L (D0 L N n).2 (.string (D0 L N n).1) w):=by
 have HT:yK (B4 L (X0 L N (n+1)).toNat ⟨#[]⟩ (N+1)=D0 L N n):=(by show B4 L (X0 L N (n+1)).toNat ⟨#[]⟩ (N+1)=D0 L N n;rfl);have hb:=X7 L N (n+1) yY;have hm:=zW (Z3 L g N (n+1) w h yY yY yY);generalize X0 L N (n+1)=z at HT hb hm;generalize D0 L N n=tgt at HT;obtain ⟨m,rfl⟩:∃ m:Nat,z=(m:Int):=⟨z.toNat,yY⟩;rw [Int.toNat_natCast] at HT;clear h;go_enter Tryz.func35,Tryz.ntmps35
 go_wp2_with fail
 refine (hm.o).mono ?_;rintro e w1 ⟨rfl,hb1,hn1⟩;have hp:=zW hb1;have hq:=zW hn1;clear hb1 hn1;go_wp2_with fail
 go_loopw [5,6] (fun ov iv wr=>∃ (out:ByteArray) (i N':Nat),ov=.string out∧iv=.int .i64 i∧i≤m∧N'+2 * i≤N+1+2 * m∧out.size+6 * i≤6 * m∧yK (But g w wr)∧yK (Nums wr g L N')∧yK (B4 L i out N'=tgt)) (fun _ iv _=>(intOf iv).toNat)
 case atStart=>exact ⟨⟨#[]⟩,m,N+1,rfl,rfl,yQ,yQ,by show 0+6 * m≤_;omega,hp.o,hq.o,HT.o⟩
 case round=>
  obtain ⟨out,i,N',rfl,rfl,hv,hu,hx,HB,HN,HG⟩:=hrel;cases i with
  | zero=>
    have he:=HG.o;rw [B4] at he;subst he;go_wp2_with fail
    go_ret
    exact ⟨rfl,HB.o,HN.o⟩
  | succ i=>
    have hw:(N3 L N').size≤5:=X8c _;by_cases ho:0 < out.size
    ·have h3:=X7 L (N'+1) 3 yY;have hr:(out.toList==[])=false:=by
      rw [beq_eq_false_iff_ne,Y4];intro h;have:=Lib.size_eq out;rw [h] at this;simp only [List.length_nil] at this;omega
     have hs:out.toList.isEmpty=false:=by
      rw [List.isEmpty_eq_false_iff];simpa using hr
     have hj:(out++⟨#[32]⟩++N3 L N').size≤out.size+6:=by
      rw [ByteArray.size_append,ByteArray.size_append];show out.size+1+(N3 L N').size≤_;omega
     have hc:(out++N3 L N').size≤out.size+6:=by
      rw [ByteArray.size_append];omega
     have hf:=zW (Y0v L g N' wr HN.o yY);by_cases hz:0 < X0 L (N'+1) 3
     ·have hd:yK (B4 L i (out++⟨#[32]⟩++N3 L N') (N'+2)=tgt):=by
       have:=HG.o;rw [B4,if_pos ho,if_pos hz] at this;exact this
      generalize N3 L N'=wd at hw hj hc hf hd;have ha:=fun w h=>Z3 L g (N'+1) 3 w h yY yY yY;have hi:=zW ha;generalize X0 L (N'+1) 3=z3 at h3 hz hi ha;clear ha;go_wp2_with fail
      refine (hf.o).mono ?_;rintro e w2 ⟨rfl,hb2,hn2'⟩;have hg:=zW (HB.o.trans hb2);have hh:=zW hn2';clear hb2 hn2';go_wp2_with fail
      refine (hi.o w2 hh.o).mono ?_;rintro e w3 ⟨rfl,hb3,hn3⟩;have hk:=zW (hg.o.trans hb3);have hl:=zW hn3;clear hb3 hn3;go_wp2_with fail
      exact ⟨⟨_,i,N'+2,rfl,by go_num,yY,yY,yY,hk.o,hl.o,hd.o⟩,by simp [intOf];try omega⟩
     ·have hd:yK (B4 L i (out++N3 L N') (N'+2)=tgt):=by
       have:=HG.o;rw [B4,if_pos ho,if_neg hz] at this;exact this
      generalize N3 L N'=wd at hw hj hc hf hd;have ha:=fun w h=>Z3 L g (N'+1) 3 w h yY yY yY;have hi:=zW ha;generalize X0 L (N'+1) 3=z3 at h3 hz hi ha;clear ha;go_wp2_with fail
      refine (hf.o).mono ?_;rintro e w2 ⟨rfl,hb2,hn2'⟩;have hg:=zW (HB.o.trans hb2);have hh:=zW hn2';clear hb2 hn2';go_wp2_with fail
      refine (hi.o w2 hh.o).mono ?_;rintro e w3 ⟨rfl,hb3,hn3⟩;have hk:=zW (hg.o.trans hb3);have hl:=zW hn3;clear hb3 hn3;go_wp2_with fail
      exact ⟨⟨_,i,N'+2,rfl,by go_num,yY,yY,yY,hk.o,hl.o,hd.o⟩,by simp [intOf];try omega⟩
    ·have hz:out.data.toList=[]:=List.eq_nil_of_length_eq_zero (by rw [←Lib.size_eq];omega);have ht:out=⟨#[]⟩:=R7 hz;subst ht;have hd:yK (B4 L i (⟨#[]⟩++N3 L N') (N'+1)=tgt):=by
      have:=HG.o;rw [B4,if_neg ho] at this;exact this
     have hc:((⟨#[]⟩:ByteArray)++N3 L N').size≤6:=by
      rw [ByteArray.size_append];show 0+_≤6;omega
     have hf:=zW (Y0v L g N' wr HN.o yY);have hos':6 * (i+1)≤6 * m:=(by have:(ByteArray.mk #[]).size=0:=rfl;omega);generalize N3 L N'=wd at hw hc hf hd;go_wp2_with fail
     refine (hf.o).mono ?_;rintro e w2 ⟨rfl,hb2,hn2'⟩;have hg:=zW (HB.o.trans hb2);have hh:=zW hn2';clear hb2 hn2';go_wp2_with fail
     exact ⟨⟨_,i,N'+1,rfl,by go_num,yY,yY,yY,hg.o,hh.o,hd.o⟩,by simp [intOf];try omega⟩
def R6:List ByteArray:=[⟨#[110]⟩,⟨#[110,97,109,101]⟩,⟨#[120,49]⟩]
def Q4j:List ByteArray:=[⟨#[98,114]⟩,⟨#[105,109,103,32,97]⟩]
def Q6d:List ByteArray:=[⟨#[98]⟩,⟨#[105]⟩,⟨#[97,32,104,61,49]⟩]
theorem X2e (l:List ByteArray) (k:Nat) (h:∀ x∈l,x.size≤5):(l.getD k ⟨#[]⟩).size≤5:=by
 by_cases hk:k < l.length
 ·rw [List.getD_eq_getElem?_getD,List.getElem?_eq_getElem hk];exact h _ (List.getElem_mem hk)
 ·rw [List.getD_eq_getElem?_getD,List.getElem?_eq_none yY];decide
def J8 (s:ByteArray):ByteArray:=⟨(s.data.toList.takeWhile (fun c=>c != 32)).toArray⟩
theorem Y9f (s:ByteArray):(J8 s).size≤s.size:=by
 rw [Lib.size_eq,Lib.size_eq];show (s.data.toList.takeWhile _).toArray.toList.length≤_;exact (List.takeWhile_prefix _).length_le
structure FS where
 f:List Tk
 op:List Tk
 id:Nat
 N:Nat
theorem OwnT.unsnoc {e:TypeId} {w:World} {B:Nat} {v:Value} {l:List Tk} {x:Tk} (h:OwnT e w B v (l++[x])):∃ g cap,v=.slice (some ⟨g,0,none⟩) (l.length+1) cap∧B≤g∧
 w.ownsRow B e 3 (.slice (some ⟨g,0,none⟩) (l.length+1) cap) (l.length+1) (l.flatMap tkC++tkC x):=by
 unfold OwnT OwnE at h;rw [List.length_append,List.flatMap_append] at h;obtain ⟨g,c,hv,hb⟩:=X6u h yW;subst hv;exact ⟨g,c,rfl,hb,by simpa using h⟩
section
variable {e:TypeId} {w:World} {B g cap:Nat} {l:List Tk} {x:Tk}
theorem OwnT.lastCells (h:w.ownsRow B e 3 (.slice (some ⟨g,0,none⟩) (l.length+1) cap) (l.length+1) (l.flatMap tkC++tkC x)):
 w.cell? ⟨g,l.length * 3,none⟩=some (.int .i64 x.k)∧w.cell? ⟨g,l.length * 3+1,none⟩=some (.string x.t)∧w.cell? ⟨g,l.length * 3+2,none⟩=some (.int .i64 x.d):=by
 have hl:=T7 tkC 3 Q5 l;refine ⟨?_,?_,?_⟩
 ·rw [h.cellAt _ yY,List.getElem?_append_right yY,hl,Nat.sub_self];rfl
 ·rw [h.cellAt _ yY,List.getElem?_append_right yY,hl,Nat.add_sub_cancel_left];rfl
 ·rw [h.cellAt _ yY,List.getElem?_append_right yY,hl,Nat.add_sub_cancel_left];rfl
theorem OwnT.lastSet (h:w.ownsRow B e 3 (.slice (some ⟨g,0,none⟩) (l.length+1) cap) (l.length+1) (l.flatMap tkC++tkC x)) (y:Tk):
 OwnT e (((w.setCell ⟨g,l.length * 3,none⟩ (.int .i64 y.k)).setCell ⟨g,l.length * 3+1,none⟩ (.string y.t)).setCell ⟨g,l.length * 3+2,none⟩ (.int .i64 y.d)) B (.slice (some ⟨g,0,none⟩) (l.length+1) cap) (l++[y]):=by
 have hl:=T7 tkC 3 Q5 l;have h1:=(h.stored (l.length * 3) (.int .i64 y.k)).1;have h2:=(h1.stored (l.length * 3+1) (.string y.t)).1;have h3:=(h2.stored (l.length * 3+2) (.int .i64 y.d)).1;refine OwnE.snoc ?_;rw [List.set_append_right _ _ yY,hl,Nat.sub_self,List.set_append_right _ _ yY,hl,Nat.add_sub_cancel_left,List.set_append_right _ _ yY,hl,Nat.add_sub_cancel_left] at h3;exact h3
end
theorem Z6m (f:List Tk) (v:Value) (w:World) (hf:RdT w v f) (hl:f.length≤100000) (hbt:X9 f≤1000000):
 Calls Tryz.prog 33 #[v] w (F7 31 tkC 3 w (Q9 f)):=by
 obtain ⟨A,c,rfl,_,_⟩:=hf.shape;have HF:=zW hf;clear hf;go_enter Tryz.func33,Tryz.ntmps33
 go_wp2
 go_loopw [3,9] (fun ov i wr=>∃ k:Nat,k≤f.length∧i=.int .i64 k∧yK (OwnT 31 wr w.heap.size ov (Q9 (f.take k)))∧Below w.heap.size w wr) (fun _ i _=>f.length - (intOf i).toNat)
 case atStart=>exact ⟨0,yY,rfl,OwnE.nil,Below.refl _ _⟩
 case round=>
  obtain ⟨k,hk,rfl,HO,hb⟩:=hrel;have ha:=hb.size;by_cases hkl:k < f.length
  ·obtain ⟨b,o,rfl,hn,q1,q2,q3⟩:=RdT.at_ HF.o k hkl;rw [←hb.cell (p:=⟨b,o+k * 3,none⟩) hn] at q1;rw [←hb.cell (p:=⟨b,o+k * 3+1,none⟩) hn] at q2;rw [←hb.cell (p:=⟨b,o+k * 3+2,none⟩) hn] at q3;have HT:=zW (Q8x f k hkl);have hi:(Q9 (f.take k)).length≤100000:=by
    have:=O8 (f.take k);rw [List.length_take] at this;omega
   have hh:X9 (Q9 (f.take k))+f[k].t.size≤1000000:=by
    rw [Q6b];have:=Y3r f k hkl;omega
   generalize f[k]=x at q1 q2 q3 HT hh;obtain ⟨xk,xt,xd⟩:=x;simp only at q1 q2 q3 hh;generalize Q9 (f.take k)=out at HO HT hi hh;by_cases h1:xk=1
   ·subst h1;by_cases he:xt.size=0
    ·have hx:xt=⟨#[]⟩:=R7 (List.eq_nil_of_length_eq_zero (by rw [←Lib.size_eq];exact he));have HX:=zW (G1 out ⟨1,xt,xd⟩ rfl he);subst hx;obtain ⟨A',c',hv⟩:=Q0 HO.o;subst hv;go_wp2_with fail
     refine ⟨⟨k+1,yY,by go_num,?_,hb.alloc ha _⟩,by simp [intOf];try omega⟩;rw [HT.o,HX.o];exact World.ownsRow.alloc HO.o _
    ·have ht:(xt.toList==[])=false:=by
      rw [beq_eq_false_iff_ne,Y4];intro h;apply he;rw [Lib.size_eq,h];rfl
     have hu:xt.toList.isEmpty=false:=by
      rw [List.isEmpty_eq_false_iff];simpa using ht
     rcases List.eq_nil_or_concat out with rfl | ⟨o2,y,rfl⟩
     ·have HX:=zW (V7 ⟨1,xt,xd⟩ rfl he);obtain ⟨A',c',hv⟩:=Q0 HO.o;subst hv;clear he;go_wp2_with (at_builtin;go_must (refine Z5 rfl (.tmp 53) (.tmp 57) 24 31 rfl Tryz.underlying24 _ 3 32 Z7 rfl yX w.heap.size _ 0 [] rfl (by exact World.ownsRow.alloc (World.ownsRow.alloc HO.o _) _) ⟨wr.heap.size+1,0,none⟩ 1 (tkC ⟨1,xt,0⟩) rfl rfl (by exact O1 _ _ yW _ _) (K2 _) yY yX yV ?_);intro g cap w1 hown1 hg1 hbel1 hgr1)
      refine ⟨⟨k+1,yY,by go_num,?_,hbel1 _ _ yQ (by exact (hb.alloc ha _).alloc yV _)⟩,by simp [intOf];try omega⟩;rw [HT.o,HX.o];exact hown1
     ·rw [List.concat_eq_append] at HO HT hi hh;obtain ⟨yk,yt,yd⟩:=y;obtain ⟨g,cap,hv,hg,hc⟩:=OwnT.unsnoc HO.o;subst hv;obtain ⟨p1,p2,p3⟩:=OwnT.lastCells hc;have hw:o2.length+1≤100000:=(by simpa using hi);have hm:g < wr.heap.size:=World.block_lt_of_cell? _ _ p1;have p1':∀ ob,(wr.alloc ob).cell? ⟨g,o2.length * 3,none⟩=some (.int .i64 yk):=fun ob=>(World.cell?_alloc_lt _ _ _ hm).trans p1;by_cases hy:yk=1
      ·subst hy;have HX:=zW (J3 o2 ⟨1,yt,yd⟩ ⟨1,xt,xd⟩ rfl he rfl);have hC:yt.size+xt.size≤1000000:=by
        rw [K5,D5] at hh;simp only at hh;omega
       clear he hi hh;go_wp2_with fail
       have s1:=(World.cell?_alloc_lt wr (.cells #[.int .i64 1,.string xt,.int .i64 xd] 31) ⟨g,o2.length * 3,none⟩ hm).trans p1;have s2:=(World.cell?_alloc_lt wr (.cells #[.int .i64 1,.string xt,.int .i64 xd] 31) ⟨g,o2.length * 3+1,none⟩ hm).trans p2;have s3:=(World.cell?_alloc_lt wr (.cells #[.int .i64 1,.string xt,.int .i64 xd] 31) ⟨g,o2.length * 3+2,none⟩ hm).trans p3;have z1:(wr.alloc (.cells #[.int .i64 1,.string xt,.int .i64 xd] 31)).cell? ⟨wr.heap.size,1,none⟩=some (.string xt):=O1 wr _ rfl [.int .i64 1,.string xt,.int .i64 xd] 31 1 _ rfl;have hd:=World.ownsRow.alloc hc (.cells #[.int .i64 1,.string xt,.int .i64 xd] 31);have fz:=fun j=>hd.frozenAt j;have hq:=hb.alloc ha (.cells #[.int .i64 1,.string xt,.int .i64 xd] 31);have hj:=zW hd;have hp:=zW hq;have hr:(wr.alloc (.cells #[.int .i64 1,.string xt,.int .i64 xd] 31)).heap.size=wr.heap.size+1:=yW;have hs:=zW hr;have ew:IntKind.i64.wrap ((o2.length:Int)+1 - 1)=(o2.length:Int):=(by rw [IntKind.wrap_i64];omega);clear p1 p2 p3 p1' hd hq hr q1 q2 q3 hc HO;generalize (wr.alloc (.cells #[.int .i64 1,.string xt,.int .i64 xd] 31))=W1 at s1 s2 s3 z1 fz hj hp hs ⊢;go_region
       go_wp2_with fail
       refine ⟨⟨k+1,yY,by go_num,?_,?_⟩,by simp [intOf];try omega⟩
       ·rw [HT.o,HX.o];exact OwnT.lastSet hj.o ⟨1,yt++xt,0⟩
       ·exact (((hp.o.setCell (p:=⟨g,o2.length * 3,none⟩) hg _).setCell (p:=⟨g,o2.length * 3+1,none⟩) hg _).setCell (p:=⟨g,o2.length * 3+2,none⟩) hg _).drew
      ·have HX:=zW (D1 o2 ⟨yk,yt,yd⟩ ⟨1,xt,xd⟩ rfl he hy);have hB:(yk==1)=false:=(by simpa using hy);have ho:(o2++[⟨yk,yt,yd⟩]:List Tk).length=o2.length+1:=yW;have hj:=zW hc;clear he hy hh hi hc;go_wp2_with (at_builtin;go_must (refine Z5 rfl (.tmp 53) (.tmp 57) 24 31 rfl Tryz.underlying24 _ 3 32 Z7 rfl yX w.heap.size _ (o2.length+1) (o2.flatMap tkC++tkC ⟨yk,yt,yd⟩) rfl (by exact World.ownsRow.alloc (World.ownsRow.alloc hj.o _) _) ⟨wr.heap.size+1,0,none⟩ 1 (tkC ⟨1,xt,0⟩) rfl rfl (by exact O1 _ _ yW _ _) (K2 _) yY yX yV ?_);intro g2 cap2 w1 hown1 hg3 hbel1 hgr1)
       refine ⟨⟨k+1,yY,by go_num,?_,hbel1 _ _ yQ (by exact (hb.alloc ha _).alloc yV _)⟩,by simp [intOf];try omega⟩;rw [HT.o,HX.o];refine OwnE.snoc ?_;rw [ho,List.flatMap_append];simpa using hown1
   ·have HX:=zW (K6 out ⟨xk,xt,xd⟩ h1);have hz:(xk==1)=false:=(by simpa using h1);have hA:(xk != 1)=true:=(by simpa using h1);obtain ⟨A',c',hv⟩:=Q0 HO.o;subst hv;clear h1;go_wp2_with (at_builtin;go_must (refine Z5 rfl (.tmp 19) (.tmp 21) 24 31 rfl Tryz.underlying24 _ 3 32 Z7 rfl yX w.heap.size _ _ _ rfl (by exact World.ownsRow.alloc (World.ownsRow.alloc HO.o _) _) ⟨wr.heap.size+1,0,none⟩ 1 (tkC ⟨xk,xt,xd⟩) rfl rfl (by exact O1 _ _ yW _ _) (K2 _) yY yX yV ?_);intro g cap w1 hown1 hg1 hbel1 hgr1)
    refine ⟨⟨k+1,yY,by go_num,?_,hbel1 _ _ yQ (by exact (hb.alloc ha _).alloc yV _)⟩,by simp [intOf];try omega⟩;rw [HT.o,HX.o];exact OwnE.snoc hown1
  ·obtain rfl:k=f.length:=yY;obtain ⟨A',c',hv⟩:=Q0 HO.o;subst hv;go_wp2_with fail
   go_ret
   refine ⟨_,rfl,?_,hb⟩;have he:=HO.o;rw [List.take_length] at he ⊢;exact he
theorem Q6m (f g:List Tk) (v u:Value) (w:World) (hf:RdT w v f) (hg:RdT w u g) (hl:f.length+g.length≤100000) (hbt:X9 f+X9 g≤1000000):
 Calls Tryz.prog 8 #[v,u] w (F7 31 tkC 3 w (Q9 (f++g))):=by
 obtain ⟨A,c,rfl,_,_⟩:=hf.shape;obtain ⟨A2,c2,rfl,_,_⟩:=hg.shape;have HF:=zW hf;have HG:=zW hg;clear hf hg;go_enter Tryz.func8,Tryz.ntmps8
 go_wp2_with (first
  | (at_builtin;refine V1 rfl (.const (.slice none 0 0)) (.tmp 5) 24 31 rfl Tryz.underlying24 _ tkC 3 32 Z7 rfl yX Q5 K2 w.heap.size _ [] rfl (by exact OwnE.nil) _ f rfl (by exact HF.o) yV yX yQ ?_;intro v1 w1 hc ha hh;have hm:=zW hc;have he:=zW (ha w.heap.size w yQ (Below.refl _ _));have ho:=he.o.size;clear hc ha hh)
  | (at_builtin;refine V1 rfl (.tmp 6) (.tmp 7) 24 31 rfl Tryz.underlying24 _ tkC 3 32 Z7 rfl yX Q5 K2 w.heap.size _ f rfl (by exact hm.o) _ g rfl (by exact RdE.below HG.o he.o yQ) yY yX ho ?_;intro v2 w2 hd hb hi;have hn:=zW hd;have hj:=zW (hb w.heap.size w yQ he.o);have hk:=hj.o.size;clear hd hb hi)
  | (go_at_call 33;refine (Z6m (f++g) _ _ (by exact OwnE.rd Q5 hn.o) (by rw [List.length_append];exact hl) (by rw [K5];exact hbt)).mono ?_;rintro e w3 ⟨v3,rfl,hown3,hb3⟩))
 go_ret
 exact ⟨v3,rfl,Y7 hown3 hk,hj.o.trans (hb3.mono hk)⟩
def M9 (l:List UInt8):List UInt8:=l.takeWhile (fun c=>c != 32)
theorem Z5p (c:UInt8) (r:List UInt8) (h:c=32):M9 (c::r)=[]:=by
 subst h;rfl
theorem Z5o (c:UInt8) (r:List UInt8) (h:(c != 32)=true):M9 (c::r)=c::M9 r:=by
 rw [M9,List.takeWhile_cons,if_pos h];rfl
theorem B5 (s:ByteArray) (w:World) (hs:s.size≤1000000):
 Calls Tryz.prog 36 #[.string s] w fun e w'=>e=.returned (.string ⟨(M9 s.data.toList).toArray⟩)∧w=w':=by
 go_enter Tryz.func36,Tryz.ntmps36
 go_wp2
 go_loop [3] (fun i=>∃ k:Nat,k≤s.size∧i=.int .i64 k∧yK (M9 s.data.toList=s.data.toList.take k++M9 (s.data.toList.drop k))) (fun i=>s.size - (intOf i).toNat)
 case atStart=>exact ⟨0,yY,rfl,rfl⟩
 case round=>
  obtain ⟨k,hk,rfl,HR⟩:=hrel;by_cases hlt:k < s.size
  ·have hl:k < s.data.toList.length:=(by rw [←Lib.size_eq];exact hlt);have hd:s[k].toNat < 256:=s[k].toNat_lt;have HD:=zW (show s.data.toList.drop k=s[k]::s.data.toList.drop (k+1) from List.drop_eq_getElem_cons hl);have HK:=zW (show s.data.toList.take (k+1)=s.data.toList.take k++[s[k]] from List.take_succ_eq_append_getElem hl);by_cases hc:s[k].toNat=32
   ·have ht:((s[k].toNat:Int)==32)=true:=yV;have ha:s[k]=32:=UInt8.toNat_inj.1 hc;have hb:=zW ha;clear hc ha;go_wp2_with fail
    go_ret
    have hj:=HR.o;rw [HD.o,Z5p _ _ hb.o,List.append_nil] at hj;refine ⟨Q4w ?_,rfl⟩;rw [hj];show Value.string (s.extract 0 k)=_;rw [Lib.extract_eq,List.drop_zero,Nat.sub_zero]
   ·have ht:((s[k].toNat:Int)==32)=false:=yV;have ha:(s[k] != 32)=true:=by
     rw [bne_iff_ne];intro h;rw [h] at hc;exact hc rfl
    have hb:=zW ha;clear hc ha;go_wp2_with fail
    refine ⟨⟨k+1,yY,by go_num,?_⟩,by simp [intOf];try omega⟩;have hj:=HR.o;show _=_;rw [hj,HD.o,HK.o,List.append_assoc,Z5o _ _ hb.o];rfl
  ·have hz:s.data.toList.drop k=[]:=List.drop_of_length_le (by rw [←Lib.size_eq];omega);have he:s.data.toList.take k=s.data.toList:=List.take_of_length_le (by rw [←Lib.size_eq];omega);go_wp2_with fail
   go_ret
   have hj:=HR.o;rw [hz,he] at hj;refine ⟨Q4w ?_,rfl⟩;rw [hj];show Value.string s=.string ⟨(s.data.toList++[]).toArray⟩;rw [List.append_nil,Lib.mk_data]
theorem V1i {P:Program} {w:World} {α:Type} (t ty e:TypeId) (ht:P.underlying t=some (.slice e)) (z:Value) (f:α→List Value) (size bytes:Nat)
 (hinfo:(P.info? e).map (fun i=>(i.zero,i.size,i.bytes))=some (some z,size,bytes)) (hzs:z.cells.size=size) (hsz:0 < size) (hm:∀ x,(f x).length=size) (h1:∀ x,∀ u∈f x,u.oneCell'=true)
 (base:Nat) (v:Value) (l:List α) (hown:w.ownsRow base e size v l.length (l.flatMap f)) (v2:Value) (l2:List α) (hrd:RdE f size w v2 l2)
 (hbytes:(l.length+l2.length) * bytes≤140737488355328) (hb1:1≤bytes) (hbase:base≤w.heap.size):
 ∃ v' w',(Builtin.append_ #[t,t] ty #[v,v2]).run P w=.ok v' w'∧w'.ownsRow base e size v' (l++l2).length ((l++l2).flatMap f)∧(∀ B W,B≤base→Below B W w→Below B W w')∧w.grownBy w' v.ownBlock∧
  (v'.ownBlock=v.ownBlock∨v'.ownBlock=some w.heap.size):=by
 obtain ⟨i,hi,hz,hd,hl⟩:=info_parts hinfo;have h2:l.length+l2.length≤140737488355328:=Nat.le_trans (Nat.le_mul_of_pos_right _ hb1) hbytes;obtain ⟨A,c,hw,hc,hn,ha⟩:=hrd;subst hw;rcases A with _ | ad
 ·have ho:=hn rfl;have hv:l2=[]:=List.eq_nil_of_length_eq_zero yY;subst hv ho;exact ⟨v,w,run_append_owned_none (P:=P) (w:=w) base t ty e i size ht hi v l.length _ hown,by simpa using hown,fun _ _ _ hB=>hB,World.grownBy.refl w _,.inl rfl⟩
 ·obtain ⟨v',w',hr,hb,hg,_,hh⟩:=run_append_own_at (P:=P) w base t ty e i z size bytes ht hi hz hd hl hzs hsz v l.length _ hown ad l2.length c (l2.flatMap f) (T7 f size hm l2) (fun j u hj=>by
   have hf:j < l2.length * size:=(by rw [←T7 f size hm l2];exact (List.getElem?_eq_some_iff.1 hj).1);have hs:0 < l2.length:=by
    rcases Nat.eq_zero_or_pos l2.length with h0 | h0
    ·rw [h0] at hf;omega
    ·exact h0
   obtain ⟨b,o',hA,_,hp⟩:=ha hs;injection hA with hA;subst hA;have hq:j / size < l2.length:=Nat.div_lt_of_lt_mul (by rw [Nat.mul_comm];exact hf);have hr:j % size < size:=Nat.mod_lt _ hsz;have hx':l2[j / size]? =some l2[j / size]:=List.getElem?_eq_getElem hq;have he:j / size * size+j % size=j:=(by rw [Nat.mul_comm];exact Nat.div_add_mod j size);have hg:=Q1y f size hm l2 (j / size) (j % size) _ hx' hr;rw [he,hj] at hg;have:=hp (j / size) _ (j % size) u hx' hg.symm;rw [he] at this;rw [Addr.add_lit];exact this) (fun u hu=>by
   obtain ⟨x,hx,hu⟩:=List.mem_flatMap.1 hu;exact h1 x u hu) (by unfold maxLen;omega) hbytes hbase
  refine ⟨v',w',hr,?_,(fun B W hB hW=>hW.grown hg (Nat.le_trans hB hbase) (fun k hk=>Nat.le_trans hB (hown.lt k hk).1)),hg,hh⟩;rw [List.length_append,List.flatMap_append];exact hb
theorem Q8a {P:Program} {o:Oper} {a:Act} {K:Act→World→Prop} {Q:Exit→Act→World→Prop} {w:World} {α:Type} (s x:Operand) (t e:TypeId)
 (ho:o.op=.call { callee:=.builtin .append,args:=#[s,x],argTypes:=#[t,t] })
 (ht:P.underlying t=some (.slice e)) (z:Value) (f:α→List Value) (size bytes:Nat) (hinfo:(P.info? e).map (fun i=>(i.zero,i.size,i.bytes))=some (some z,size,bytes)) (hzs:z.cells.size=size) (hsz:0 < size)
 (hm:∀ x,(f x).length=size) (h1:∀ x,∀ u∈f x,u.oneCell'=true)
 (base:Nat) (v:Value) (l:List α) (hs:a.eval s=v) (hown:w.ownsRow base e size v l.length (l.flatMap f))
 (v2:Value) (l2:List α) (hx:a.eval x=v2) (hrd:RdE f size w v2 l2)
 (hbytes:(l.length+l2.length) * bytes≤140737488355328) (hb1:1≤bytes) (hbase:base≤w.heap.size)
 (h:∀ v' w',w'.ownsRow base e size v' (l++l2).length ((l++l2).flatMap f)→(∀ B W,B≤base→Below B W w→Below B W w')→w.grownBy w' v.ownBlock→(v'.ownBlock=v.ownBlock∨v'.ownBlock=some w.heap.size)→K (a.put o.dst v') w'):o.wp P a w K Q:=by
 obtain ⟨v',w',hr,h2,h3,h4,h5⟩:=V1i (P:=P) t o.type e ht z f size bytes hinfo hzs hsz hm h1 base v l hown v2 l2 hrd hbytes hb1 hbase;unfold Oper.wp execOp;simp only [ho,resolve,invoke,builtin,Sem.run_bind,Sem.run_pure,Result.andThen_ok,List.map_toArray,List.map_cons,List.map_nil,hs,hx,hr];exact h v' w' h2 h3 h4 h5
theorem X1q {P:Program} {ops:Array Oper} {rest:List Oper} {o:Oper} {a:Act} {Q:Exit→Act→World→Prop} {w:World} {α:Type} (hgd:o.guard=none) (s x:Operand) (t e:TypeId)
 (ho:o.op=.call { callee:=.builtin .append,args:=#[s,x],argTypes:=#[t,t] })
 (ht:P.underlying t=some (.slice e)) (z:Value) (f:α→List Value) (size bytes:Nat) (hinfo:(P.info? e).map (fun i=>(i.zero,i.size,i.bytes))=some (some z,size,bytes)) (hzs:z.cells.size=size) (hsz:0 < size)
 (hm:∀ x,(f x).length=size) (h1:∀ x,∀ u∈f x,u.oneCell'=true)
 (base:Nat) (v:Value) (l:List α) (hs:a.eval s=v) (hown:w.ownsRow base e size v l.length (l.flatMap f))
 (v2:Value) (l2:List α) (hx:a.eval x=v2) (hrd:RdE f size w v2 l2)
 (hbytes:(l.length+l2.length) * bytes≤140737488355328) (hb1:1≤bytes) (hbase:base≤w.heap.size)
 (h:∀ v' w',w'.ownsRow base e size v' (l++l2).length ((l++l2).flatMap f)→(∀ B W,B≤base→Below B W w→Below B W w')→w.grownBy w' v.ownBlock→(v'.ownBlock=v.ownBlock∨v'.ownBlock=some w.heap.size)→wpList P ops Q rest (a.put o.dst v') w'):wpList P ops Q (o::rest) a w:=
 wpList_plain hgd fun _ hK=>Q8a s x t e ho ht z f size bytes hinfo hzs hsz hm h1 base v l hs hown v2 l2 hx hrd hbytes hb1 hbase fun v' w' h2 h3 h4 h5=>hK _ _ (h v' w' h2 h3 h4 h5)
theorem T0 {P:Program} {ops:Array Oper} {o:Oper} {a:Act} {K:Act→World→Prop} {Q:Exit→Act→World→Prop} {E:Prop} {w:World} {α:Type} (hgd:o.guard=none) (s x:Operand) (t e:TypeId)
 (ho:o.op=.call { callee:=.builtin .append,args:=#[s,x],argTypes:=#[t,t] })
 (ht:P.underlying t=some (.slice e)) (z:Value) (f:α→List Value) (size bytes:Nat) (hinfo:(P.info? e).map (fun i=>(i.zero,i.size,i.bytes))=some (some z,size,bytes)) (hzs:z.cells.size=size) (hsz:0 < size)
 (hm:∀ x,(f x).length=size) (h1:∀ x,∀ u∈f x,u.oneCell'=true)
 (base:Nat) (v:Value) (l:List α) (hs:a.eval s=v) (hown:w.ownsRow base e size v l.length (l.flatMap f))
 (v2:Value) (l2:List α) (hx:a.eval x=v2) (hrd:RdE f size w v2 l2)
 (hbytes:(l.length+l2.length) * bytes≤140737488355328) (hb1:1≤bytes) (hbase:base≤w.heap.size)
 (h:∀ v' w',w'.ownsRow base e size v' (l++l2).length ((l++l2).flatMap f)→(∀ B W,B≤base→Below B W w→Below B W w')→w.grownBy w' v.ownBlock→(v'.ownBlock=v.ownBlock∨v'.ownBlock=some w.heap.size)→K (a.put o.dst v') w'):
 if Region.wanted o (yielded ops a.tmps)=true then Oper.wp P o a w K Q else E:=by
 have hw:Region.wanted o (yielded ops a.tmps)=true:=(by simp [Region.wanted,hgd]);rw [if_pos hw];exact Q8a s x t e ho ht z f size bytes hinfo hzs hsz hm h1 base v l hs hown v2 l2 hx hrd hbytes hb1 hbase h
section
variable {α:Type} {e:TypeId} {f:α→List Value} {m:Nat} {w w':World} {B:Nat} {v:Value} {l:List α}
theorem Q8 {size n:Nat} {xs:List Value} (h:w.ownsRow B e size v n xs) (hk:∀ k,v.ownBlock=some k→w'.heap[k]? =w.heap[k]?):w'.ownsRow B e size v n xs:=by
 refine ⟨h.1,?_⟩;rcases h.2 with h0 | ⟨g,cap,cur,hv,hbg,hg,rest⟩
 ·exact .inl h0
 ·refine .inr ⟨g,cap,cur,hv,hbg,?_,rest⟩;rw [hk g (by rw [hv];rfl)];exact hg
theorem RdE.take {A:Option Addr} {n c:Nat} (h:RdE f m w (.slice A n c) l) (k:Nat) (hk:k≤l.length):RdE f m w (.slice A k c) (l.take k):=by
 obtain ⟨A',c',hv,hc,hn,hx⟩:=h;injection hv with h1 h2 h3;subst h1 h2 h3;have ha:(l.take k).length=k:=yV;refine ⟨A,c,by rw [ha],yY,hn,fun h0=>?_⟩;obtain ⟨b,o,hA,hb,hd⟩:=hx yY;refine ⟨b,o,hA,hb,fun i x j u hi hj=>hd i x j u ?_ hj⟩;have he:i < k:=(by rw [←ha];exact (List.getElem?_eq_some_iff.1 hi).1);rw [List.getElem?_take_of_lt he] at hi;exact hi
theorem RdE.drop {b o n c:Nat} (h:RdE f m w (.slice (some ⟨b,o,none⟩) n c) l) (k:Nat) (hk:k≤l.length) (A:Option Addr) (hA:k < l.length→A=some ⟨b,o+k * m,none⟩) (hA2:A≠none):
 RdE f m w (.slice A (n - k) (c - k)) (l.drop k):=by
 obtain ⟨A',c',hv,hc,hn,hx⟩:=h;injection hv with h1 h2 h3;subst h1 h2 h3;refine ⟨A,c - k,by rw [List.length_drop],by rw [List.length_drop];omega,fun e=>absurd e hA2,fun h0=>?_⟩;rw [List.length_drop] at h0;obtain ⟨b',o',ha,hb,hd⟩:=hx yY;injection ha with ha;injection ha with e1 e2 _;subst e1 e2;refine ⟨b,o+k * m,hA yY,hb,fun i x j u hi hj=>?_⟩;rw [List.getElem?_drop] at hi;have:=hd (k+i) x j u hi hj;rw [show o+((k+i) * m+j)=o+k * m+(i * m+j) by rw [Nat.add_mul];omega] at this;exact this
end
theorem RdT.one_at (w:World) (g:Nat) (hg:w.heap.size=g) (x:Tk) (t:TypeId):RdT (w.alloc (.cells (tkC x).toArray t)) (.slice (some ⟨g,0,none⟩) 1 1) [x]:=by
 subst hg;refine ⟨some ⟨w.heap.size,0,none⟩,1,rfl,by simp,(fun h=>by cases h),fun _=>⟨w.heap.size,0,rfl,by simp,fun i y j u hi hj=>?_⟩⟩;have ha:i=0:=by
  have:=(List.getElem?_eq_some_iff.1 hi).1;simpa using this
 subst ha;simp at hi;subst hi;have:=F4 w (tkC x) t j u hj;rw [Addr.add_lit] at this;simpa using this
theorem Nums.keepg {w w':World} {g:Nat} {L:List Int} {N:Nat} (h:Nums w g L N) (hk:∀ k,k≤g→w'.heap[k]? =w.heap[k]?):Nums w' g L N:=by
 obtain ⟨v,W0,h1,h2,h3,h4,h5⟩:=h;exact ⟨v,W0,(hk g yQ).trans h1,h2,h3,fun k ha=>(hk k yY).trans (h4 k ha),h5⟩
theorem L8 {w:World} {b:Nat} {v0 v1 v2:Value} {t:TypeId} (h:w.heap[b]? =some (.cells #[v0,v1,v2] t)):
 w.cell? ⟨b,0,none⟩=some v0∧w.cell? ⟨b,1,none⟩=some v1∧w.cell? ⟨b,2,none⟩=some v2∧w.frozen? ⟨b,0,none⟩=false∧w.frozen? ⟨b,1,none⟩=false∧w.frozen? ⟨b,2,none⟩=false:=
 ⟨by rw [cell_of_row _ _ 0 _ _ _ h];rfl,by rw [cell_of_row _ _ 1 _ _ _ h];rfl,by rw [cell_of_row _ _ 2 _ _ _ h];rfl,Y9 h 0,Y9 h 1,Y9 h 2⟩
theorem C5 {w w':World} {g:Nat} {xs:List ByteArray} {t:TypeId} (z:Int) (h0:0≤z) (hz:z < xs.length) (hg:g < w.heap.size) (hb:But g (w.alloc (.cells (xs.map Value.string).toArray t)) w'):
 w'.cell? ⟨w.heap.size,z.toNat,none⟩=some (.string (xs.getD z.toNat ⟨#[]⟩)):=by
 rw [World.cell?_of_block (w:=w.alloc (.cells (xs.map Value.string).toArray t)) (hb.block _ yW (by show w.heap.size≠g;omega))];exact Q1v w w.heap.size rfl xs t z.toNat yY
theorem K1 {w:World} {b:Nat} {cs:Array Value} {t:TypeId} (h:w.heap[b]? =some (.cells cs t)) (j:Nat) (u:Value):(w.setCell ⟨b,j,none⟩ u).heap[b]? =some (.cells (cs.setIfInBounds j u) t):=by
 show (w.heap.modify b _)[b]? =_;rw [Array.getElem?_modify,if_pos rfl,h];rfl
theorem Z7v {w:World} {b:Nat} {v0 v1 v2:Value} {t:TypeId} (h:w.heap[b]? =some (.cells #[v0,v1,v2] t)) (u0 u1 u2:Value):
 (((w.setCell ⟨b,0,none⟩ u0).setCell ⟨b,1,none⟩ u1).setCell ⟨b,2,none⟩ u2).heap[b]? =some (.cells #[u0,u1,u2] t):=
 K1 (K1 (K1 h 0 u0) 1 u1) 2 u2
theorem Q4x {w:World} {b:Nat} (u0 u1 u2:Value) (k:Nat) (h:k≠b):(((w.setCell ⟨b,0,none⟩ u0).setCell ⟨b,1,none⟩ u1).setCell ⟨b,2,none⟩ u2).heap[k]? =w.heap[k]? :=by
 rw [Below.heap_setCell _ _ _ _ h,Below.heap_setCell _ _ _ _ h,Below.heap_setCell _ _ _ _ h]
theorem Y0p {w:World} {b:Nat} (u0 u1 u2:Value):(((w.setCell ⟨b,0,none⟩ u0).setCell ⟨b,1,none⟩ u1).setCell ⟨b,2,none⟩ u2).heap.size=w.heap.size:=by simp [World.setCell]
def X3j (b:Nat) (v:Value):Prop:=∀ k,v.ownBlock=some k→k≠b
def Q2o (v u:Value):Prop:=∀ k,v.ownBlock=some k→u.ownBlock≠some k
structure FR (g b:Nat) (w:World) (fv:Value) (f:List Tk) (L:List Int) (ov:Value) (op:List Tk) (x:Tk) (M:Nat) (wx:World):Prop where
 own:OwnT 31 wx w.heap.size fv f
 ownO:OwnT 31 wx w.heap.size ov op
 apart:Q2o fv ov
 nf:X3j b fv
 no:X3j b ov
 box:wx.heap[b]? =some (.cells #[.int .i64 x.k,.string x.t,.int .i64 x.d] 31)
 but:But g w wx
 num:Nums wx g L M
 gB:g < w.heap.size
 bB:w.heap.size≤b
section
variable {g b:Nat} {w:World} {fv:Value} {f:List Tk} {L:List Int} {ov ov':Value} {op op':List Tk} {x:Tk} {M M':Nat} {wx w':World}
theorem FR.call (h:FR g b w fv f L ov op x M wx) (hb:But g wx w') (hn:Nums w' g L M'):FR g b w fv f L ov op x M' w':=by
 have hg:=h.gB;have ha:=h.bB;refine ⟨Q8 h.own fun k hk=>?_,Q8 h.ownO fun k hk=>?_,h.apart,h.nf,h.no,?_,h.but.trans hb,hn,hg,ha⟩
 ·have:=h.own.lt k hk;exact hb.block k this.2 yY
 ·have:=h.ownO.lt k hk;exact hb.block k this.2 yY
 ·rw [hb.block b (Array.getElem?_eq_some_iff.1 h.box).1 yY];exact h.box
theorem FR.alloc (h:FR g b w fv f L ov op x M wx) (o:Obj):FR g b w fv f L ov op x M (wx.alloc o):=h.call ((But.refl _ _).alloc o) (h.num.alloc o)
theorem FR.drew (h:FR g b w fv f L ov op x M wx):FR g b w fv f L ov op x M wx.drew:=h.call ((But.refl g wx).drewN 1) (h.num.keepg fun _ _=>rfl)
theorem FR.set3 (h:FR g b w fv f L ov op x M wx) (y:Tk):FR g b w fv f L ov op y M (((wx.setCell ⟨b,0,none⟩ (.int .i64 y.k)).setCell ⟨b,1,none⟩ (.string y.t)).setCell ⟨b,2,none⟩ (.int .i64 y.d)):=by
 have hg:=h.gB;have ha:=h.bB;refine ⟨Q8 h.own fun k hk=>Q4x _ _ _ _ (h.nf k hk),Q8 h.ownO fun k hk=>Q4x _ _ _ _ (h.no k hk),h.apart,h.nf,h.no,Z7v h.box _ _ _,?_,h.num.keepg fun k hk=>Q4x _ _ _ _ yY,hg,ha⟩;exact ⟨h.but.os,h.but.tape,h.but.output,by rw [Y0p];exact h.but.size,fun k hk hn=>(Q4x _ _ _ _ yY).trans (h.but.block k hk hn)⟩
theorem FR.push (h:FR g b w fv f L ov op x M wx) (hown:OwnT 31 w' w.heap.size ov' op') (hgr:wx.grownBy w' ov.ownBlock) (hat:ov'.ownBlock=ov.ownBlock∨ov'.ownBlock=some wx.heap.size):FR g b w fv f L ov' op' x M w':=by
 have hg:=h.gB;have ha:=h.bB;have hb:=(Array.getElem?_eq_some_iff.1 h.box).1;have hc:=h.but.size;have hO:=h.ownO.lt;refine ⟨Q8 h.own fun k hk=>hgr.block k (h.own.lt k hk).2 (fun e=>h.apart k hk e.symm),hown,fun k hk e=>?_,h.nf,fun k hk=>?_,?_,?_,h.num.keepg fun k hk=>?_,hg,ha⟩
 ·rcases hat with hat | hat
  ·rw [hat] at e;exact h.apart k hk e
  ·rw [hat] at e;injection e with e;have:=(h.own.lt k hk).2;omega
 ·rcases hat with hat | hat
  ·rw [hat] at hk;exact h.no k hk
  ·rw [hat] at hk;injection hk with hk;omega
 ·rw [hgr.block b hb (fun e=>h.no b e.symm rfl)];exact h.box
 ·exact ⟨hgr.os.trans h.but.os,hgr.tape.trans h.but.tape,hgr.output.trans h.but.output,Nat.le_trans h.but.size hgr.size,fun k hk hn=>(hgr.block k yY (fun e=>by have:=(hO k e.symm).1;omega)).trans (h.but.block k hk hn)⟩
 ·exact hgr.block k yY (fun e=>by have:=(hO k e.symm).1;omega)
theorem FR.fresh (h:FR g b w fv f L ov op x M wx) (hb:Below wx.heap.size wx w') (hown:OwnT 31 w' wx.heap.size ov' op'):FR g b w fv f L ov' op' x M w':=by
 have hg:=h.gB;have ha:=h.bB;have hc:=(Array.getElem?_eq_some_iff.1 h.box).1;have hd:=h.but.size;have hO:=hown.lt;refine ⟨Q8 h.own fun k hk=>hb.block k (h.own.lt k hk).2,Y7 hown hd,fun k hk e=>?_,h.nf,fun k hk=>?_,?_,?_,h.num.keepg fun k hk=>hb.block k yY,hg,ha⟩
 ·have:=(h.own.lt k hk).2;have:=(hO k e).1;omega
 ·have:=(hO k hk).1;omega
 ·rw [hb.block b hc];exact h.box
 ·exact ⟨hb.os.trans h.but.os,hb.tape.trans h.but.tape,hb.output.trans h.but.output,Nat.le_trans h.but.size hb.size,fun k hk hn=>(hb.block k yY).trans (h.but.block k hk hn)⟩
end
def Y0x (out:List Tk):Prop:=∀ y,out.getLast? =some y→y.k≠1
theorem Q0d {a:ByteArray} (h:a.size=0):a=⟨#[]⟩:=by
 apply R7;rw [Lib.size_eq] at h;exact List.eq_nil_of_length_eq_zero h
theorem Q9o (a:ByteArray):a++⟨#[]⟩=a:=by apply R7;simp
theorem Q4k (a:ByteArray):(⟨#[]⟩:ByteArray)++a=a:=by apply R7;simp
theorem X8h (a b c:ByteArray):a++b++c=a++(b++c):=by apply R7;simp
theorem Q6r (out:List Tk) (t:ByteArray) (d:Int) (h:Y0x out) (h0:t.size≠0):X3 out ⟨1,t,d⟩=out++[⟨1,t,0⟩]:=by
 rcases List.eq_nil_or_concat out with rfl | ⟨o,y,rfl⟩
 ·exact V7 ⟨1,t,d⟩ rfl h0
 ·rw [List.concat_eq_append] at h ⊢;exact D1 o y ⟨1,t,d⟩ rfl h0 (h y yW)
theorem T3 (out:List Tk) (t:ByteArray) (d:Int) (h0:t.size=0):X3 out ⟨1,t,d⟩=out:=G1 out ⟨1,t,d⟩ rfl h0
theorem X7s (out:List Tk) (a b:ByteArray) (d d' d'':Int):X3 (X3 out ⟨1,a,d⟩) ⟨1,b,d'⟩=X3 out ⟨1,a++b,d''⟩:=by
 by_cases ha:a.size=0
 ·rw [T3 _ _ _ ha,Q0d ha,Q4k];by_cases hb:b.size=0
  ·rw [T3 _ _ _ hb,T3 _ _ _ hb]
  ·rcases List.eq_nil_or_concat out with rfl | ⟨o,y,rfl⟩
   ·rw [V7 ⟨1,b,d'⟩ rfl hb,V7 ⟨1,b,d''⟩ rfl hb]
   ·by_cases hy:y.k=1
    ·rw [List.concat_eq_append,J3 o y ⟨1,b,d'⟩ rfl hb hy,J3 o y ⟨1,b,d''⟩ rfl hb hy]
    ·rw [List.concat_eq_append,D1 o y ⟨1,b,d'⟩ rfl hb hy,D1 o y ⟨1,b,d''⟩ rfl hb hy]
 ·have hc:(a++b).size≠0:=(by rw [ByteArray.size_append];omega);have key:∀ o z,X3 (o++[⟨1,z,0⟩]) ⟨1,b,d'⟩=o++[⟨1,z++b,0⟩]:=by
   intro o z;by_cases hb:b.size=0
   ·rw [T3 _ _ _ hb,Q0d hb,Q9o]
   ·rw [J3 o ⟨1,z,0⟩ ⟨1,b,d'⟩ rfl hb rfl]
  rcases List.eq_nil_or_concat out with rfl | ⟨o,y,rfl⟩
  ·rw [V7 ⟨1,a,d⟩ rfl ha,V7 ⟨1,a++b,d''⟩ rfl hc];exact key [] a
  ·rw [List.concat_eq_append];by_cases hy:y.k=1
   ·rw [J3 o y ⟨1,a,d⟩ rfl ha hy,J3 o y ⟨1,a++b,d''⟩ rfl hc hy,key,X8h]
   ·rw [D1 o y ⟨1,a,d⟩ rfl ha hy,D1 o y ⟨1,a++b,d''⟩ rfl hc hy,key]
theorem X1n:(Tryz.prog.info? 5).map (fun i=>(i.zero,i.size,i.bytes))=some (some (.int .u8 0),1,1):=by kernel_rfl
theorem H7 (a b:ByteArray):Go.Lib.strCells a++Go.Lib.strCells b=Go.Lib.strCells (a++b):=by
 unfold Go.Lib.strCells;simp
theorem O6 {w:World} {base:Nat} {e:TypeId} {A:Option Addr} {n c:Nat} (s:ByteArray) (src dst:TypeId) (hs:Tryz.prog.underlying src=some (.slice e)) (he:Tryz.prog.underlying e=some (.int .u8)) (hd:Tryz.prog.underlying dst=some .string)
 (h:w.ownsRow base e 1 (.slice A n c) n (Go.Lib.strCells s)) (hn:n=s.size) (h0:0 < n):(convert src dst (.slice A n c)).run Tryz.prog w=.ok (.string s) w:=by
 obtain ⟨g,c',hv,_⟩:=X6u h h0;injection hv with h1 _ h3;subst h1 h3;have hl:n=s.data.toList.length:=(by rw [hn,Lib.size_eq]);have:=run_convert_bytes_back (P:=Tryz.prog) w src dst e ⟨g,0,none⟩ c s.data.toList hs he hd (fun j hj=>by
  have hc:=h.cells (g:=g) rfl j (.int .u8 (s.data.toList[j].toNat:Int)) (by
   unfold Go.Lib.strCells;rw [List.getElem?_map,List.getElem?_eq_getElem hj];rfl)
  exact hc)
 rw [←hl] at this;exact this
theorem Z6p (l:List Tk) (v u:Value) (w:World) (h1:RdT w v l) (h2:RdT w u l) (hl:l.length≤1000000):
 Calls Tryz.prog 16 #[v,u] w (Z7j w (.bool true)):=by
 obtain ⟨A,c,rfl,_,_⟩:=h1.shape;obtain ⟨A2,c2,rfl,_,_⟩:=h2.shape;have H1:=zW h1;have H2:=zW h2;clear h1 h2;go_enter Tryz.func16,Tryz.ntmps16
 go_wp2_with fail
 go_loopw [13] (fun i wr=>∃ k nq:Nat,k≤l.length∧i=.int .i64 k∧wr=w.drewN nq) (fun i _=>l.length - (intOf i).toNat)
 case atStart=>exact ⟨0,0,yY,rfl,rfl⟩
 case round=>
  obtain ⟨k,nq,hk,rfl,rfl⟩:=hrel;by_cases hkl:k < l.length
  ·obtain ⟨b,o,rfl,hb,q1,q2,q3⟩:=RdT.at_ H1.o k hkl;obtain ⟨b2,o2,rfl,ha,r1,r2,r3⟩:=RdT.at_ H2.o k hkl;generalize l[k]=x at q1 q2 q3 r1 r2 r3;obtain ⟨xk,xt,xd⟩:=x;simp only at q1 q2 q3 r1 r2 r3;go_wp2_with fail
   go_quiet (fail)
   go_wp2_with fail
   exact ⟨⟨k+1,_,yY,by go_num,rfl⟩,by simp [intOf];try omega⟩
  ·obtain rfl:k=l.length:=yY;go_wp2_with fail
   go_ret
   exact ⟨rfl,nq,rfl⟩
end Go.Proofs.YtfkojnofbpdjdaaGreatDoor
namespace Go.Proofs.YtfkojnofbpdjdaaGreatDoor
def wdI (x:Tk):Nat:=if x.k=1 then x.t.size else 1
def X2:List Tk→Nat
 | []=>0
 | x::f=>wdI x+X2 f
theorem Q0q:∀ (f g:List Tk),X2 (f++g)=X2 f+X2 g
 | [],g=>by simp [X2]
 | x::f,g=>by rw [List.cons_append,X2,X2,Q0q f g];omega
theorem M0 (f:List Tk) (k:Nat) (h:k < f.length):X2 (f.take (k+1))=X2 (f.take k)+wdI f[k]:=by
 rw [List.take_succ_eq_append_getElem h,Q0q];simp [X2]
theorem Q4q (f:List Tk) (k:Nat):X2 (f.take k)≤X2 f:=by
 have h:=Q0q (f.take k) (f.drop k);rw [List.take_append_drop] at h;omega
def byI (x:Tk):List UInt8:=if x.k=1 then x.t.data.toList else if x.k=5 then [255] else []
def plI (f:List Tk):List UInt8:=f.flatMap byI
def plS (f:List Tk):ByteArray:=⟨(plI f).toArray⟩
theorem X6x (f:List Tk) (k:Nat) (h:k < f.length):plI (f.take (k+1))=plI (f.take k)++byI f[k]:=by
 unfold plI;rw [List.take_succ_eq_append_getElem h,List.flatMap_append];simp
theorem Y2f (f g:List Tk):plI (f++g)=plI f++plI g:=by simp [plI]
theorem V3b (x:Tk):(byI x).length≤wdI x:=by
 unfold byI wdI;split
 ·simp
 ·split<;>simp
theorem X0p:∀ f:List Tk,(plI f).length≤X2 f
 | []=>by simp [plI,X2]
 | x::f=>by
   have h:=X0p f;have h2:=V3b x;rw [show x::f=[x]++f from rfl,Y2f,Q0q,List.length_append];have e:plI [x]=byI x:=(by simp [plI]);have e2:X2 [x]=wdI x:=(by simp [X2]);rw [e,e2];omega
theorem Q6g (f:List Tk):(plS f).size=(plI f).length:=by
 show (plI f).toArray.size=_;simp
theorem V0q (f:List Tk) (k:Nat) (h:k < f.length) (hk:f[k].k=1):plS (f.take k)++f[k].t=plS (f.take (k+1)):=by
 apply ByteArray.ext;rw [ByteArray.data_append];show (plI (f.take k)).toArray++f[k].t.data=(plI (f.take (k+1))).toArray;rw [X6x f k h];unfold byI;rw [if_pos hk];apply Array.ext';simp
theorem V0p (f:List Tk) (k:Nat) (h:k < f.length) (hk:f[k].k=5):plS (f.take k)++⟨#[255]⟩=plS (f.take (k+1)):=by
 apply ByteArray.ext;rw [ByteArray.data_append];show (plI (f.take k)).toArray++#[255]=(plI (f.take (k+1))).toArray;rw [X6x f k h];unfold byI;rw [if_neg yY,if_pos hk];apply Array.ext';simp
theorem V0o (f:List Tk) (k:Nat) (h:k < f.length) (h1:f[k].k≠1) (h5:f[k].k≠5):plS (f.take k)=plS (f.take (k+1)):=by
 unfold plS;rw [X6x f k h];unfold byI;rw [if_neg h1,if_neg h5,List.append_nil]
def pcI (x:Tk) (a p q:Nat):List Tk:=
 if x.k≠1 then (if p≤a∧a < q then [x] else [])
 else if max p a - a < min q (a+x.t.size) - a then [⟨1,x.t.extract (max p a - a) (min q (a+x.t.size) - a),x.d⟩] else []
def slI:List Tk→Nat→Nat→Nat→List Tk
 | [],_,_,_=>[]
 | x::f,a,p,q=>pcI x a p q++slI f (a+wdI x) p q
theorem Z3m (p q:Nat):∀ (f g:List Tk) (a:Nat),slI (f++g) a p q=slI f a p q++slI g (a+X2 f) p q
 | [],g,a=>by simp [slI,X2]
 | x::f,g,a=>by
   rw [List.cons_append,slI,slI,Z3m p q f g,X2,List.append_assoc,Nat.add_assoc]
theorem Y7k (f:List Tk) (p q k:Nat) (h:k < f.length):slI (f.take (k+1)) 0 p q=slI (f.take k) 0 p q++pcI f[k] (X2 (f.take k)) p q:=by
 rw [List.take_succ_eq_append_getElem h,Z3m,Nat.zero_add];congr 1;simp [slI]
theorem Z2s (x:Tk) (a p q:Nat):(pcI x a p q).length≤1:=by
 unfold pcI;split
 ·split<;>simp
 ·split<;>simp
theorem X4t:∀ (f:List Tk) (a p q:Nat),(slI f a p q).length≤f.length
 | [],_,_,_=>yQ
 | x::f,a,p,q=>by
   rw [slI,List.length_append,List.length_cons];have h1:=Z2s x a p q;have h2:=X4t f (a+wdI x) p q;omega
def psI (x:Tk):List (Bool×Bool):=if x.k=1 then List.replicate x.t.size (true,false) else if x.k=5 then [(true,false)] else if x.k=3 then [(false,true)] else [(false,false)]
def G8 (f:List Tk):List (Bool×Bool):=f.flatMap psI
def clP:List (Bool×Bool)→Nat
 | []=>0
 | x::ps=>if x.2=true then clP ps+1 else 0
def J6:List (Bool×Bool)→Nat→Nat
 | ps,0=>clP ps
 | [],_+1=>0
 | x::ps,o+1=>J6 ps (if x.1=true then o else o+1)+1
def X6y (f:List Tk) (o:Int):Int:=if o < 0∨((plI f).length:Int) < o then -1 else (J6 (G8 f) o.toNat:Nat)
theorem I8 (f g:List Tk):G8 (f++g)=G8 f++G8 g:=by simp [G8]
theorem P5 (x:Tk):G8 [x]=psI x:=by simp [G8]
theorem Z2x (x:Tk):(psI x).length=wdI x:=by
 unfold psI wdI;split
 ·simp
 ·split
  ·rfl
  ·split<;>rfl
theorem Q0t:∀ f:List Tk,(G8 f).length=X2 f
 | []=>rfl
 | x::f=>by
   rw [show x::f=[x]++f from rfl,I8,P5,List.length_append,Z2x,Q0t f,Q0q];simp [X2]
theorem V0s (a b:ByteArray) (k1 k2 d:Int) (h1:k1=1) (h2:k2=1) (d1 d2:Int):psI ⟨1,a++b,d⟩=psI ⟨k1,a,d1⟩++psI ⟨k2,b,d2⟩:=by
 unfold psI;subst h1 h2;simp only [if_true];rw [ByteArray.size_append,List.replicate_append_replicate]
theorem Z6a (out:List Tk) (x:Tk):G8 (X3 out x)=G8 out++psI x:=by
 by_cases h:x.k=1
 ·by_cases h2:x.t.size=0
  ·rw [G1 out x h h2];have:psI x=[]:=(by unfold psI;rw [if_pos h,h2];rfl);rw [this,List.append_nil]
  ·have hx:psI ⟨1,x.t,0⟩=psI x:=(by unfold psI;rw [if_pos rfl,if_pos h]);rcases List.eq_nil_or_concat out with rfl | ⟨l,y,rfl⟩
   ·rw [V7 x h h2,P5,hx];rfl
   ·rw [List.concat_eq_append];by_cases hy:y.k=1
    ·rw [J3 l y x h h2 hy,I8,I8,P5,P5,V0s y.t x.t y.k x.k 0 hy h y.d x.d,List.append_assoc]
    ·rw [D1 l y x h h2 hy,I8,P5,hx]
 ·rw [K6 out x h,I8,P5]
theorem Y0d:∀ (f out:List Tk),G8 (f.foldl X3 out)=G8 out++G8 f
 | [],out=>by simp [G8]
 | x::f,out=>by
   rw [List.foldl_cons,Y0d f,Z6a,show x::f=[x]++f from rfl,I8 [x] f,P5,List.append_assoc]
theorem Q7q (f:List Tk):G8 (Q9 f)=G8 f:=by
 unfold Q9;rw [Y0d];rfl
def Q4g (ps:List (Bool×Bool)):Nat:=(ps.filter (·.1)).length
theorem Y3x (a b:List (Bool×Bool)):Q4g (a++b)=Q4g a+Q4g b:=by simp [Q4g]
theorem X9h (x:Tk):Q4g (psI x)=(byI x).length:=by
 unfold Q4g psI byI;split
 ·rw [List.filter_eq_self.2 (by intro y hy;rw [List.eq_of_mem_replicate hy])];simp
 ·split
  ·rfl
  ·split<;>rfl
theorem X5f:∀ f:List Tk,Q4g (G8 f)=(plI f).length
 | []=>rfl
 | x::f=>by
   rw [show x::f=[x]++f from rfl,I8,P5,Y3x,X9h,X5f f,Y2f,List.length_append];congr 1;simp [plI]
end Go.Proofs.YtfkojnofbpdjdaaGreatDoor
namespace Go.Proofs.YtfkojnofbpdjdaaGreatDoor
open Go.RowKit
def b2n (p:Nat→Bool) (i:Nat):Nat:=if p i=true then 1 else 0
theorem I3 (p:Nat→Bool) (i:Nat):b2n p i≤1:=by unfold b2n;split<;>omega
def F8 (p:Nat→Bool) (k:Nat):Nat:=b2n p (8 * k)+2 * b2n p (8 * k+1)+4 * b2n p (8 * k+2)+8 * b2n p (8 * k+3)+16 * b2n p (8 * k+4)+32 * b2n p (8 * k+5)+64 * b2n p (8 * k+6)+128 * b2n p (8 * k+7)
theorem X9b (p:Nat→Bool) (k:Nat):F8 p k < 256:=by
 have h0:=I3 p (8 * k);have h1:=I3 p (8 * k+1);have h2:=I3 p (8 * k+2);have h3:=I3 p (8 * k+3);have h4:=I3 p (8 * k+4);have h5:=I3 p (8 * k+5);have h6:=I3 p (8 * k+6);have h7:=I3 p (8 * k+7);unfold F8;omega
theorem Y8f (p:Nat→Bool) (k j:Nat) (hj:j < 8):F8 p k / 2 ^ j % 2=b2n p (8 * k+j):=by
 have h0:=I3 p (8 * k);have h1:=I3 p (8 * k+1);have h2:=I3 p (8 * k+2);have h3:=I3 p (8 * k+3);have h4:=I3 p (8 * k+4);have h5:=I3 p (8 * k+5);have h6:=I3 p (8 * k+6);have h7:=I3 p (8 * k+7);unfold F8;rcases (show j=0∨j=1∨j=2∨j=3∨j=4∨j=5∨j=6∨j=7 by omega) with rfl | rfl | rfl | rfl | rfl | rfl | rfl | rfl
 all_goals simp only [Nat.add_zero,show (2:Nat) ^ 0=1 from rfl,show (2:Nat) ^ 1=2 from rfl,show (2:Nat) ^ 2=4 from rfl,show (2:Nat) ^ 3=8 from rfl,show (2:Nat) ^ 4=16 from rfl,show (2:Nat) ^ 5=32 from rfl,show (2:Nat) ^ 6=64 from rfl,show (2:Nat) ^ 7=128 from rfl]
 all_goals omega
/-! ### What the machine's operations do to bits: all bytes tried -/
theorem V2o:∀ v:Fin 256,∀ j:Fin 8,(bits BinOp.and IntKind.u8 (((v.val:Nat):Int) / 2 ^ j.val) 1==1)=(v.val / 2 ^ j.val % 2==1):=by decide+kernel
theorem V1v (p:Nat→Bool) (b:Nat):(bits BinOp.and IntKind.u8 ((F8 p (b / 8):Nat) / 2 ^ (b % 8)) 1==1)=p b:=by
 have h:=V2o ⟨F8 p (b / 8),X9b _ _⟩ ⟨b % 8,Nat.mod_lt _ yX⟩;simp only at h;rw [h,Y8f p (b / 8) (b % 8) (Nat.mod_lt _ yX),show 8 * (b / 8)+b % 8=b by omega];unfold b2n;cases p b<;>rfl
def V6t (p:Nat→Bool) (b:Nat):Nat→Bool:=fun n=>n==b || p n
def X7l (p:Nat→Bool):List Value:=(List.range 32).map fun k=>.int .u8 (F8 p k:Nat)
theorem F3 (p:Nat→Bool):(X7l p).length=32:=by simp [X7l]
theorem X1f (p:Nat→Bool) (k:Nat) (h:k < 32):(X7l p)[k]? =some (.int .u8 (F8 p k:Nat)):=by simp [X7l,h]
theorem V1l (p q:Nat→Bool) (k:Nat) (hk:k < 32) (h:∀ i,i < 32→i≠k→F8 q i=F8 p i):(X7l p).toArray.setIfInBounds k (.int .u8 (F8 q k:Nat))=(X7l q).toArray:=by
 rw [List.setIfInBounds_toArray];congr 1;refine List.ext_getElem? fun i=>?_;by_cases hi:i < 32
 ·by_cases hik:i=k
  ·subst hik;rw [List.getElem?_set_self (by rw [F3];exact hk),X1f q i hi]
  ·rw [List.getElem?_set_ne (fun e=>hik e.symm),X1f p i hi,X1f q i hi,h i hi hik]
 ·rw [List.getElem?_eq_none (by rw [List.length_set,F3];omega),List.getElem?_eq_none (by rw [F3];omega)]
def noP:Nat→Bool:=fun _=>false
structure At where
 p:Nat→Bool
 mn:Int
 many:Bool
def atC (x:At):List Value:=X7l x.p++[.int .i64 x.mn,.bool x.many]
theorem E3 (x:At):(atC x).length=34:=by simp [atC,F3]
theorem V2r (x:At) (k:Nat) (h:k < 32):(atC x)[k]? =some (.int .u8 (F8 x.p k:Nat)):=by
 unfold atC;rw [List.getElem?_append_left (by rw [F3];exact h),X1f x.p k h]
theorem V6u (x:At):(atC x)[32]? =some (.int .i64 x.mn):=by
 unfold atC;rw [List.getElem?_append_right (by rw [F3];omega),F3];rfl
theorem Z7o (x:At):(atC x)[33]? =some (.bool x.many):=by
 unfold atC;rw [List.getElem?_append_right (by rw [F3];omega),F3];rfl
theorem V2s (w:World) (x:At) (t:TypeId) (k:Nat) (v:Value) (h:(atC x)[k]? =some v):(w.alloc (.cells (atC x).toArray t)).cell? ⟨w.heap.size,k,none⟩=some v:=by
 rw [cell_of_row _ _ _ (atC x).toArray t _ (heap_alloc_new w _)];simpa using h
theorem Y1d (x:At) (b:Nat) (w:World) (hb:b < 256):
 Calls Tryz.prog 152 #[.agg (atC x).toArray,.int .u8 b] w fun e w'=>e=.returned (.bool (x.p b))∧Below w.heap.size w w':=by
 have q:=V2s w x 107 (b / 8) _ (V2r x (b / 8) yY);have H:=zW (V1v x.p b);have hv:=X9b x.p (b / 8);generalize F8 x.p (b / 8)=v at q H hv;generalize (atC x).toArray=cs at q ⊢;go_enter Tryz.func152,Tryz.ntmps152
 go_wp2_with fail
 go_ret
 exact ⟨U9 H.o,(Below.refl w.heap.size w).alloc yQ _⟩
theorem V1k (p:Nat→Bool):(X7l p).toArray.all (·.oneCell')=true:=by
 rw [Array.all_eq_true_iff_forall_mem];intro v hv;simp [X7l] at hv;obtain ⟨k,_,rfl⟩:=hv;rfl
theorem X6t (n:Int) (w:World) (h0:0≤n) (h1:n < 256):
 Calls Tryz.prog 97 #[.int .u8 n] w fun e w'=>e=.returned (.int .i64 (Q5k n))∧w=w':=by
 go_enter Tryz.func97,Tryz.ntmps97
 go_wp2
 all_goals (go_ret;refine ⟨X1b ?_,rfl⟩)
 all_goals (try simp only [beq_iff_eq,beq_eq_false_iff_ne] at *)
 all_goals (unfold Q5k;repeat (first | rw [if_pos yY] | rw [if_neg yY]))
def bt (s:ByteArray) (i:Nat):Nat:=(s.data.toList.getD i 0).toNat
theorem Y1b (s:ByteArray) (i:Nat) (h:i < s.size):bt s i=s[i].toNat:=by
 unfold bt;have hl:i < s.data.toList.length:=(by rw [←Lib.size_eq];exact h);rw [List.getD_eq_getElem?_getD,List.getElem?_eq_getElem hl];rfl
theorem Z4v (s:ByteArray) (b:Nat) (w:World):
 Calls Tryz.prog 126 #[.string s,.int .u8 b] w fun e w'=>e=.returned (.int .i64 (Lib.indexByte s.data.toList (b:Int).toNat.toUInt8))∧w=w':=by
 have C:∀ w,Calls Tryz.prog 166 #[.string s,.int .u8 b] w fun e w'=>e=.returned (.int .i64 (Lib.indexByte s.data.toList (b:Int).toNat.toUInt8))∧w=w':=fun w=>by
  go_enter Tryz.func166,Tryz.ntmps166
  go_wp2
  rw [run_callFunc_extern Tryz.func191 yZ yZ yZ (e:=Extern.BytealgIndexByte.indexByte) yZ,Lib.run_indexByteString];simp only [Result.andThen];rw [Oper.upon_value];go_wp2
  go_ret
  exact ⟨rfl,rfl⟩
 have HC:=zW C;clear C;go_enter Tryz.func126,Tryz.ntmps126
 go_wp2_with (go_at_call 166;refine (HC.o _).mono ?_;rintro e w' ⟨rfl,rfl⟩)
 go_ret
 exact ⟨rfl,rfl⟩
theorem Q2v {fn:Func} {p u v:Tmp} {ty:TypeId} (h:fn.results=#[.cell p ty,.tmp u,.tmp v]) (tmps:Array Value) (P:Program) (w:World):
 (results fn tmps).run P w=
   ((asAddr (tmps.getD p undef)).run P w).andThen fun a w₁=>((loadVar ty a).run P w₁).andThen fun x w₂=>.ok (.tuple #[x,tmps.getD u undef,tmps.getD v undef]) w₂:=by
 simp only [results,h];simp [Sem.run_bind,Result.andThen]
def nxF (x:At) (s:ByteArray) (f:Nat→Bool):Nat→Bool
 | 0=>false
 | i+1=>(f i || (x.many && nxF x s f i)) && x.p (bt s i)
def Q0g (x:At) (s:ByteArray) (f:Nat→Bool) (i:Nat):Bool:=nxF x s f i || (decide (x.mn < 1) && f i)
theorem Z7l (x:At) (s:ByteArray) (f:Nat→Bool):Q0g x s f 0=(decide (x.mn < 1) && f 0):=by
 unfold Q0g nxF;rw [Bool.false_or]
theorem V2k (x:At) (s:ByteArray) (f:Nat→Bool) (k:Nat):Q0g x s f (k+1)=((decide (x.mn < 1) && f (k+1)) || (x.p (bt s k) && (f k || (x.many && Q0g x s f k)))):=by
 unfold Q0g;rw [show nxF x s f (k+1)=((f k || (x.many && nxF x s f k)) && x.p (bt s k)) from rfl];cases f k<;>cases x.many<;>cases nxF x s f k<;>cases decide (x.mn < 1)<;>cases f (k+1)<;>cases x.p (bt s k)<;>rfl
def G7 (s:ByteArray):List At→(Nat→Bool)→Nat→Bool
 | [],f=>f
 | x::p,f=>G7 s p (Q0g x s f)
def Z0r:Nat→Bool:=fun i=>i==0
def Q8b:Nat→Bool:=fun _=>true
def Y5g (f:Nat→Bool):Nat→Int
 | 0=>-1
 | n+1=>if f n=true then (n:Int) else Y5g f n
def Y5k (p:List At) (s:ByteArray):Int:=Y5g (G7 s p Z0r) (s.size+1)
def Q2u (p:List At) (s:ByteArray):Bool:=decide (0≤Y5k p s)
def Q2x (p:List At) (s:ByteArray):Bool:=G7 s p Q8b s.size
def inA (x:At) (u:List Nat):Prop:=(u=[]∧x.mn < 1)∨(u≠[]∧(∀ b∈u,x.p b=true)∧(u.length=1∨x.many=true))
def X1s:List At→List Nat→Prop
 | [],u=>u=[]
 | x::p,u=>∃ a b,u=a++b∧inA x a∧X1s p b
theorem Q5y:∀ (p q:List At) (u:List Nat),X1s (p++q) u↔∃ a b,u=a++b∧X1s p a∧X1s q b
 | [], q, u => ⟨fun h => ⟨[], u, rfl, rfl, h⟩, fun ⟨a, b, h1, h2, h3⟩ => by
    have h2':a=[]:=h2;subst h2';rw [h1];exact h3⟩
 | x :: p, q, u => ⟨fun ⟨a, b, h1, h2, h3⟩ => by
    obtain ⟨c,d,h4,h5,h6⟩:=(Q5y p q b).1 h3;exact ⟨a++c,d,by rw [h1,h4,List.append_assoc],⟨a,c,rfl,h2,h5⟩,h6⟩,fun ⟨a,b,h1,⟨c,d,h4,h5,h6⟩,h3⟩=>
    ⟨c,d++b,by rw [h1,h4,List.append_assoc],h5,(Q5y p q (d++b)).2 ⟨d,b,rfl,h6,h3⟩⟩⟩
theorem Z9u (x:At) (u:List Nat):X1s [x] u↔inA x u:=
 ⟨fun ⟨a,b,h1,h2,h3⟩=>by
   have h3':b=[]:=h3;subst h3';rw [h1,List.append_nil];exact h2,fun h=>⟨u,[],by rw [List.append_nil],h,rfl⟩⟩
theorem V3x (x:At) (u:List Nat):inA x u.reverse↔inA x u:=by
 unfold inA;rw [List.length_reverse];have e:u.reverse=[]↔u=[]:=List.reverse_eq_nil_iff;constructor
 ·rintro (h | ⟨h1,h2,h3⟩)
  ·exact .inl ⟨e.1 h.1,h.2⟩
  ·exact .inr ⟨fun h=>h1 (e.2 h),fun b hb=>h2 b (List.mem_reverse.2 hb),h3⟩
 ·rintro (h | ⟨h1,h2,h3⟩)
  ·exact .inl ⟨e.2 h.1,h.2⟩
  ·exact .inr ⟨fun h=>h1 (e.1 h),fun b hb=>h2 b (List.mem_reverse.1 hb),h3⟩
theorem Q4p:∀ (p:List At) (u:List Nat),X1s p u→X1s p.reverse u.reverse
 | [],u,h=>by
   have h':u=[]:=h;subst h';rfl
 | x::p,u,⟨a,b,h1,h2,h3⟩=>by
   rw [List.reverse_cons,h1,List.reverse_append];exact (Q5y _ _ _).2 ⟨_,_,rfl,Q4p p b h3,(Z9u x _).2 ((V3x x a).2 h2)⟩
theorem Y5e (p:List At) (u:List Nat):X1s p.reverse u.reverse↔X1s p u:=
 ⟨fun h=>by
   have:=Q4p _ _ h;rwa [List.reverse_reverse,List.reverse_reverse] at this,Q4p p u⟩
/-! ### Places -/
def seg (s:ByteArray) (i n:Nat):List Nat:=((List.range n).drop i).map (bt s)
theorem I9 (s:ByteArray) (i:Nat):seg s i i=[]:=by unfold seg;rw [List.drop_eq_nil_of_le yW];rfl
theorem Q1h (s:ByteArray) (i n:Nat):(seg s i n).length=n - i:=by unfold seg;simp
theorem Q0w (s:ByteArray) (i n:Nat) (h:i≤n):seg s i (n+1)=seg s i n++[bt s n]:=by
 unfold seg;rw [List.range_succ,List.drop_append_of_le_length (by simpa using h),List.map_append];rfl
theorem Y0n (s:ByteArray) (i j n:Nat) (h1:i≤j) (h2:j≤n):seg s i n=seg s i j++seg s j n:=by
 induction n with
 | zero=>
   obtain rfl:j=0:=yY;obtain rfl:i=0:=yY;rw [I9];rfl
 | succ n ih=>
   by_cases hj:j=n+1
   ·subst hj;rw [I9,List.append_nil]
   ·rw [Q0w s i n yY,Q0w s j n yY,ih yY,List.append_assoc]
theorem Z2q (x:At) (s:ByteArray) (f:Nat→Bool):∀ n,nxF x s f n=true↔∃ i,i < n∧f i=true∧(∀ b∈seg s i n,x.p b=true)∧(n - i=1∨x.many=true)
 | 0=>⟨fun h=>absurd h Bool.false_ne_true,fun ⟨i,h,_⟩=>absurd h (Nat.not_lt_zero i)⟩
 | n+1=>by
   rw [show nxF x s f (n+1)=((f n || (x.many && nxF x s f n)) && x.p (bt s n)) from rfl,Bool.and_eq_true,Bool.or_eq_true,Bool.and_eq_true,Z2q x s f n];constructor
   ·rintro ⟨h | ⟨hm,i,h1,h2,h3,h4⟩,hp⟩
    ·refine ⟨n,yY,h,fun b hb=>?_,.inl yY⟩;rw [Q0w s n n yQ,I9] at hb;simp at hb;rw [hb];exact hp
    ·refine ⟨i,yY,h2,fun b hb=>?_,.inr hm⟩;rw [Q0w s i n yY] at hb;rcases List.mem_append.1 hb with hb | hb
     ·exact h3 b hb
     ·simp at hb;rw [hb];exact hp
   ·rintro ⟨i,h1,h2,h3,h4⟩;have hp:x.p (bt s n)=true:=h3 _ (by rw [Q0w s i n yY];exact List.mem_append_right _ yW);refine ⟨?_,hp⟩;by_cases hi:i=n
    ·subst hi;exact .inl h2
    ·have hm:x.many=true:=by
      rcases h4 with h4 | h4
      ·omega
      ·exact h4
     exact .inr ⟨hm,i,yY,h2,fun b hb=>h3 b (by rw [Q0w s i n yY];exact List.mem_append_left _ hb),.inr hm⟩
theorem Y3j (x:At) (s:ByteArray) (f:Nat→Bool) (n:Nat):Q0g x s f n=true↔∃ i,i≤n∧f i=true∧inA x (seg s i n):=by
 unfold Q0g;rw [Bool.or_eq_true,Bool.and_eq_true,decide_eq_true_iff,Z2q x s f n];constructor
 ·rintro (⟨i,h1,h2,h3,h4⟩ | ⟨h1,h2⟩)
  ·refine ⟨i,yY,h2,.inr ⟨?_,h3,?_⟩⟩
   ·intro e;have:=Q1h s i n;rw [e] at this;simp at this;omega
   ·rw [Q1h];exact h4
  ·exact ⟨n,yQ,h2,.inl ⟨I9 s n,h1⟩⟩
 ·rintro ⟨i,h1,h2,h3 | ⟨h3,h4,h5⟩⟩
  ·have hi:i=n:=by
    have:=Q1h s i n;rw [h3.1] at this;simp at this;omega
   subst hi;exact .inr ⟨h3.2,h2⟩
  ·rw [Q1h] at h5;refine .inl ⟨i,?_,h2,h4,h5⟩;refine Nat.lt_of_le_of_ne h1 fun e=>h3 ?_;subst e;exact I9 s i
theorem V5t (s:ByteArray) (i n:Nat) (hin:i≤n) (a b:List Nat) (h:seg s i n=a++b):∃ j,i≤j∧j≤n∧seg s i j=a∧seg s j n=b:=by
 have hl:a.length+b.length=n - i:=(by rw [←List.length_append,←h,Q1h]);refine ⟨i+a.length,yY,yY,?_⟩;have h2:=Y0n s i (i+a.length) n yY yY;rw [h] at h2;have h3:a.length=(seg s i (i+a.length)).length:=(by rw [Q1h];omega);obtain ⟨e1,e2⟩:=List.append_inj h2 h3;exact ⟨e1.symm,e2.symm⟩
theorem Q2h (s:ByteArray):∀ (p:List At) (f:Nat→Bool) (n:Nat),G7 s p f n=true↔∃ i,i≤n∧f i=true∧X1s p (seg s i n)
 | [], f, n => ⟨fun h => ⟨n, yQ, h, I9 s n⟩, fun ⟨i, h1, h2, h3⟩ => by
    have h3':seg s i n=[]:=h3;have:i=n:=by
     have:=Q1h s i n;rw [h3'] at this;simp at this;omega
    subst this;exact h2⟩
 | x::p,f,n=>by
   rw [show G7 s (x::p) f n=G7 s p (Q0g x s f) n from rfl,Q2h s p];constructor
   ·rintro ⟨j,h1,h2,h3⟩;obtain ⟨i,h4,h5,h6⟩:=(Y3j x s f j).1 h2;exact ⟨i,yY,h5,_,_,Y0n s i j n h4 h1,h6,h3⟩
   ·rintro ⟨i,h1,h2,a,b,h3,h4,h5⟩;obtain ⟨j,h6,h7,h8,h9⟩:=V5t s i n h1 a b h3;exact ⟨j,h7,(Y3j x s f j).2 ⟨i,h6,h2,by rw [h8];exact h4⟩,by rw [h9];exact h5⟩
theorem Y7o (p:List At) (s:ByteArray):Q2x p s=true↔∃ i,i≤s.size∧X1s p (seg s i s.size):=by
 unfold Q2x;rw [Q2h];exact ⟨fun ⟨i,h1,_,h3⟩=>⟨i,h1,h3⟩,fun ⟨i,h1,h3⟩=>⟨i,h1,rfl,h3⟩⟩
theorem X7r (p:List At) (s:ByteArray) (n:Nat):G7 s p Z0r n=true↔X1s p (seg s 0 n):=by
 rw [Q2h];constructor
 ·rintro ⟨i,_,h2,h3⟩;have:i=0:=(by unfold Z0r at h2;simpa using h2);subst this;exact h3
 ·exact fun h=>⟨0,Nat.zero_le _,rfl,h⟩
theorem X3p (f:Nat→Bool):∀ n,0≤Y5g f n↔∃ i,i < n∧f i=true
 | 0=>⟨fun h=>absurd h (by unfold Y5g;decide),fun ⟨i,h,_⟩=>absurd h (Nat.not_lt_zero i)⟩
 | n+1=>by
   unfold Y5g;by_cases h:f n=true
   ·rw [if_pos h];exact ⟨fun _=>⟨n,yY,h⟩,fun _=>yY⟩
   ·rw [if_neg h,X3p f n];exact ⟨fun ⟨i,h1,h2⟩=>⟨i,yY,h2⟩,fun ⟨i,h1,h2⟩=>⟨i,by
     refine Nat.lt_of_le_of_ne yY fun e=>h ?_;rw [←e];exact h2,h2⟩⟩
theorem Y6d (p:List At) (s:ByteArray):Q2u p s=true↔∃ n,n≤s.size∧X1s p (seg s 0 n):=by
 unfold Q2u Y5k;rw [decide_eq_true_iff,X3p];exact ⟨fun ⟨i,h1,h2⟩=>⟨i,yY,(X7r p s i).1 h2⟩,fun ⟨i,h1,h2⟩=>⟨i,yY,(X7r p s i).2 h2⟩⟩
theorem Y7d {s t:ByteArray} {i n d:Nat} (h:∀ k,i≤k→k < n→bt s k=bt t (k+d)) (hin:i≤n):seg s i n=seg t (i+d) (n+d):=by
 induction n with
 | zero=>
   obtain rfl:i=0:=yY;rw [Nat.zero_add,I9,I9]
 | succ n ih=>
   by_cases hi:i=n+1
   ·subst hi;rw [I9,I9]
   ·rw [Q0w s i n yY,show n+1+d=(n+d)+1 by omega,Q0w t (i+d) (n+d) yY,ih (fun k h1 h2=>h k h1 yY) yY,h n yY yY]
theorem X5c (s:ByteArray) (a b k:Nat) (hk:a+k < b) (hb:b≤s.size):bt (s.extract a b) k=bt s (a+k):=by
 have h1:k < (s.extract a b).size:=(by rw [ByteArray.size_extract];omega);rw [Y1b _ _ h1,Y1b s (a+k) yY];rw [ByteArray.getElem_extract h1]
/-! ### What the statements reckon -/
theorem Z3h {s t:ByteArray} (hst:t.size=s.size) (h:∀ k,k < s.size→bt t k=bt s (s.size - 1 - k)):∀ i n,i≤n→n≤s.size→seg t (s.size - n) (s.size - i)=(seg s i n).reverse:=by
 intro i n hin hn;refine List.ext_getElem? fun k=>?_;by_cases hk:k < n - i
 ·unfold seg;rw [List.getElem?_reverse yV];simp only [List.getElem?_map,List.getElem?_drop,List.length_map,List.length_drop,List.length_range];rw [List.getElem?_range yY,List.getElem?_range yY];simp only [Option.map_some];rw [h _ yY];congr 2;omega
 ·rw [List.getElem?_eq_none (by rw [Q1h];omega),List.getElem?_eq_none (by rw [List.length_reverse,Q1h];omega)]
end Go.Proofs.YtfkojnofbpdjdaaGreatDoor
namespace Go.Proofs.YtfkojnofbpdjdaaGreatDoor
open Go.Lib
theorem Q1z (c:UInt8):∀ l:List UInt8,(∀ b∈l,b≠c)→index l [c]=-1
 | [],_=>rfl
 | b::l,h=>by
   have hb:b≠c:=h b yW;have ih:=Q1z c l (fun x hx=>h x (by simp [hx]));unfold index;simp [List.isPrefixOf,hb.symm,ih]
theorem Q3b (c:UInt8):∀ p l:List UInt8,(∀ b∈p,b≠c)→index (p++c::l) [c]=p.length
 | [],l,_=>by
   unfold index;simp [List.isPrefixOf]
 | b::p,l,h=>by
   have hb:b≠c:=h b yW;have ih:=Q3b c p l (fun x hx=>h x (by simp [hx]));rw [List.cons_append];unfold index;simp [List.isPrefixOf,hb.symm,ih]
theorem Y9l (c:UInt8):∀ l:List UInt8,(∀ b∈l,b≠c)∨∃ p r,l=p++c::r∧∀ b∈p,b≠c
 | []=>.inl yW
 | b::l=>by
   by_cases hb:b=c
   ·exact .inr ⟨[],l,by rw [hb];rfl,by simp⟩
   ·rcases Y9l c l with h | ⟨p,r,rfl,h⟩
    ·refine .inl fun x hx=>?_;rcases List.mem_cons.1 hx with rfl | hx
     ·exact hb
     ·exact h x hx
    ·refine .inr ⟨b::p,r,rfl,fun x hx=>?_⟩;rcases List.mem_cons.1 hx with rfl | hx
     ·exact hb
     ·exact h x hx
end Go.Proofs.YtfkojnofbpdjdaaGreatDoor
namespace Go.Proofs.YtfkojnofbpdjdaaGreatDoor
open Go.RowKit
structure Ru where
 br:Bool
 bf:List At
 af:List At
def ofL (l:List UInt8):ByteArray:=⟨l.toArray⟩
theorem Q3p (l:List UInt8):(ofL l).data.toList=l:=by simp [ofL]
theorem Q8y (s:ByteArray):ofL s.data.toList=s:=by cases s;simp [ofL]
def U5:List Ru→ByteArray→Nat→Bool
 | [],_,_=>false
 | r::rs,s,k=>if (Q2x r.bf (s.extract 0 k) && Q2u r.af (s.extract k s.size))=true then r.br else U5 rs s k
def M6 (rs:List Ru) (s:ByteArray):List Int:=if 1024 < s.size then [] else ((List.range s.size).filter fun k=>decide (0 < k) && U5 rs s k).map fun (k:Nat)=>(k:Int)
theorem Q1e (s:ByteArray) (a b:Nat) (hab:a≤b) (hb:b≤s.size):(s.extract a b).size=b - a:=by
 rw [ByteArray.size_extract];omega
theorem Z8o (p:List At) (s:ByteArray) (i:Nat) (h:i≤s.size):G7 s p Q8b i=Q2x p (s.extract 0 i):=by
 have hz:=Q1e s 0 i (Nat.zero_le _) h;rw [Nat.sub_zero] at hz;rw [Bool.eq_iff_iff,Q2h,Y7o,hz];have e:∀ j,j≤i→seg (s.extract 0 i) j i=seg s j i:=fun j hj=>by
  have:=Y7d (s:=s.extract 0 i) (t:=s) (i:=j) (n:=i) (d:=0) (fun k h1 h2=>by rw [X5c s 0 i k yY h,Nat.zero_add,Nat.add_zero]) hj;simpa using this
 constructor
 ·rintro ⟨j,hj,_,hl⟩;exact ⟨j,hj,by rw [e j hj];exact hl⟩
 ·rintro ⟨j,hj,hl⟩;exact ⟨j,hj,rfl,by rw [←e j hj];exact hl⟩
theorem Z8n (p:List At) {s t:ByteArray} (hst:t.size=s.size) (h:∀ k,k < s.size→bt t k=bt s (s.size - 1 - k)) (k:Nat) (hk:k≤s.size):G7 t p.reverse Q8b (s.size - k)=Q2u p (s.extract k s.size):=by
 have hz:=Q1e s k s.size hk yQ;rw [Bool.eq_iff_iff,Q2h,Y6d,hz];have e:∀ n,n≤s.size - k→seg (s.extract k s.size) 0 n=seg s k (k+n):=fun n hn=>by
  have:=Y7d (s:=s.extract k s.size) (t:=s) (i:=0) (n:=n) (d:=k) (fun j _ h2=>by rw [X5c s k s.size j yY yQ,Nat.add_comm]) (Nat.zero_le _);rw [this,Nat.zero_add,Nat.add_comm n k]
 constructor
 ·rintro ⟨j,hj,_,hl⟩;refine ⟨s.size - k - j,yY,?_⟩;rw [e _ yY,show k+(s.size - k - j)=s.size - j by omega,←Y5e,←Z3h hst h k (s.size - j) yY yY,show s.size - (s.size - j)=j by omega];exact hl
 ·rintro ⟨n,hn,hl⟩;refine ⟨s.size - k - n,yY,rfl,?_⟩;have:=Z3h hst h k (k+n) yY yY;rw [show s.size - (k+n)=s.size - k - n by omega] at this;rw [this,Y5e,←e n hn];exact hl
def Q8o (r:Ru) (s:ByteArray) (k:Nat):Bool:=Q2x r.bf (s.extract 0 k) && Q2u r.af (s.extract k s.size)
def D8 (rs:List Ru) (s:ByteArray) (k:Nat):Bool:=rs.any fun r=>Q8o r s k
theorem Q2q (r:Ru) (rs:List Ru) (s:ByteArray) (k:Nat):U5 (r::rs) s k=if Q8o r s k=true then r.br else U5 rs s k:=rfl
theorem X3l:∀ (rs:List Ru) (s:ByteArray) (k:Nat),D8 rs s k=false→U5 rs s k=false
 | [],_,_,_=>rfl
 | r::rs,s,k,h=>by
   unfold D8 at h;rw [List.any_cons,Bool.or_eq_false_iff] at h;rw [Q2q,if_neg (by rw [h.1];exact Bool.false_ne_true)];exact X3l rs s k h.2
theorem Q8i:∀ (rs qs:List Ru) (s:ByteArray) (k:Nat),U5 (rs++qs) s k=if D8 rs s k=true then U5 rs s k else U5 qs s k
 | [],qs,s,k=>rfl
 | r::rs,qs,s,k=>by
   rw [List.cons_append,Q2q,Q2q];have e:D8 (r::rs) s k=(Q8o r s k || D8 rs s k):=rfl;by_cases h:Q8o r s k=true
   ·rw [if_pos h,if_pos h,if_pos (by rw [e,h];rfl)]
   ·rw [if_neg h,if_neg h,Q8i rs qs s k,e,Bool.not_eq_true] at *;rw [h,Bool.false_or]
theorem Y4c (rs:List Ru) (r:Ru) (s:ByteArray) (k:Nat):U5 (rs++[r]) s k=if D8 rs s k=true then U5 rs s k else (Q8o r s k && r.br):=by
 rw [Q8i];congr 1;rw [Q2q];cases Q8o r s k<;>rfl
theorem Y8r (rs:List Ru) (r:Ru) (s:ByteArray) (k:Nat):D8 (rs++[r]) s k=(D8 rs s k || Q8o r s k):=by
 unfold D8;rw [List.any_append];simp
def Q8l (f:Nat→Bool) (k:Nat):List Int:=((List.range k).filter f).map fun (n:Nat)=>(n:Int)
theorem Q5d (f:Nat→Bool) (k:Nat):Q8l f (k+1)=Q8l f k++if f k=true then [(k:Int)] else []:=by
 unfold Q8l;rw [List.range_succ,List.filter_append,List.map_append];congr 1;by_cases h:f k=true
 ·rw [if_pos h,List.filter_cons_of_pos h];rfl
 ·rw [if_neg h,List.filter_cons_of_neg h];rfl
theorem X4a {f g:Nat→Bool}:∀ {k:Nat},(∀ i,i < k→f i=g i)→Q8l f k=Q8l g k
 | 0,_=>rfl
 | k+1,h=>by rw [Q5d,Q5d,X4a (fun i hi=>h i yY),h k yY]
def inB (rs:List Ru) (s:ByteArray) (k:Nat):Bool:=decide (0 < k) && U5 rs s k
theorem Y3q (rs:List Ru) (s:ByteArray) (h:s.size≤1024):M6 rs s=Q8l (inB rs s) s.size:=by
 unfold M6;rw [if_neg yY];rfl
def X8r (rs:List Ru) (s:ByteArray) (k:Nat):Bool:=decide (0 < k∧k < s.size) && U5 rs s k
theorem Y8c (rs:List Ru) (s:ByteArray) (h:s.size≤1024):Q8l (X8r rs s) (s.size+1)=M6 rs s:=by
 rw [Q5d,if_neg (by unfold X8r;simp),List.append_nil,Y3q rs s h];refine X4a fun i hi=>?_;unfold X8r inB;congr 1;rw [decide_eq_decide];omega
end Go.Proofs.YtfkojnofbpdjdaaGreatDoor
namespace Go.Proofs.YtfkojnofbpdjdaaGreatDoor
theorem Y1f {α:Type} (l1 l2:List α) (a p q:Nat):((l1++l2).take (q - a)).drop (p - a)=(l1.take (q - a)).drop (p - a)++(l2.take (q - (a+l1.length))).drop (p - (a+l1.length)):=by
 rw [List.take_append,List.drop_append,List.length_take];congr 1;rw [show q - a - l1.length=q - (a+l1.length) by omega];by_cases h:q - a < l1.length
 ·rw [show q - (a+l1.length)=0 by omega];simp
 ·rw [show p - a - min (q - a) l1.length=p - (a+l1.length) by omega]
theorem V4t (x:Tk) (a p q:Nat):G8 (pcI x a p q)=((psI x).take (q - a)).drop (p - a):=by
 unfold pcI;by_cases hx:x.k=1
 ·rw [if_neg yY];have e:psI x=List.replicate x.t.size (true,false):=(by unfold psI;rw [if_pos hx]);rw [e,List.take_replicate,List.drop_replicate];by_cases h:max p a - a < min q (a+x.t.size) - a
  ·rw [if_pos h,P5];unfold psI;rw [if_pos rfl];show List.replicate (x.t.extract _ _).size _=_;rw [Q1e x.t _ _ yY yY];congr 1;omega
  ·rw [if_neg h,show min (q - a) x.t.size - (p - a)=0 by omega];rfl
 ·rw [if_pos hx];obtain ⟨c,hc⟩:∃ c,psI x=[c]:=by
   unfold psI;rw [if_neg hx];split
   ·exact ⟨_,rfl⟩
   ·split<;>exact ⟨_,rfl⟩
  by_cases h:p≤a∧a < q
  ·rw [if_pos h,P5,hc,show q - a=(q - a - 1)+1 by omega,show p - a=0 by omega];simp
  ·rw [if_neg h,hc];by_cases h2:a < q
   ·rw [show p - a=(p - a - 1)+1 by omega,show q - a=(q - a - 1)+1 by omega];simp [G8]
   ·rw [show q - a=0 by omega];simp [G8]
theorem Z2v (p q:Nat):∀ (f:List Tk) (a:Nat),G8 (slI f a p q)=((G8 f).take (q - a)).drop (p - a)
 | [],a=>by simp [slI,G8]
 | x::f,a=>by
   rw [slI,I8,V4t,Z2v p q f,show x::f=[x]++f from rfl,I8 [x] f,P5,Y1f,Z2x]
theorem V0l (x:Tk) (a p q:Nat):∀ y∈pcI x a p q,1≤wdI y:=by
 unfold pcI;intro y hy;by_cases hx:x.k=1
 ·rw [if_neg yY] at hy;split at hy
  ·rename_i h;rw [List.mem_singleton.1 hy];unfold wdI;rw [if_pos rfl];show 1≤(x.t.extract _ _).size;rw [Q1e x.t _ _ yY yY];omega
  ·simp at hy
 ·rw [if_pos hx] at hy;split at hy
  ·rw [List.mem_singleton.1 hy];unfold wdI;rw [if_neg hx];exact yQ
  ·simp at hy
theorem Z0p (p q:Nat):∀ (f:List Tk) (a:Nat),∀ y∈slI f a p q,1≤wdI y
 | [],_,y,hy=>by simp [slI] at hy
 | x::f,a,y,hy=>by
   rw [slI] at hy;rcases List.mem_append.1 hy with h | h
   ·exact V0l x a p q y h
   ·exact Z0p p q f _ y h
theorem Q8u:∀ (l:List Tk),(∀ y∈l,1≤wdI y)→l.length≤X2 l
 | [],_=>yQ
 | x::l,h=>by
   rw [List.length_cons,X2];have h1:=h x yW;have h2:=Q8u l (fun y hy=>h y (by simp [hy]));omega
theorem X9g (x:Bool×Bool) (ps:List (Bool×Bool)):Q4g (x::ps)=(if x.1=true then 1 else 0)+Q4g ps:=by
 unfold Q4g;rw [List.filter_cons];split
 ·rw [List.length_cons];omega
 ·omega
theorem X3u (m o:Nat) (ps:List (Bool×Bool)) (h:m≤o):J6 (List.replicate m (true,false)++ps) o=m+J6 ps (o - m):=by
 induction m generalizing o with
 | zero=>simp
 | succ m ih=>
   obtain ⟨o',rfl⟩:∃ o',o=o'+1:=⟨o - 1,yY⟩;rw [List.replicate_succ,List.cons_append,J6,if_pos rfl,ih o' yY,Nat.add_sub_add_right];omega
theorem Z5y (m o:Nat) (ps:List (Bool×Bool)) (h:o < m) (h0:0 < o):J6 (List.replicate m (true,false)++ps) o=o:=by
 obtain ⟨d,rfl⟩:∃ d,m=o+(d+1):=⟨m - o - 1,yY⟩;rw [←List.replicate_append_replicate,List.append_assoc,X3u o o _ yQ,Nat.sub_self,List.replicate_succ,List.cons_append,J6,clP];simp
theorem X4q (x:Tk) (h:x.k≠1):psI x=[(decide (x.k=5),decide (x.k=3))]:=by
 unfold psI;rw [if_neg h];by_cases h5:x.k=5
 ·rw [if_pos h5,h5];rfl
 ·rw [if_neg h5];by_cases h3:x.k=3
  ·rw [if_pos h3,h3];rfl
  ·rw [if_neg h3,decide_eq_false h5,decide_eq_false h3]
theorem Y6b (x:Tk) (h:x.k=5) (o:Nat) (ps:List (Bool×Bool)):J6 (psI x++ps) (o+1)=J6 ps o+1:=by
 rw [X4q x yY,List.singleton_append,J6,h];rfl
theorem Y9r (x:Tk) (h1:x.k≠1) (h5:x.k≠5) (o:Nat) (ps:List (Bool×Bool)):J6 (psI x++ps) (o+1)=J6 ps (o+1)+1:=by
 rw [X4q x h1,List.singleton_append,J6,decide_eq_false h5];rfl
theorem Z4b (x:Tk) (h:x.k=3) (ps:List (Bool×Bool)):clP (psI x++ps)=clP ps+1:=by
 rw [X4q x yY,List.singleton_append,clP,h];rfl
theorem Z4c (x:Tk) (h3:x.k≠3) (hw:1≤wdI x) (ps:List (Bool×Bool)):clP (psI x++ps)=0:=by
 by_cases h1:x.k=1
 ·unfold wdI at hw;rw [if_pos h1] at hw;unfold psI;rw [if_pos h1];obtain ⟨d,hd⟩:∃ d,x.t.size=d+1:=⟨x.t.size - 1,yY⟩;rw [hd,List.replicate_succ,List.cons_append,clP];simp
 ·rw [X4q x h1,List.singleton_append,clP,decide_eq_false h3];simp
theorem Y0c (f:List Tk) (k:Nat) (h:k < f.length):G8 (f.drop k)=psI f[k]++G8 (f.drop (k+1)):=by
 rw [List.drop_eq_getElem_cons h,show f[k]::f.drop (k+1)=[f[k]]++f.drop (k+1) from rfl,I8,P5]
theorem S8:∀ (g:List Tk),Normal g→∀ x∈g,1≤wdI x
 | [],_,x,hx=>by simp at hx
 | y::r,h,x,hx=>by
   rcases List.mem_cons.1 hx with rfl | hx
   ·unfold wdI;split
    ·rename_i h1;have:=(h.1 h1).1;omega
    ·exact yQ
   ·exact S8 r h.2 x hx
def Q2j (c:UInt8):Bool:=decide (Q5k (c.toNat:Int)=2)
def sqI (x:Tk):List (Bool×Bool):=if x.k=1 then x.t.data.toList.map (fun c=>(!Q2j c,Q2j c)) else if x.k=5 then [(true,false)] else [(false,false)]
def sqF (f:List Tk):List (Bool×Bool):=f.flatMap sqI
def frI (R:List (Bool×Bool)) (x:Nat):Nat:=x+((R.drop x).takeWhile (·.2)).length
def bkI (R:List (Bool×Bool)) (y:Nat):Nat:=y - ((R.take y).reverse.takeWhile (·.2)).length
def sgF (R:List (Bool×Bool)) (p q:Nat):List (Nat×Nat):=if ((R.take q).drop p).any (·.1)=true then [(frI R p,bkI R q)] else []
def X1c (R:List (Bool×Bool)):Nat→List Nat→List (Nat×Nat)
 | _,[]=>[]
 | p,q::cs=>sgF R p q++X1c R q cs
theorem X1h (f g:List Tk):sqF (f++g)=sqF f++sqF g:=by simp [sqF]
theorem Q7w (x:Tk):sqF [x]=sqI x:=by simp [sqF]
theorem Z3o (x:Tk):(sqI x).length=wdI x:=by
 unfold sqI wdI;split
 ·rw [List.length_map];simp
 ·split<;>rfl
theorem Q7v:∀ f:List Tk,(sqF f).length=X2 f
 | []=>rfl
 | x::f=>by
   rw [show x::f=[x]++f from rfl,X1h,Q7w,List.length_append,Z3o,Q7v f,Q0q];simp [X2]
theorem V8i (x:Tk) (a p q:Nat):sqF (pcI x a p q)=((sqI x).take (q - a)).drop (p - a):=by
 unfold pcI;by_cases hx:x.k=1
 ·rw [if_neg yY];have e:sqI x=x.t.data.toList.map (fun c=>(!Q2j c,Q2j c)):=(by unfold sqI;rw [if_pos hx]);have hl:x.t.data.toList.length=x.t.size:=yW;rw [e];by_cases h:max p a - a < min q (a+x.t.size) - a
  ·rw [if_pos h,Q7w];unfold sqI;rw [if_pos rfl];show (x.t.extract (max p a - a) (min q (a+x.t.size) - a)).data.toList.map _=_;rw [ByteArray.data_extract,Array.toList_extract,←List.map_take,←List.map_drop];congr 1;rw [List.extract_eq_take_drop,List.drop_take];rw [show p - a=max p a - a by omega];by_cases h2:q≤a+x.t.size
   ·rw [show min q (a+x.t.size) - a=q - a by omega]
   ·rw [show min q (a+x.t.size) - a=x.t.size by omega];rw [List.take_of_length_le (by rw [List.length_drop,hl];omega),List.take_of_length_le (by rw [List.length_drop,hl];omega)]
  ·rw [if_neg h];rw [List.drop_eq_nil_of_le (by rw [List.length_take,List.length_map,hl];omega)];rfl
 ·rw [if_pos hx];obtain ⟨c,hc⟩:∃ c,sqI x=[c]:=by
   unfold sqI;rw [if_neg hx];split<;>exact ⟨_,rfl⟩
  by_cases h:p≤a∧a < q
  ·rw [if_pos h,Q7w,hc,show q - a=(q - a - 1)+1 by omega,show p - a=0 by omega];simp
  ·rw [if_neg h,hc];by_cases h2:a < q
   ·rw [show p - a=(p - a - 1)+1 by omega,show q - a=(q - a - 1)+1 by omega];simp [sqF]
   ·rw [show q - a=0 by omega];simp [sqF]
theorem Z0q (p q:Nat):∀ (f:List Tk) (a:Nat),sqF (slI f a p q)=((sqF f).take (q - a)).drop (p - a)
 | [],a=>by simp [slI,sqF]
 | x::f,a=>by
   rw [slI,X1h,V8i,Z0q p q f,show x::f=[x]++f from rfl,X1h [x] f,Q7w,Y1f,Z3o]
theorem V3a (x:Tk):(byI x).any (fun c=>!Q2j c)=(sqI x).any (·.1):=by
 unfold byI sqI;split
 ·rw [List.any_map];rfl
 ·split
  ·rfl
  ·rfl
theorem Y2e:∀ f:List Tk,(plI f).any (fun c=>!Q2j c)=(sqF f).any (·.1)
 | []=>rfl
 | x::f=>by
   rw [show x::f=[x]++f from rfl,Y2f,X1h,List.any_append,List.any_append,Y2e f,Q7w,←V3a];congr 2;simp [plI]
theorem X1m {l:List UInt8} {x y:Nat} (h:Z7h l x y):x < y↔l.any (fun c=>!Q2j c)=true:=by
 constructor
 ·intro hxy;rcases h with ⟨rfl,rfl,_⟩ | ⟨h1,h2,h3,_⟩
  ·omega
  ·have hx:x < l.length:=yY;have h9:=h3 _ (List.getElem?_eq_getElem hx);rw [List.any_eq_true];refine ⟨l[x],List.getElem_mem hx,?_⟩;unfold Q2j;simp [h9]
 ·intro ha;rw [List.any_eq_true] at ha;obtain ⟨c,hc,h9⟩:=ha;unfold Q2j at h9;rcases h with ⟨rfl,rfl,h3⟩ | ⟨h1,_⟩
  ·exfalso;obtain ⟨j,hj⟩:=List.mem_iff_getElem?.1 hc;have:=h3 j c hj;simp [this] at h9
  ·exact h1
theorem V8h (x:Tk):∀ c∈sqI x,c.1=true→c.2=false:=by
 unfold sqI;intro c hc h;split at hc
 ·obtain ⟨b,_,rfl⟩:=List.mem_map.1 hc;simpa using h
 ·split at hc
  ·rw [List.mem_singleton.1 hc]
  ·rw [List.mem_singleton.1 hc]
theorem V1q (f:List Tk):∀ c∈sqF f,c.1=true→c.2=false:=by
 intro c hc;obtain ⟨x,_,hx⟩:=List.mem_flatMap.1 hc;exact V8h x c hx
/-! ### The ends of a segment -/
theorem Y4u (R:List (Bool×Bool)) (x:Nat) (h:x < R.length) (hs:R[x].2=true):frI R x=frI R (x+1):=by
 unfold frI;rw [List.drop_eq_getElem_cons h,List.takeWhile_cons,if_pos hs,List.length_cons];omega
theorem X0f (R:List (Bool×Bool)) (x:Nat) (h:x < R.length) (hs:R[x].2=false):frI R x=x:=by
 unfold frI;rw [List.drop_eq_getElem_cons h,List.takeWhile_cons,if_neg (by simp [hs])];rfl
theorem Y3o (R:List (Bool×Bool)) (y:Nat) (h:y < R.length) (hs:R[y].2=true):bkI R (y+1)=bkI R y:=by
 unfold bkI;rw [List.take_succ_eq_append_getElem h,List.reverse_append,List.reverse_singleton,List.singleton_append,List.takeWhile_cons,if_pos hs,List.length_cons];omega
theorem Q9q (R:List (Bool×Bool)) (y:Nat) (h:y < R.length) (hs:R[y].2=false):bkI R (y+1)=y+1:=by
 unfold bkI;rw [List.take_succ_eq_append_getElem h,List.reverse_append,List.reverse_singleton,List.singleton_append,List.takeWhile_cons,if_neg (by simp [hs])];rfl
theorem Z9d (R:List (Bool×Bool)) (x:Nat):x≤frI R x:=by unfold frI;omega
theorem Z7s (R:List (Bool×Bool)) (y:Nat):bkI R y≤y:=by unfold bkI;omega
theorem Y8s (R:List (Bool×Bool)) (x j:Nat) (hx:x≤j) (hj:j < R.length) (hs:R[j].2=false):frI R x≤j:=by
 obtain ⟨d,rfl⟩:∃ d,j=x+d:=⟨j - x,yY⟩;induction d generalizing x with
 | zero=>rw [Nat.add_zero] at *;rw [X0f R x hj (by simpa using hs)];exact yQ
 | succ d ih=>
   have ha:x < R.length:=yY;by_cases h2:R[x].2=true
   ·rw [Y4u R x ha h2];have e:x+1+d=x+(d+1):=yY;have:=ih (x+1) yY yY (by simp only [e];exact hs);omega
   ·rw [X0f R x ha (by simpa using h2)];omega
theorem Y7z (R:List (Bool×Bool)) (y j:Nat) (hy:j < y) (hyl:y≤R.length) (hs:(R[j]'yY).2=false):j < bkI R y:=by
 obtain ⟨d,rfl⟩:∃ d,y=j+1+d:=⟨y - j - 1,yY⟩;induction d with
 | zero=>rw [Nat.add_zero,Q9q R j yY hs];omega
 | succ d ih=>
   have ha:j+1+d < R.length:=yY;by_cases h2:R[j+1+d].2=true
   ·rw [show j+1+(d+1)=j+1+d+1 by omega,Y3o R _ ha h2];exact ih yY yY hs
   ·rw [show j+1+(d+1)=j+1+d+1 by omega,Q9q R _ ha (by simpa using h2)];omega
theorem Y4t (R:List (Bool×Bool)) (x j:Nat) (h1:x≤j) (h2:j < frI R x):∃ h:j < R.length,R[j].2=true:=by
 by_cases hj:j < R.length
 ·refine ⟨hj,?_⟩;cases h:R[j].2 with
  | true=>rfl
  | false=>have:=Y8s R x j h1 hj h;omega
 ·exfalso;unfold frI at h2;have:=(List.takeWhile_sublist (fun c:Bool×Bool=>c.2) (l:=R.drop x)).length_le;rw [List.length_drop] at this;omega
theorem Y3n (R:List (Bool×Bool)) (y j:Nat) (hyl:y≤R.length) (h1:bkI R y≤j) (h2:j < y):(R[j]'yY).2=true:=by
 cases h:(R[j]'yY).2 with
 | true=>rfl
 | false=>have:=Y7z R y j h2 hyl h;omega
theorem Z1j (R:List (Bool×Bool)) (p q:Nat) (hR:∀ c∈R,c.1=true→c.2=false) (ha:((R.take q).drop p).any (·.1)=true):∃ j,∃ h:j < R.length,p≤j∧j < q∧R[j].1=true∧R[j].2=false:=by
 rw [List.any_eq_true] at ha;obtain ⟨c,hc,h1⟩:=ha;obtain ⟨i,hi⟩:=List.mem_iff_getElem?.1 hc;rw [List.getElem?_drop,List.getElem?_take] at hi;split at hi
 ·obtain ⟨hl,hx⟩:=List.getElem?_eq_some_iff.1 hi;refine ⟨p+i,hl,yY,by assumption,by rw [hx];exact h1,?_⟩;exact hR _ (List.getElem_mem hl) (by rw [hx];exact h1)
 ·cases hi
theorem V4u (R:List (Bool×Bool)) (p q j:Nat) (hj:j < R.length) (h1:p≤j) (h2:j < q) (h3:R[j].1=true):((R.take q).drop p).any (·.1)=true:=by
 rw [List.any_eq_true];refine ⟨R[j],?_,h3⟩;refine List.mem_iff_getElem?.2 ⟨j - p,?_⟩;rw [List.getElem?_drop,List.getElem?_take,if_pos yY,show p+(j - p)=j by omega];exact List.getElem?_eq_getElem hj
theorem Z9c (R:List (Bool×Bool)) (x j:Nat) (hx:x≤j) (hj:j < R.length) (hs:R[j].2=false):∃ k,frI R x=k∧∃ h:k < R.length,R[k].2=false:=by
 obtain ⟨d,rfl⟩:∃ d,j=x+d:=⟨j - x,yY⟩;induction d generalizing x with
 | zero=>exact ⟨x,X0f R x yY (by simpa using hs),yY,by simpa using hs⟩
 | succ d ih=>
   have ha:x < R.length:=yY;by_cases h2:R[x].2=true
   ·rw [Y4u R x ha h2];have e:x+1+d=x+(d+1):=yY;exact ih (x+1) yY yY (by simp only [e];exact hs)
   ·exact ⟨x,X0f R x ha (by simpa using h2),ha,by simpa using h2⟩
theorem Z7r (R:List (Bool×Bool)) (y j:Nat) (hy:j < y) (hyl:y≤R.length) (hs:(R[j]'yY).2=false):∃ k,bkI R y=k+1∧∃ h:k < R.length,R[k].2=false:=by
 obtain ⟨d,rfl⟩:∃ d,y=j+1+d:=⟨y - j - 1,yY⟩;induction d with
 | zero=>exact ⟨j,by rw [Nat.add_zero];exact Q9q R j yY hs,yY,hs⟩
 | succ d ih=>
   have ha:j+1+d < R.length:=yY;by_cases h2:R[j+1+d].2=true
   ·rw [show j+1+(d+1)=j+1+d+1 by omega,Y3o R _ ha h2];exact ih yY yY hs
   ·exact ⟨j+1+d,by rw [show j+1+(d+1)=j+1+d+1 by omega];exact Q9q R _ ha (by simpa using h2),ha,by simpa using h2⟩
/-! ### The cuts -/
def AscF:Nat→List Nat→Nat→Prop
 | p,[],n=>p=n
 | p,c::cs,n=>p≤c∧AscF c cs n
theorem AscF.le:∀ {cs:List Nat} {p n:Nat},AscF p cs n→p≤n
 | [],_,_,h=>Nat.le_of_eq h
 | c::cs,p,n,h=>Nat.le_trans h.1 (AscF.le h.2)
theorem AscF.at_:∀ {cs:List Nat} {p n:Nat} (k:Nat) (hk:k < cs.length),AscF p cs n→(p::cs).getD k 0≤cs[k]∧cs[k]≤n
 | c::cs,p,n,0,_,h=>⟨by simpa using h.1,by simpa using AscF.le h.2⟩
 | c::cs,p,n,k+1,hk,h=>by
   have:=AscF.at_ (cs:=cs) (p:=c) k (by simpa using hk) h.2;simpa using this
theorem Y0k (R:List (Bool×Bool)):∀ (cs:List Nat) (p k:Nat) (hk:k < cs.length),X1c R p (cs.take (k+1))=X1c R p (cs.take k)++sgF R ((p::cs).getD k 0) cs[k]
 | c::cs,p,0,_=>by simp [X1c]
 | c::cs,p,k+1,hk=>by
   have h:=Y0k R cs c k (by simpa using hk);rw [List.take_succ_cons,X1c,h,List.take_succ_cons,X1c,List.append_assoc];simp
theorem Z7y:∀ ps:List (Bool×Bool),clP ps≤ps.length
 | []=>yQ
 | x::ps=>by
   rw [clP,List.length_cons];have:=Z7y ps;split<;>omega
theorem Y0a:∀ (ps:List (Bool×Bool)) (o:Nat),J6 ps o≤ps.length
 | ps,0=>by cases ps<;>exact Z7y _
 | [],_+1=>yQ
 | x::ps,o+1=>by
   rw [J6,List.length_cons];have:=Y0a ps (if x.1=true then o else o+1);omega
theorem X3v (ps:List (Bool×Bool)):J6 ps 0=clP ps:=by cases ps<;>rfl
theorem X1v:∀ (ps:List (Bool×Bool)) (o:Nat),o≤Q4g ps→clP ps≤J6 ps o
 | [],o,_=>by simp [clP]
 | x::ps,0,_=>by rw [X3v];exact yQ
 | x::ps,o+1,h=>by
   rw [X9g] at h;rw [J6,clP];split
   ·by_cases hx:x.1=true
    ·rw [if_pos hx] at h ⊢;have:=X1v ps o yY;omega
    ·rw [if_neg hx] at h ⊢;have:=X1v ps (o+1) yY;omega
   ·omega
theorem Q6h:∀ (ps:List (Bool×Bool)) (a b:Nat),a≤b→b≤Q4g ps→J6 ps a≤J6 ps b
 | ps,0,b,_,hb=>by rw [X3v];exact X1v ps b hb
 | [],a+1,b,h,hb=>by simp [Q4g] at hb;omega
 | x::ps,a+1,0,h,_=>yY
 | x::ps,a+1,b+1,h,hb=>by
   rw [X9g] at hb;rw [J6,J6];by_cases hx:x.1=true
   ·rw [if_pos hx] at hb;rw [if_pos hx,if_pos hx];have:=Q6h ps a b yY yY;omega
   ·rw [if_neg hx] at hb;rw [if_neg hx,if_neg hx];have:=Q6h ps (a+1) (b+1) yY yY;omega
def Q5g (f:List Tk) (bl:List Nat):List Nat:=bl.map (J6 (G8 f))++[X2 f]
theorem Y4b (f:List Tk):∀ (bl:List Nat) (a:Nat),(a::bl).Pairwise (·≤·)→(∀ b∈a::bl,b≤(plI f).length)→AscF (J6 (G8 f) a) (Q5g f bl) (X2 f)
 | [],a,_,_=>⟨by have:=Y0a (G8 f) a;rw [Q0t] at this;exact this,rfl⟩
 | b::bl,a,h,hb=>by
   refine ⟨?_,?_⟩
   ·refine Q6h _ _ _ ?_ ?_
    ·exact (List.pairwise_cons.1 h).1 b yW
    ·rw [X5f];exact hb b yW
   ·exact Y4b f bl b (List.pairwise_cons.1 h).2 (fun c hc=>hb c (by simp [hc]))
theorem AscF.zero {cs:List Nat} {p n:Nat} (h:AscF p cs n) (hc:cs≠[]):AscF 0 cs n:=by
 cases cs with
 | nil=>exact absurd rfl hc
 | cons c cs=>exact ⟨Nat.zero_le _,h.2⟩
/-! ### What the segments cover -/
def Z7g (R:List (Bool×Bool)):Nat→List (Nat×Nat)→Prop
 | a0,[]=>∀ j,∀ h:j < R.length,a0≤j→R[j].1=false
 | a0,r::l=>a0≤r.1∧r.1 < r.2∧r.2≤R.length∧(∀ j,∀ h:j < R.length,a0≤j→j < r.1→R[j].1=false)∧(∃ h:r.1 < R.length,R[r.1].2=false)∧(∃ h:r.2 - 1 < R.length,R[r.2 - 1].2=false)∧(∃ j,∃ h:j < R.length,r.1≤j∧j < r.2∧R[j].1=true)∧Z7g R r.2 l
theorem Y2q (R:List (Bool×Bool)) (hR:∀ c∈R,c.1=true→c.2=false):∀ (cs:List Nat) (a0 p:Nat),AscF p cs R.length→a0≤p→(∀ j,∀ h:j < R.length,a0≤j→j < p→R[j].1=false)→Z7g R a0 (X1c R p cs)
 | [],a0,p,hA,h0,hg=>fun j h hj=>hg j h hj (by have:p=R.length:=hA;omega)
 | q::cs,a0,p,hA,h0,hg=>by
   have hq:=hA.2.le;have hd:=hA.1;rw [X1c];unfold sgF;by_cases ha:((R.take q).drop p).any (·.1)=true
   ·rw [if_pos ha,List.singleton_append];obtain ⟨j,hj,h1,h2,h3,h4⟩:=Z1j R p q hR ha;have e1:=Z9d R p;have e2:=Y8s R p j h1 hj h4;have e3:=Y7z R q j h2 hq h4;have e4:=Z7s R q;refine ⟨by show a0≤frI R p;omega,by show frI R p < bkI R q;omega,by show bkI R q≤_;omega,fun i hi i1 i2=>?_,?_,?_,⟨j,hj,e2,e3,h3⟩,?_⟩
    ·by_cases hip:i < p
     ·exact hg i hi i1 hip
     ·obtain ⟨_,hs⟩:=Y4t R p i yY i2;cases h9:R[i].1 with
      | false=>rfl
      | true=>rw [hR _ (List.getElem_mem hi) h9] at hs;cases hs
    ·obtain ⟨k,hk,hb,hc⟩:=Z9c R p j h1 hj h4;show ∃ h:frI R p < R.length,R[frI R p].2=false;rw [hk];exact ⟨hb,hc⟩
    ·obtain ⟨k,hk,hb,hc⟩:=Z7r R q j h2 hq h4;show ∃ h:bkI R q - 1 < R.length,R[bkI R q - 1].2=false;rw [hk];exact ⟨hb,hc⟩
    ·refine Y2q R hR cs (bkI R q) q hA.2 e4 (fun i hi i1 i2=>?_);have hs:=Y3n R q i hq i1 i2;cases h9:R[i].1 with
     | false=>rfl
     | true=>rw [hR _ (List.getElem_mem hi) h9] at hs;cases hs
   ·rw [if_neg ha,List.nil_append];refine Y2q R hR cs a0 q hA.2 yY (fun i hi i1 i2=>?_);by_cases hip:i < p
    ·exact hg i hi i1 hip
    ·cases h9:R[i].1 with
     | false=>rfl
     | true=>exact absurd (V4u R p q i hi yY i2 h9) ha
end Go.Proofs.YtfkojnofbpdjdaaGreatDoor
namespace Go.Proofs.YtfkojnofbpdjdaaGreatDoor
open Go.RowKit
theorem Q6q (f:List Tk) (v:Value) (w:World) (h1:RdT w v f) (hl:X2 f≤1000000000000000000) (hfl:f.length≤1000000):
 Calls Tryz.prog 91 #[v] w fun e w'=>e=.returned (.int .i64 (X2 f:Nat))∧w=w':=by
 obtain ⟨A,c,rfl,_,_⟩:=h1.shape;have H1:=zW h1;clear h1;go_enter Tryz.func91,Tryz.ntmps91
 go_wp2_with fail
 obtain ⟨wo,hd⟩:∃ wo,yK (wo=w):=⟨w,rfl⟩;go_loopg [3,4,7] f.length (fun gk nv iv jv wr=>∃ k n:Nat,nv=.int .i64 n∧jv=.int .i64 k∧k≤f.length∧yK (n=X2 (f.take k))∧wr=w∧f.length - k≤gk)
 case atStart=>exact ⟨0,0,rfl,rfl,Nat.zero_le _,by show _=_;rw [List.take_zero];rfl,rfl,yY⟩
 case round=>
  clear hd;obtain ⟨k,n,rfl,rfl,hk,HN,rfl,hgk⟩:=hrel;by_cases hkl:k < f.length
  ·have hg:(k:Int) < (f.length:Int):=yY;have hf:(0:Int)≤(k:Int):=yY;obtain ⟨b,o,rfl,he,q1,q2,q3⟩:=RdT.at_ H1.o k hkl;have hb:=Q4q f (k+1);have hc:=M0 f k hkl;rw [hc,←HN.o] at hb;have ha:yK (n+wdI f[k]=X2 (f.take (k+1))):=by
    show _=_;rw [hc,←HN.o]
   unfold wdI at ha hb;clear hc;generalize f[k]=x at q1 q2 q3 ha hb;obtain ⟨xk,xt,xd⟩:=x;simp only at q1 q2 q3 ha hb;by_cases hx:xk=1
   ·subst hx;simp only [if_true] at ha hb;have hh:xt.size≤1000000000000000000:=yY;go_wp2_with fail
    go_roundg (f.length - (k+1))
    case measure=>omega
    case rel=>exact ⟨k+1,n+xt.size,rfl,rfl,yY,ha.o,rfl,yY⟩
   ·rw [if_neg hx] at ha hb;have t1:(xk==1)=false:=(by simpa using hx);go_wp2_with fail
    go_roundg (f.length - (k+1))
    case measure=>omega
    case rel=>exact ⟨k+1,n+1,rfl,rfl,yY,ha.o,rfl,yY⟩
  ·obtain rfl:k=f.length:=yY;have e:n=X2 f:=(by rw [HN.o,List.take_length]);go_wp2_with fail
   go_ret
   exact ⟨by rw [←e];rfl,rfl⟩
section
variable {P:Program} {ops:Array Oper} {w:World} {Q:Act→Prop} {a:Act} {o:Oper} {rest:List Oper}
theorem Y3d (hw:Region.wanted o (yielded ops a.tmps)=true) (v:Value) (hv:(execOp a.eval o).run P w=.ok (.value v) w) (h:wpStill P ops w Q rest (a.put o.dst v)):wpStill P ops w Q (o::rest) a:=
 wpStill_step fun K hK=>by
  rw [if_pos hw];unfold Oper.still;rw [hv,Oper.stillUpon_value];exact hK _ h
theorem Y3c (hw:Region.wanted o (yielded ops a.tmps)=false) (h:wpStill P ops w Q rest (a.put o.dst undef)):wpStill P ops w Q (o::rest) a:=
 wpStill_step fun K hK=>by
  rw [if_neg (by rw [hw];exact Bool.false_ne_true)];exact hK _ h
structure SW (P:Program) (ops:Array Oper) (w:World) (Q:Act→Prop) (rest:List Oper) (a:Act):Prop where
 o : wpStill P ops w Q rest a
theorem V9z (d:Option Tmp) (hd:o.dst=d) (hw:Region.wanted o (yielded ops a.tmps)=true) (v:Value) (hv:(execOp a.eval o).run P w=.ok (.value v) w) (h:SW P ops w Q rest (a.put d v)):SW P ops w Q (o::rest) a:=by
 subst hd;exact ⟨Y3d hw v hv h.o⟩
theorem V9y (d:Option Tmp) (hd:o.dst=d) (hw:Region.wanted o (yielded ops a.tmps)=false) (h:SW P ops w Q rest (a.put d undef)):SW P ops w Q (o::rest) a:=by
 subst hd;exact ⟨Y3c hw h.o⟩
theorem U0b (h:Q a):SW P ops w Q [] a:=⟨wpStill_nil h⟩
theorem V1t {id:Nat} {QE:Exit→Act→World→Prop} {l l1 l2:List Oper} (n:Nat) (hm:P.follows .mixedOrders=true) (hB:Region.lexTailB .any l.toArray n=true) (e1:l.take n=l1) (e2:l.drop n=l2)
 (h:SW P l.toArray w.drew (fun a'=>wpList P l.toArray QE l2 a' w.drew) l1 a):(Code.region id l.toArray true).wp P QE a w:=by
 subst e1 e2;exact wp_region_still_tail n hm hB h.o
theorem V8q {id:Nat} {QE:Exit→Act→World→Prop} {l:List Oper} (hm:P.follows .mixedOrders=true) (hB:Region.lexB .any l.toArray=true)
 (h:SW P l.toArray w.drew (fun a'=>QE .normal a' w.drew) l a):(Code.region id l.toArray true).wp P QE a w:=
 wp_region_still_lit hm hB h.o
theorem Z1z (x:Operand) (v:Value) (ho:o.op=.move x) (hx:a.eval x=v):(execOp a.eval o).run P w=.ok (.value v) w:=by
 unfold execOp;simp only [ho,hx];rfl
theorem X9q (x:Operand) (v:Value) (ho:o.op=.assign x) (hx:a.eval x=v):(execOp a.eval o).run P w=.ok (.value v) w:=by
 unfold execOp;simp only [ho,hx];rfl
theorem V3m (c x y:Operand) (b:Bool) (vx vy:Value) (ho:o.op=.pick c x y) (hc:a.eval c=.bool b) (hx:a.eval x=vx) (hy:a.eval y=vy):(execOp a.eval o).run P w=.ok (.value (if b=true then vx else vy)) w:=by
 unfold execOp;simp only [ho,hx,hy,hc];rfl
theorem Y1m (t:TypeId) (x i:Operand) (vx vi v:Value) (ho:o.op=.indexAddr t x i) (hx:a.eval x=vx) (hi:a.eval i=vi) (hr:(Instr.indexAt t vx vi).run P w=.ok v w):(execOp a.eval o).run P w=.ok (.value v) w:=by
 unfold execOp;simp only [ho,hx,hi,Sem.run_bind,hr,Result.andThen_ok,Sem.run_pure]
theorem Y1l (t:TypeId) (x:Operand) (f:Nat) (vx v:Value) (ho:o.op=.fieldAddr t x f) (hx:a.eval x=vx) (hr:(Instr.fieldAt t vx f).run P w=.ok v w):(execOp a.eval o).run P w=.ok (.value v) w:=by
 unfold execOp;simp only [ho,hx,Sem.run_bind,hr,Result.andThen_ok,Sem.run_pure]
theorem Z1y (t:TypeId) (x:Operand) (vx v:Value) (ho:o.op=.load t x) (hx:a.eval x=vx) (hr:(Instr.loadAt t vx).run P w=.ok v w):(execOp a.eval o).run P w=.ok (.value v) w:=by
 unfold execOp;simp only [ho,hx,Sem.run_bind,hr,Result.andThen_ok,Sem.run_pure]
theorem Z8r (t:TypeId) (x i:Operand) (vx vi v:Value) (ho:o.op=.index t x i) (hx:a.eval x=vx) (hi:a.eval i=vi) (hr:(Instr.index t vx vi).run P w=.ok v w):(execOp a.eval o).run P w=.ok (.value v) w:=by
 unfold execOp;simp only [ho,hx,hi,Sem.run_bind,hr,Result.andThen_ok,Sem.run_pure]
theorem Y4j (op:BinOp) (t t2:TypeId) (x y:Operand) (vx vy v:Value) (ho:o.op=.binOp op t x y t2) (hx:a.eval x=vx) (hy:a.eval y=vy) (hr:(do eqGuard op t x y vx vy;Go.binOp op t vx vy:Sem Value).run P w=.ok v w):(execOp a.eval o).run P w=.ok (.value v) w:=by
 unfold execOp;simp only [ho,hx,hy];rw [Sem.run_bind,hr];rfl
theorem Y3f {QE:Exit→Act→World→Prop} {id:Nat} (n:Nat) (l0:Array Bool) (hn:ops.size=n) (hl:Array.replicate n false=l0) (hm:P.follows .mixedOrders=true)
 (h:wpAny P .any ops QE n l0 a w.drew):(Code.region id ops true).wp P QE a w:=by
 subst hn hl;exact wp_region_any hm h
theorem M4 {i:Nat} {oi:Oper} {rs:List Oper} (h:ops.toList.drop i=oi::rs):ops[i]? =some oi:=by
 rw [←Array.getElem?_toList];have:=congrArg (fun l=>l[0]?) h;simpa using this
theorem V2g {md:Region.Mode} {QE:Exit→Act→World→Prop} {i:Nat} {oi:Oper} (d:Option Tmp) {v:Value} {fuel:Nat} {listed:Array Bool} {rs:List Oper} (hi0:ops.toList.drop i=oi::rs) (hd:oi.dst=d)
 (hs:Region.noSelect ops=true) (hf:Region.free md ops listed i=true) (hr:(Region.ready md ops listed).contains i=true)
 (hQ:∀ c a w,QE (.panic c) (a.put oi.dst v) w→QE (.panic c) a w) (hw:Region.wanted oi (yielded ops a.tmps)=true) (hv:∀ w,(execOp a.eval oi).run P w=.ok (.value v) w)
 (h:wpAny P md ops QE fuel (listed.setIfInBounds i true) (a.put d v) w):wpAny P md ops QE (fuel+1) listed a w:=by
 subst hd;have hi:=M4 hi0;exact wpAny_take hi hs hf hr hQ (Or.inl ⟨hw,hv⟩) h
theorem E6 {md:Region.Mode} {QE:Exit→Act→World→Prop} (i:Nat) {oi:Oper} {fuel:Nat} {listed:Array Bool} {rs:List Oper} (hr:Region.ready md ops listed=[i]) (hi:ops.toList.drop i=oi::rs) (hw:Region.wanted oi (yielded ops a.tmps)=true)
 (h:Oper.wp P oi a w (wpAny P md ops QE fuel (listed.setIfInBounds i true)) QE):wpAny P md ops QE (fuel+1) listed a w:=
 wpAny_ready hr yW (AllReady.cons (M4 hi) (fun K hK=>by rw [if_pos hw];exact Oper.wp_mono hK h) AllReady.nil)
theorem Q4c {md:Region.Mode} {QE:Exit→Act→World→Prop} (i j:Nat) {oi oj:Oper} {fuel:Nat} {listed:Array Bool} {rs rs2:List Oper} (hr:Region.ready md ops listed=[i,j]) (hi:ops.toList.drop i=oi::rs) (hj:ops.toList.drop j=oj::rs2) (hwi:Region.wanted oi (yielded ops a.tmps)=true) (hwj:Region.wanted oj (yielded ops a.tmps)=true)
 (h1:Oper.wp P oi a w (wpAny P md ops QE fuel (listed.setIfInBounds i true)) QE) (h2:Oper.wp P oj a w (wpAny P md ops QE fuel (listed.setIfInBounds j true)) QE):wpAny P md ops QE (fuel+1) listed a w:=
 wpAny_ready hr yW (AllReady.cons (M4 hi) (fun K hK=>by rw [if_pos hwi];exact Oper.wp_mono hK h1) (AllReady.cons (M4 hj) (fun K hK=>by rw [if_pos hwj];exact Oper.wp_mono hK h2) AllReady.nil))
theorem X8d {md:Region.Mode} {QE:Exit→Act→World→Prop} (i:Nat) (d:Option Tmp) {oi:Oper} {fuel:Nat} {listed:Array Bool} {rs:List Oper} (hr:Region.ready md ops listed=[i]) (hi:ops.toList.drop i=oi::rs) (hd:oi.dst=d) (hw:Region.wanted oi (yielded ops a.tmps)=true)
 (ty:TypeId) (x:Operand) (ho:oi.op=.load ty x) (b o:Nat) (hx:a.eval x=.pointer (some ⟨b,o,none⟩)) (cs:List Value) (dd:TypeDesc) (hc:w.rangeAt b o cs) (hu:P.underlying ty=some dd) (hdd:dd.isRow=true) (hsz:(P.info? ty).map (·.size)=some cs.length)
 (h:wpAny P md ops QE fuel (listed.setIfInBounds i true) (a.put d (.agg cs.toArray)) w):wpAny P md ops QE (fuel+1) listed a w:=by
 subst hd;exact E6 i hr hi hw (wp_load_mid ty x ho b o hx cs dd hc hu hdd hsz h)
theorem Y7u {md:Region.Mode} {QE:Exit→Act→World→Prop} (i j:Nat) (d e:Option Tmp) {oi oj:Oper} {fuel:Nat} {listed:Array Bool} {rs rs2:List Oper} (hr:Region.ready md ops listed=[i,j]) (hi:ops.toList.drop i=oi::rs) (hj:ops.toList.drop j=oj::rs2) (hd:oi.dst=d) (he:oj.dst=e)
 (hwi:Region.wanted oi (yielded ops a.tmps)=true) (hwj:Region.wanted oj (yielded ops a.tmps)=true)
 (ty:TypeId) (x:Operand) (ho:oi.op=.load ty x) (b o:Nat) (hx:a.eval x=.pointer (some ⟨b,o,none⟩)) (cs:List Value) (dd:TypeDesc) (hc:w.rangeAt b o cs) (hu:P.underlying ty=some dd) (hdd:dd.isRow=true) (hsz:(P.info? ty).map (·.size)=some cs.length)
 (ty2:TypeId) (x2:Operand) (ho2:oj.op=.load ty2 x2) (b2 o2:Nat) (hx2:a.eval x2=.pointer (some ⟨b2,o2,none⟩)) (cs2:List Value) (dd2:TypeDesc) (hc2:w.rangeAt b2 o2 cs2) (hu2:P.underlying ty2=some dd2) (hdd2:dd2.isRow=true) (hsz2:(P.info? ty2).map (·.size)=some cs2.length)
 (h1:wpAny P md ops QE fuel (listed.setIfInBounds i true) (a.put d (.agg cs.toArray)) w) (h2:wpAny P md ops QE fuel (listed.setIfInBounds j true) (a.put e (.agg cs2.toArray)) w):wpAny P md ops QE (fuel+1) listed a w:=by
 subst hd he;exact Q4c i j hr hi hj hwi hwj (wp_load_mid ty x ho b o hx cs dd hc hu hdd hsz h1) (wp_load_mid ty2 x2 ho2 b2 o2 hx2 cs2 dd2 hc2 hu2 hdd2 hsz2 h2)
theorem Q3a {md:Region.Mode} {QE:Exit→Act→World→Prop} (i:Nat) {oi:Oper} {fuel:Nat} {listed:Array Bool} {rs:List Oper} (hr:Region.ready md ops listed=[i]) (hi:ops.toList.drop i=oi::rs) (hd:oi.dst=none) (hw:Region.wanted oi (yielded ops a.tmps)=true)
 (ty:TypeId) (x y:Operand) (ho:oi.op=.store ty x y) (b o:Nat) (cells:List Value) (hx:a.eval x=.pointer (some ⟨b,o,none⟩)) (hy:a.eval y=.agg cells.toArray) (ht:w.there b o cells.length) (hsz:(P.info? ty).map (·.size)=some cells.length) (h1:cells.toArray.all (·.oneCell')=true)
 (h:wpAny P md ops QE fuel (listed.setIfInBounds i true) a (w.setCells b o cells)):wpAny P md ops QE (fuel+1) listed a w:=by
 refine E6 i hr hi hw (wp_store_mid ty x y ho b o cells.toArray hx hy (by simpa using ht) (by simpa using hsz) h1 ?_);rw [hd];exact h
theorem Q7z {md:Region.Mode} {QE:Exit→Act→World→Prop} (i:Nat) (d:Option Tmp) (v:Value) {oi:Oper} {fuel:Nat} {listed:Array Bool} {rs:List Oper} (hr:Region.ready md ops listed=[i]) (hi:ops.toList.drop i=oi::rs) (hd:oi.dst=d) (hw:Region.wanted oi (yielded ops a.tmps)=true)
 (hv:(execOp a.eval oi).run P w=.ok (.value v) w) (h:wpAny P md ops QE fuel (listed.setIfInBounds i true) (a.put d v) w):wpAny P md ops QE (fuel+1) listed a w:=by
 subst hd;refine E6 i hr hi hw ?_;show Oper.upon _ _ _ _ _ _;rw [hv];exact h
theorem Z1b {md:Region.Mode} {QE:Exit→Act→World→Prop} (i:Nat) (d:Option Tmp) {oi:Oper} {fuel:Nat} {listed:Array Bool} {rs:List Oper} (hi0:ops.toList.drop i=oi::rs) (hd:oi.dst=d)
 (hs:Region.noSelect ops=true) (hf:Region.free md ops listed i=true) (hr:(Region.ready md ops listed).contains i=true)
 (hQ:∀ c a w,QE (.panic c) (a.put oi.dst undef) w→QE (.panic c) a w) (hw:Region.wanted oi (yielded ops a.tmps)=false)
 (h:wpAny P md ops QE fuel (listed.setIfInBounds i true) (a.put d undef) w):wpAny P md ops QE (fuel+1) listed a w:=by
 subst hd;exact wpAny_take (M4 hi0) hs hf hr hQ (Or.inr ⟨hw,rfl⟩) h
theorem Z1a {md:Region.Mode} {QE:Exit→Act→World→Prop} (i:Nat) (d:Option Tmp) {oi:Oper} {fuel:Nat} {listed:Array Bool} {rs:List Oper} (hr:Region.ready md ops listed=[i]) (hi:ops.toList.drop i=oi::rs) (hd:oi.dst=d) (hw:Region.wanted oi (yielded ops a.tmps)=true)
 (f:FuncId) (vs:Array Value) (hrun:(execOp a.eval oi).run P w=.ok (.enter f vs) w) {Post:Ending→World→Prop} (hc:Calls P f vs w Post)
 (h:∀ e w',Post e w'→∃ v,e=.returned v∧wpAny P md ops QE fuel (listed.setIfInBounds i true) (a.put d v) w'):wpAny P md ops QE (fuel+1) listed a w:=by
 subst hd;refine E6 i hr hi hw ?_;show Oper.upon _ _ _ _ _ _;rw [hrun,Oper.upon_enter];refine hc.mono fun e w' hp=>?_;obtain ⟨v,rfl,hv⟩:=h e w' hp;exact hv
theorem Any.wanted_pos {p q:Prop} {c:Bool} (hc:c=true) (h:p):if c=true then p else q:=by
 rw [if_pos hc];exact h
end
theorem zV {P : Program} {ops : Array Oper} {a : Act} {w : World} {md : Region.Mode} {QE : Exit → Act → World → Prop} (i : Nat) {oi : Oper} {fuel : Nat} {listed : Array Bool} {rs : List Oper} (hi : ops.toList.drop i = oi :: rs)
    (h:Oper.wp P oi a w (wpAny P md ops QE fuel (listed.setIfInBounds i true)) QE) (hr:Region.ready md ops listed=[i]:=by kernel_rfl) (hw:Region.wanted oi (yielded ops a.tmps)=true:=by kernel_rfl):wpAny P md ops QE (fuel+1) listed a w:=E6 i hr hi hw h
theorem zU {P : Program} {ops : Array Oper} {a : Act} {w : World} {md : Region.Mode} {QE : Exit → Act → World → Prop} (i j : Nat) {oi oj : Oper} {fuel : Nat} {listed : Array Bool} {rs rs2 : List Oper} (hi : ops.toList.drop i = oi :: rs) (hj : ops.toList.drop j = oj :: rs2)
    (h1:Oper.wp P oi a w (wpAny P md ops QE fuel (listed.setIfInBounds i true)) QE) (h2:Oper.wp P oj a w (wpAny P md ops QE fuel (listed.setIfInBounds j true)) QE) (hr:Region.ready md ops listed=[i,j]:=by kernel_rfl) (hwi:Region.wanted oi (yielded ops a.tmps)=true:=by kernel_rfl) (hwj:Region.wanted oj (yielded ops a.tmps)=true:=by kernel_rfl):wpAny P md ops QE (fuel+1) listed a w:=Q4c i j hr hi hj hwi hwj h1 h2
section
variable {P:Program} {ops:Array Oper} {w:World} {a:Act}
theorem H9 {o:Oper} {v:Value} {K:Act→World→Prop} {QE:Exit→Act→World→Prop} (hv:(execOp a.eval o).run P w=.ok (.value v) w) (h:K (a.put o.dst v) w):Oper.wp P o a w K QE:=by
 show Oper.upon _ _ _ _ _ _;rw [hv];exact h
theorem J0 {o:Oper} {f:FuncId} {vs:Array Value} {K:Act→World→Prop} {QE:Exit→Act→World→Prop} (hrun:(execOp a.eval o).run P w=.ok (.enter f vs) w) {Post:Ending→World→Prop} (hc:Calls P f vs w Post)
 (h:∀ e w',Post e w'→∃ v,e=.returned v∧K (a.put o.dst v) w'):Oper.wp P o a w K QE:=by
 show Oper.upon _ _ _ _ _ _;rw [hrun,Oper.upon_enter];refine hc.mono fun e w' hp=>?_;obtain ⟨v,rfl,hv⟩:=h e w' hp;exact hv
theorem Z1c {md:Region.Mode} {QE:Exit→Act→World→Prop} (i j:Nat) (d e:Option Tmp) (v u:Value) {oi oj:Oper} {fuel:Nat} {listed:Array Bool} {rs rs2:List Oper} (hr:Region.ready md ops listed=[i,j]) (hi:ops.toList.drop i=oi::rs) (hj:ops.toList.drop j=oj::rs2) (hd:oi.dst=d) (he:oj.dst=e)
 (hwi:Region.wanted oi (yielded ops a.tmps)=true) (hwj:Region.wanted oj (yielded ops a.tmps)=true) (hv:(execOp a.eval oi).run P w=.ok (.value v) w) (hu:(execOp a.eval oj).run P w=.ok (.value u) w)
 (h1:wpAny P md ops QE fuel (listed.setIfInBounds i true) (a.put d v) w) (h2:wpAny P md ops QE fuel (listed.setIfInBounds j true) (a.put e u) w):wpAny P md ops QE (fuel+1) listed a w:=by
 subst hd he;exact Q4c i j hr hi hj hwi hwj (H9 hv h1) (H9 hu h2)
theorem V2i {md:Region.Mode} {QE:Exit→Act→World→Prop} (i j:Nat) (d e:Option Tmp) (u:Value) {oi oj:Oper} {fuel:Nat} {listed:Array Bool} {rs rs2:List Oper} (hr:Region.ready md ops listed=[i,j]) (hi:ops.toList.drop i=oi::rs) (hj:ops.toList.drop j=oj::rs2) (hd:oi.dst=d) (he:oj.dst=e)
 (hwi:Region.wanted oi (yielded ops a.tmps)=true) (hwj:Region.wanted oj (yielded ops a.tmps)=true) (f:FuncId) (vs:Array Value) (hrun:(execOp a.eval oi).run P w=.ok (.enter f vs) w) {Post:Ending→World→Prop} (hc:Calls P f vs w Post) (hu:(execOp a.eval oj).run P w=.ok (.value u) w)
 (h1:∀ e' w',Post e' w'→∃ v,e'=.returned v∧wpAny P md ops QE fuel (listed.setIfInBounds i true) (a.put d v) w') (h2:wpAny P md ops QE fuel (listed.setIfInBounds j true) (a.put e u) w):wpAny P md ops QE (fuel+1) listed a w:=by
 subst hd he;exact Q4c i j hr hi hj hwi hwj (J0 hrun hc h1) (H9 hu h2)
end
section
variable {P:Program} {ops:Array Oper} {w:World} {a:Act} {o:Oper}
theorem X0c (t:TypeId) (x:Operand) (lo hi:Option Operand) (vx v:Value) (vlo vhi:Option Value) (ho:o.op=.slice t x lo hi none) (hx:a.eval x=vx) (hl:lo.map a.eval=vlo) (hh:hi.map a.eval=vhi) (hr:(Instr.sliceAt t vx vlo vhi none).run P w=.ok v w):(execOp a.eval o).run P w=.ok (.value v) w:=by
 unfold execOp;simp only [ho,hx,hl,hh,Option.map_none,Sem.run_bind,hr,Result.andThen_ok,Sem.run_pure]
theorem V3n (op:UnOp) (t:TypeId) (x:Operand) (vx v:Value) (ho:o.op=.unOp op t x) (hx:a.eval x=vx) (hr:(Op.unary op vx).run P w=.ok v w):(execOp a.eval o).run P w=.ok (.value v) w:=by
 unfold execOp;simp only [ho,hx,Sem.run_bind,hr,Result.andThen_ok,Sem.run_pure]
theorem O5 (d e:Tmp) (v u:Value) (h:d≠e):(a.put (some e) u).put (some d) v=(a.put (some d) v).put (some e) u:=by
 unfold Act.put;simp only
 rw [Array.setIfInBounds_comm _ _ (fun x=>h x.symm)]
theorem V8l {md:Region.Mode} {QE:Exit→Act→World→Prop} (i j:Nat) (d e:Tmp) (v u:Value) {oi oj:Oper} {fuel:Nat} {listed L:Array Bool} {rs rs2:List Oper} (hr:Region.ready md ops listed=[i,j]) (hri:Region.ready md ops (listed.setIfInBounds i true)=[j]) (hrj:Region.ready md ops (listed.setIfInBounds j true)=[i])
 (hi:ops.toList.drop i=oi::rs) (hj:ops.toList.drop j=oj::rs2) (hd:oi.dst=some d) (he:oj.dst=some e) (hde:d≠e) (hij:i≠j)
 (hwi:Region.wanted oi (yielded ops a.tmps)=true) (hwj:Region.wanted oj (yielded ops a.tmps)=true) (hwi2:Region.wanted oi (yielded ops (a.put (some e) u).tmps)=true) (hwj2:Region.wanted oj (yielded ops (a.put (some d) v).tmps)=true)
 (hv:(execOp a.eval oi).run P w=.ok (.value v) w) (hu:(execOp a.eval oj).run P w=.ok (.value u) w) (hv2:(execOp (a.put (some e) u).eval oi).run P w=.ok (.value v) w) (hu2:(execOp (a.put (some d) v).eval oj).run P w=.ok (.value u) w)
 (hL:(listed.setIfInBounds i true).setIfInBounds j true=L) (h:wpAny P md ops QE fuel L ((a.put (some d) v).put (some e) u) w):wpAny P md ops QE (fuel+1+1) listed a w:=by
 refine Z1c i j (some d) (some e) v u hr hi hj hd he hwi hwj hv hu ?_ ?_
 ·refine Q7z j (some e) u hri hj he hwj2 hu2 ?_;rw [hL];exact h
 ·refine Q7z i (some d) v hrj hi hd hwi2 hv2 ?_;rw [Array.setIfInBounds_comm _ _ (fun x=>hij x.symm),hL,O5 d e v u hde];exact h
end
section
variable {P:Program} {ops:Array Oper} {w:World} {a:Act} {o:Oper}
theorem Q7 {o:Oper} {v:Value} {w2:World} {K:Act→World→Prop} {QE:Exit→Act→World→Prop} (hv:(execOp a.eval o).run P w=.ok (.value v) w2) (h:K (a.put o.dst v) w2):Oper.wp P o a w K QE:=by
 show Oper.upon _ _ _ _ _ _;rw [hv];exact h
theorem Q9k {md:Region.Mode} {QE:Exit→Act→World→Prop} (i:Nat) (d:Option Tmp) (v:Value) (w2:World) {oi:Oper} {fuel:Nat} {listed:Array Bool} {rs:List Oper} (hr:Region.ready md ops listed=[i]) (hi:ops.toList.drop i=oi::rs) (hd:oi.dst=d) (hw:Region.wanted oi (yielded ops a.tmps)=true)
 (hv:(execOp a.eval oi).run P w=.ok (.value v) w2) (h:wpAny P md ops QE fuel (listed.setIfInBounds i true) (a.put d v) w2):wpAny P md ops QE (fuel+1) listed a w:=by
 subst hd;exact E6 i hr hi hw (Q7 hv h)
theorem Q9j {md:Region.Mode} {QE:Exit→Act→World→Prop} (i j:Nat) {oi oj:Oper} {fuel:Nat} {listed:Array Bool} {r1 r2:List Oper} (hr:Region.ready md ops listed=[i,j]) (hi:ops.toList.drop i=oi::r1) (hj:ops.toList.drop j=oj::r2)
 (hwi:Region.wanted oi (yielded ops a.tmps)=true) (hwj:Region.wanted oj (yielded ops a.tmps)=true)
 (h1:Oper.wp P oi a w (wpAny P md ops QE fuel (listed.setIfInBounds i true)) QE) (h2:Oper.wp P oj a w (wpAny P md ops QE fuel (listed.setIfInBounds j true)) QE):wpAny P md ops QE (fuel+1) listed a w:=
 wpAny_ready hr yW (AllReady.cons (M4 hi) (fun K hK=>by rw [if_pos hwi];exact Oper.wp_mono hK h1) (AllReady.cons (M4 hj) (fun K hK=>by rw [if_pos hwj];exact Oper.wp_mono hK h2) AllReady.nil))
theorem X8e {md:Region.Mode} {QE:Exit→Act→World→Prop} (i j k:Nat) {oi oj ok:Oper} {fuel:Nat} {listed:Array Bool} {r1 r2 r3:List Oper} (hr:Region.ready md ops listed=[i,j,k]) (hi:ops.toList.drop i=oi::r1) (hj:ops.toList.drop j=oj::r2) (hk:ops.toList.drop k=ok::r3)
 (hwi:Region.wanted oi (yielded ops a.tmps)=true) (hwj:Region.wanted oj (yielded ops a.tmps)=true) (hwk:Region.wanted ok (yielded ops a.tmps)=true)
 (h1:Oper.wp P oi a w (wpAny P md ops QE fuel (listed.setIfInBounds i true)) QE) (h2:Oper.wp P oj a w (wpAny P md ops QE fuel (listed.setIfInBounds j true)) QE) (h3:Oper.wp P ok a w (wpAny P md ops QE fuel (listed.setIfInBounds k true)) QE):wpAny P md ops QE (fuel+1) listed a w:=
 wpAny_ready hr yW (AllReady.cons (M4 hi) (fun K hK=>by rw [if_pos hwi];exact Oper.wp_mono hK h1) (AllReady.cons (M4 hj) (fun K hK=>by rw [if_pos hwj];exact Oper.wp_mono hK h2) (AllReady.cons (M4 hk) (fun K hK=>by rw [if_pos hwk];exact Oper.wp_mono hK h3) AllReady.nil)))
theorem V8m {md:Region.Mode} {QE:Exit→Act→World→Prop} (i j k b:Nat) (d e f s:Tmp) (v:Value) (vb:Value→Value) (ob:Obj) {oi oj ok ox:Oper} {fuel:Nat} {listed L:Array Bool} {r1 r2 r3 r4:List Oper} (fn:FuncId) (vs:Array Value) {Post1 Post2:Ending→World→Prop}
 (hns:Region.noSelect ops=true) (hr:Region.ready md ops listed=[i,j,k]) (hri:Region.ready md ops (listed.setIfInBounds i true)=[j,k]) (hrj:Region.ready md ops (listed.setIfInBounds j true)=[i,k]) (hrk:Region.ready md ops (listed.setIfInBounds k true)=[i,j])
 (hfij:Region.free md ops ((listed.setIfInBounds i true).setIfInBounds j true) b=true) (hrij:(Region.ready md ops ((listed.setIfInBounds i true).setIfInBounds j true)).contains b=true) (hrijb:Region.ready md ops (((listed.setIfInBounds i true).setIfInBounds j true).setIfInBounds b true)=[k])
 (hrik:Region.ready md ops ((listed.setIfInBounds i true).setIfInBounds k true)=[j]) (hrjk:Region.ready md ops ((listed.setIfInBounds j true).setIfInBounds k true)=[i])
 (hrijk:Region.ready md ops (((listed.setIfInBounds i true).setIfInBounds j true).setIfInBounds k true)=[b])
 (hi:ops.toList.drop i=oi::r1) (hj:ops.toList.drop j=oj::r2) (hk:ops.toList.drop k=ok::r3) (hb:ops.toList.drop b=ox::r4) (hd:oi.dst=some d) (he:oj.dst=some e) (hf:ok.dst=some f) (hs:ox.dst=some s) (hde:d≠e) (hdf:d≠f) (hef:e≠f) (hsf:s≠f) (hij:i≠j) (hik:i≠k) (hjk:j≠k) (hkb:k≠b)
 (hw:∀ A:Act,Region.wanted oi (yielded ops A.tmps)=true∧Region.wanted oj (yielded ops A.tmps)=true∧Region.wanted ok (yielded ops A.tmps)=true∧Region.wanted ox (yielded ops A.tmps)=true)
 (hQ:∀ c x A W,QE (.panic c) (Act.put A ox.dst x) W→QE (.panic c) A W)
 (hv:∀ (A:Act) (W:World),A=a∨(∃ u,A=a.put (some e) u)∨(∃ p,A=a.put (some f) p)∨(∃ u p,A=(a.put (some e) u).put (some f) p)→(W=w∨W=w.alloc ob∨(∃ e',Post1 e' W)∨(∃ e',Post2 e' W)∨∃ e' W1,Post1 e' W1∧W=W1.alloc ob)→(execOp A.eval oi).run P W=.ok (.value v) W)
 (hc:∀ A:Act,A=a∨A=a.put (some d) v∨(∃ p,A=a.put (some f) p)∨(∃ p,A=(a.put (some d) v).put (some f) p)→∀ W,(execOp A.eval oj).run P W=.ok (.enter fn vs) W)
 (ha:∀ (A:Act) (W:World),(execOp A.eval ok).run P W=.ok (.value (.pointer (some ⟨W.heap.size,0,none⟩))) (W.alloc ob))
 (hvb:∀ (u:Value) (W0:World),(Post1 (.returned u) W0∨Post2 (.returned u) W0)→∀ (A:Act),(A=(a.put (some d) v).put (some e) u∨∃ p,A=((a.put (some d) v).put (some e) u).put (some f) p)→∀ W,(execOp A.eval ox).run P W=.ok (.value (vb u)) W)
 (hc1:Calls P fn vs w Post1) (hc2:Calls P fn vs (w.alloc ob) Post2)
 (hL:(((listed.setIfInBounds i true).setIfInBounds j true).setIfInBounds k true).setIfInBounds b true=L)
 (h1:∀ e' w1,Post1 e' w1→∃ u,e'=.returned u∧wpAny P md ops QE fuel L ((((a.put (some d) v).put (some e) u).put (some f) (.pointer (some ⟨w1.heap.size,0,none⟩))).put (some s) (vb u)) (w1.alloc ob))
 (h2:∀ e' w1,Post2 e' w1→∃ u,e'=.returned u∧wpAny P md ops QE fuel L ((((a.put (some d) v).put (some e) u).put (some f) (.pointer (some ⟨w.heap.size,0,none⟩))).put (some s) (vb u)) w1):
 wpAny P md ops QE (fuel+1+1+1+1) listed a w:=by
 have hg:(((listed.setIfInBounds i true).setIfInBounds j true).setIfInBounds b true).setIfInBounds k true=L:=(by rw [Array.setIfInBounds_comm (xs:=(listed.setIfInBounds i true).setIfInBounds j true) _ _ (fun x=>hkb x.symm)];exact hL);have eji:(listed.setIfInBounds j true).setIfInBounds i true=(listed.setIfInBounds i true).setIfInBounds j true:=Array.setIfInBounds_comm _ _ (fun x=>hij x.symm);have eki:(listed.setIfInBounds k true).setIfInBounds i true=(listed.setIfInBounds i true).setIfInBounds k true:=Array.setIfInBounds_comm _ _ (fun x=>hik x.symm);have ekj:(listed.setIfInBounds k true).setIfInBounds j true=(listed.setIfInBounds j true).setIfInBounds k true:=Array.setIfInBounds_comm _ _ (fun x=>hjk x.symm);have eikj:((listed.setIfInBounds i true).setIfInBounds k true).setIfInBounds j true=((listed.setIfInBounds i true).setIfInBounds j true).setIfInBounds k true:=Array.setIfInBounds_comm _ _ (fun x=>hjk x.symm);have ejki:((listed.setIfInBounds j true).setIfInBounds k true).setIfInBounds i true=((listed.setIfInBounds i true).setIfInBounds j true).setIfInBounds k true:=by
  rw [Array.setIfInBounds_comm (xs:=listed.setIfInBounds j true) _ _ (fun x=>hik x.symm),eji]
 -- load and call done, the alloc still to come
 have pre:∀ (u:Value) (w1:World),Post1 (.returned u) w1→wpAny P md ops QE fuel L ((((a.put (some d) v).put (some e) u).put (some f) (.pointer (some ⟨w1.heap.size,0,none⟩))).put (some s) (vb u)) (w1.alloc ob)→
  wpAny P md ops QE (fuel+1+1) ((listed.setIfInBounds i true).setIfInBounds j true) ((a.put (some d) v).put (some e) u) w1:=fun u w1 hp h=>by
  refine wpAny_take (M4 hb) hns hfij hrij (hQ · (vb u)) (Or.inl ⟨(hw _).2.2.2,hvb u w1 (.inl hp) _ (.inl rfl)⟩) ?_;refine E6 k hrijb hk (hw _).2.2.1 (Q7 (ha _ w1) ?_);rw [hs,hf,hg,O5 f s _ _ (fun x=>hsf x.symm)];exact h
 have post:∀ (u:Value) (p:Value) (W:World),(∃ W0,Post1 (.returned u) W0∨Post2 (.returned u) W0)→wpAny P md ops QE fuel L ((((a.put (some d) v).put (some e) u).put (some f) p).put (some s) (vb u)) W→
  wpAny P md ops QE (fuel+1) (((listed.setIfInBounds i true).setIfInBounds j true).setIfInBounds k true) (((a.put (some d) v).put (some e) u).put (some f) p) W:=fun u p W ⟨W0,hp⟩ h=>by
  refine Q7z b (some s) (vb u) hrijk hb hs (hw _).2.2.2 (hvb u W0 hp _ (.inr ⟨p,rfl⟩) W) ?_;rw [hL];exact h
 refine X8e i j k hr hi hj hk (hw a).1 (hw a).2.1 (hw a).2.2.1 ?_ ?_ ?_
 ·-- the load first
  refine H9 (hv a w (.inl rfl) (.inl rfl)) ?_;rw [hd];refine Q9j j k hri hj hk (hw _).2.1 (hw _).2.2.1 ?_ ?_
  ·refine J0 (hc _ (.inr (.inl rfl)) w) hc1 fun e' w1 hp=>?_;obtain ⟨u,rfl,h⟩:=h1 e' w1 hp;refine ⟨u,rfl,?_⟩;rw [he];exact pre u w1 hp h
  ·refine Q7 (ha _ w) ?_;rw [hf];refine E6 j hrik hj (hw _).2.1 (J0 (hc _ (.inr (.inr (.inr ⟨_,rfl⟩))) _) hc2 fun e' w1 hp=>?_);obtain ⟨u,rfl,h⟩:=h2 e' w1 hp;refine ⟨u,rfl,?_⟩;rw [he,eikj,O5 e f _ _ hef];exact post u _ w1 ⟨w1,.inr hp⟩ h
 ·-- the call first
  refine J0 (hc a (.inl rfl) w) hc1 fun e' w1 hp=>?_;obtain ⟨u,rfl,h⟩:=h1 e' w1 hp;refine ⟨u,rfl,?_⟩;rw [he];refine Q9j i k hrj hi hk (hw _).1 (hw _).2.2.1 ?_ ?_
  ·refine H9 (hv _ w1 (.inr (.inl ⟨u,rfl⟩)) (.inr (.inr (.inl ⟨_,hp⟩)))) ?_;rw [hd,eji,O5 d e _ _ hde];exact pre u w1 hp h
  ·refine Q7 (ha _ w1) ?_;rw [hf];refine E6 i hrjk hi (hw _).1 (H9 (hv _ _ (.inr (.inr (.inr ⟨_,_,rfl⟩))) (.inr (.inr (.inr (.inr ⟨_,w1,hp,rfl⟩))))) ?_);rw [hd,ejki,O5 d f _ _ hdf,O5 d e _ _ hde];exact post u _ _ ⟨w1,.inl hp⟩ h
 ·-- the alloc first
  refine Q7 (ha a w) ?_;rw [hf];refine Q9j i j hrk hi hj (hw _).1 (hw _).2.1 ?_ ?_
  ·refine H9 (hv _ _ (.inr (.inr (.inl ⟨_,rfl⟩))) (.inr (.inl rfl))) ?_;rw [hd,eki];refine E6 j hrik hj (hw _).2.1 (J0 (hc _ (.inr (.inr (.inr ⟨.pointer (some ⟨w.heap.size,0,none⟩),by rw [O5 d f _ _ hdf]⟩))) _) hc2 fun e' w1 hp=>?_);obtain ⟨u,rfl,h⟩:=h2 e' w1 hp;refine ⟨u,rfl,?_⟩;rw [he,eikj,O5 d f _ _ hdf,O5 e f _ _ hef];exact post u _ w1 ⟨w1,.inr hp⟩ h
  ·refine J0 (hc _ (.inr (.inr (.inl ⟨_,rfl⟩))) _) hc2 fun e' w1 hp=>?_;obtain ⟨u,rfl,h⟩:=h2 e' w1 hp;refine ⟨u,rfl,?_⟩;rw [he,ekj];refine E6 i hrjk hi (hw _).1 (H9 (hv _ _ (.inr (.inr (.inr ⟨u,.pointer (some ⟨w.heap.size,0,none⟩),by rw [O5 e f _ _ hef]⟩))) (.inr (.inr (.inr (.inl ⟨_,hp⟩))))) ?_);rw [hd,ejki,O5 e f _ _ hef,O5 d f _ _ hdf,O5 d e _ _ hde];exact post u _ w1 ⟨w1,.inr hp⟩ h
end
section
variable {P:Program} {ops:Array Oper} {a:Act} {w:World}
def Q8c (md:Region.Mode) (ops:Array Oper) (listed:Array Bool) (i:Nat) (oi:Oper) (a:Act) (b:Bool):Bool:=
 Region.noSelect ops && Region.free md ops listed i && (Region.ready md ops listed).contains i && (Region.wanted oi (yielded ops a.tmps)==b)
theorem X9c {md:Region.Mode} {listed:Array Bool} {i:Nat} {oi:Oper} {b:Bool} (h:Q8c md ops listed i oi a b=true):Region.noSelect ops=true∧Region.free md ops listed i=true∧(Region.ready md ops listed).contains i=true∧Region.wanted oi (yielded ops a.tmps)=b:=by
 unfold Q8c at h;simp only [Bool.and_eq_true,beq_iff_eq] at h;exact ⟨h.1.1.1,h.1.1.2,h.1.2,h.2⟩
theorem zzA {md:Region.Mode} {QE:Exit→Act→World→Prop} (i:Nat) {oi:Oper} (v:Value) {fuel:Nat} {listed:Array Bool} {rs:List Oper} (d:Option Tmp) (hi0:ops.toList.drop i=oi::rs)
 (hv:∀ w,(execOp a.eval oi).run P w=.ok (.value v) w)
 (h:wpAny P md ops QE fuel (listed.setIfInBounds i true) (a.put d v) w)
 (hd:oi.dst=d:=by rfl) (hc:Q8c md ops listed i oi a true=true:=by kernel_rfl) (hQ:∀ c a w,QE (.panic c) (a.put oi.dst v) w→QE (.panic c) a w:=by exact fun _ _ _ h=>h):wpAny P md ops QE (fuel+1) listed a w:=by
 obtain ⟨h1,h2,h3,h4⟩:=X9c hc;exact V2g d hi0 hd h1 h2 h3 hQ h4 hv h
theorem zzM {md:Region.Mode} {QE:Exit→Act→World→Prop} (i:Nat) {oi:Oper} (v:Value) {fuel:Nat} {listed:Array Bool} {rs:List Oper} (d:Option Tmp) (hi0:ops.toList.drop i=oi::rs)
 (h:wpAny P md ops QE fuel (listed.setIfInBounds i true) (a.put d v) w) {x:Operand} (ho:oi.op=.move x:=by rfl) (hx:a.eval x=v:=by kernel_rfl)
 (hd:oi.dst=d:=by rfl) (hc:Q8c md ops listed i oi a true=true:=by kernel_rfl) (hQ:∀ c a w,QE (.panic c) (a.put oi.dst v) w→QE (.panic c) a w:=by exact fun _ _ _ h=>h):wpAny P md ops QE (fuel+1) listed a w:=
 zzA i v d hi0 (fun _=>Z1z x v ho hx) h hd hc hQ
theorem zzG {md:Region.Mode} {QE:Exit→Act→World→Prop} (i:Nat) {oi:Oper} (v:Value) {fuel:Nat} {listed:Array Bool} {rs:List Oper} (d:Option Tmp) (hi0:ops.toList.drop i=oi::rs)
 (h:wpAny P md ops QE fuel (listed.setIfInBounds i true) (a.put d v) w) {x:Operand} (ho:oi.op=.assign x:=by rfl) (hx:a.eval x=v:=by kernel_rfl)
 (hd:oi.dst=d:=by rfl) (hc:Q8c md ops listed i oi a true=true:=by kernel_rfl) (hQ:∀ c a w,QE (.panic c) (a.put oi.dst v) w→QE (.panic c) a w:=by exact fun _ _ _ h=>h):wpAny P md ops QE (fuel+1) listed a w:=
 zzA i v d hi0 (fun _=>X9q x v ho hx) h hd hc hQ
theorem zzS {md:Region.Mode} {QE:Exit→Act→World→Prop} (i:Nat) {oi:Oper} {fuel:Nat} {listed:Array Bool} {rs:List Oper} (d:Option Tmp) (hi0:ops.toList.drop i=oi::rs)
 (h:wpAny P md ops QE fuel (listed.setIfInBounds i true) (a.put d undef) w)
 (hd:oi.dst=d:=by rfl) (hc:Q8c md ops listed i oi a false=true:=by kernel_rfl) (hQ:∀ c a w,QE (.panic c) (a.put oi.dst undef) w→QE (.panic c) a w:=by exact fun _ _ _ h=>h):wpAny P md ops QE (fuel+1) listed a w:=by
 obtain ⟨h1,h2,h3,h4⟩:=X9c hc;exact Z1b i d hi0 hd h1 h2 h3 hQ h4 h
end
theorem kr {p:Prop} (h:p:=by kernel_rfl):p:=h
section
variable {P:Program} {ops:Array Oper} {a:Act} {w:World} {o oi oj ok:Oper} {md:Region.Mode} {QE:Exit→Act→World→Prop} {fuel:Nat} {listed:Array Bool} {rs rs2 rs3:List Oper}
theorem zqM (i n:Nat) (v:Value) (hi0:ops.toList.drop i=oi::rs) (h:wpAny P md ops QE fuel (listed.setIfInBounds i true) (a.put (some n) v) w) {x:Operand} (ho:oi.op=.move x:=by rfl) (hx:a.eval x=v:=by kernel_rfl)
 (hd:oi.dst=some n:=by rfl) (hc:Q8c md ops listed i oi a true=true:=by kernel_rfl) (hQ:∀ c a w,QE (.panic c) (a.put oi.dst v) w→QE (.panic c) a w:=by exact fun _ _ _ h=>h):wpAny P md ops QE (fuel+1) listed a w:=
 zzA i v (some n) hi0 (fun _=>Z1z x v ho hx) h hd hc hQ
theorem zqG (i n:Nat) (v:Value) (hi0:ops.toList.drop i=oi::rs) (h:wpAny P md ops QE fuel (listed.setIfInBounds i true) (a.put (some n) v) w) {x:Operand} (ho:oi.op=.assign x:=by rfl) (hx:a.eval x=v:=by kernel_rfl)
 (hd:oi.dst=some n:=by rfl) (hc:Q8c md ops listed i oi a true=true:=by kernel_rfl) (hQ:∀ c a w,QE (.panic c) (a.put oi.dst v) w→QE (.panic c) a w:=by exact fun _ _ _ h=>h):wpAny P md ops QE (fuel+1) listed a w:=
 zzA i v (some n) hi0 (fun _=>X9q x v ho hx) h hd hc hQ
theorem zqS (i n:Nat) (hi0:ops.toList.drop i=oi::rs) (h:wpAny P md ops QE fuel (listed.setIfInBounds i true) (a.put (some n) undef) w)
 (hd:oi.dst=some n:=by rfl) (hc:Q8c md ops listed i oi a false=true:=by kernel_rfl) (hQ:∀ c a w,QE (.panic c) (a.put oi.dst undef) w→QE (.panic c) a w:=by exact fun _ _ _ h=>h):wpAny P md ops QE (fuel+1) listed a w:=
 zzS i (some n) hi0 h hd hc hQ
theorem zqB (i n:Nat) (v:Value) (hi0:ops.toList.drop i=oi::rs) {op:BinOp} {t t2:TypeId} {x y:Operand} (ho:oi.op=.binOp op t x y t2) (vx vy:Value)
 (h:wpAny P md ops QE fuel (listed.setIfInBounds i true) (a.put (some n) v) w) (hx:a.eval x=vx:=by kernel_rfl) (hy:a.eval y=vy:=by kernel_rfl)
 (hr:∀ w:World,(do eqGuard op t x y vx vy;Go.binOp op t vx vy:Sem Value).run P w=.ok v w:=by intro _;go_simp)
 (hd:oi.dst=some n:=by rfl) (hc:Q8c md ops listed i oi a true=true:=by kernel_rfl) (hQ:∀ c a w,QE (.panic c) (a.put oi.dst v) w→QE (.panic c) a w:=by exact fun _ _ _ h=>h):wpAny P md ops QE (fuel+1) listed a w:=
 zzA i v (some n) hi0 (fun w=>Y4j op t t2 x y vx vy v ho hx hy (hr w)) h hd hc hQ
theorem zqP (i n:Nat) (v:Value) (hi0:ops.toList.drop i=oi::rs) {c x y:Operand} (ho:oi.op=.pick c x y) (b:Bool)
 (h:wpAny P md ops QE fuel (listed.setIfInBounds i true) (a.put (some n) v) w) (hb:a.eval c=.bool b:=by kernel_rfl) (hv:(if b=true then a.eval x else a.eval y)=v:=by kernel_rfl)
 (hd:oi.dst=some n:=by rfl) (hc:Q8c md ops listed i oi a true=true:=by kernel_rfl) (hQ:∀ c a w,QE (.panic c) (a.put oi.dst v) w→QE (.panic c) a w:=by exact fun _ _ _ h=>h):wpAny P md ops QE (fuel+1) listed a w:=
 zzA i v (some n) hi0 (fun w=>by rw [←hv];exact V3m c x y b (a.eval x) (a.eval y) ho hb rfl rfl) h hd hc hQ
theorem zqF (i n:Nat) (v:Value) (hi0:ops.toList.drop i=oi::rs) {t:TypeId} {x:Operand} {f:Nat} (ho:oi.op=.fieldAddr t x f) (vx:Value)
 (h:wpAny P md ops QE fuel (listed.setIfInBounds i true) (a.put (some n) v) w) (hx:a.eval x=vx:=by kernel_rfl) (hr:∀ w:World,(Instr.fieldAt t vx f).run P w=.ok v w:=by intro _;go_simp)
 (hd:oi.dst=some n:=by rfl) (hc:Q8c md ops listed i oi a true=true:=by kernel_rfl) (hQ:∀ c a w,QE (.panic c) (a.put oi.dst v) w→QE (.panic c) a w:=by exact fun _ _ _ h=>h):wpAny P md ops QE (fuel+1) listed a w:=
 zzA i v (some n) hi0 (fun w=>Y1l t x f vx v ho hx (hr w)) h hd hc hQ
theorem zqI (i n:Nat) (v:Value) (hi0:ops.toList.drop i=oi::rs) {t:TypeId} {x y:Operand} (ho:oi.op=.indexAddr t x y) (vx vy:Value)
 (h:wpAny P md ops QE fuel (listed.setIfInBounds i true) (a.put (some n) v) w) (hx:a.eval x=vx:=by kernel_rfl) (hy:a.eval y=vy:=by kernel_rfl) (hr:∀ w:World,(Instr.indexAt t vx vy).run P w=.ok v w:=by intro _;go_simp)
 (hd:oi.dst=some n:=by rfl) (hc:Q8c md ops listed i oi a true=true:=by kernel_rfl) (hQ:∀ c a w,QE (.panic c) (a.put oi.dst v) w→QE (.panic c) a w:=by exact fun _ _ _ h=>h):wpAny P md ops QE (fuel+1) listed a w:=
 zzA i v (some n) hi0 (fun w=>Y1m t x y vx vy v ho hx hy (hr w)) h hd hc hQ
theorem zqJ (i n:Nat) (v:Value) (hi0:ops.toList.drop i=oi::rs) {t:TypeId} {x y:Operand} (ho:oi.op=.index t x y) (vx vy:Value)
 (h:wpAny P md ops QE fuel (listed.setIfInBounds i true) (a.put (some n) v) w) (hx:a.eval x=vx:=by kernel_rfl) (hy:a.eval y=vy:=by kernel_rfl) (hr:∀ w:World,(Instr.index t vx vy).run P w=.ok v w:=by intro _;go_simp)
 (hd:oi.dst=some n:=by rfl) (hc:Q8c md ops listed i oi a true=true:=by kernel_rfl) (hQ:∀ c a w,QE (.panic c) (a.put oi.dst v) w→QE (.panic c) a w:=by exact fun _ _ _ h=>h):wpAny P md ops QE (fuel+1) listed a w:=
 zzA i v (some n) hi0 (fun w=>Z8r t x y vx vy v ho hx hy (hr w)) h hd hc hQ
def V9v:Value→Nat→Option Value
 | .tuple vs,k=>vs[k]?
 | _,_=>none
theorem zqE (i n:Nat) (v:Value) (hi0:ops.toList.drop i=oi::rs) {x:Operand} {k:Nat} (ho:oi.op=.extract x k)
 (h:wpAny P md ops QE fuel (listed.setIfInBounds i true) (a.put (some n) v) w) (hv:V9v (a.eval x) k=some v:=by kernel_rfl)
 (hd:oi.dst=some n:=by rfl) (hc:Q8c md ops listed i oi a true=true:=by kernel_rfl) (hQ:∀ c a w,QE (.panic c) (a.put oi.dst v) w→QE (.panic c) a w:=by exact fun _ _ _ h=>h):wpAny P md ops QE (fuel+1) listed a w:=
 zzA i v (some n) hi0 (fun w=>by
  generalize a.eval=ρ at hv ⊢;unfold execOp;simp only [ho];generalize ρ x=u at hv ⊢;unfold V9v at hv;split at hv
  ·go_simp
  ·cases hv) h hd hc hQ
theorem zqV (i n:Nat) (v:Value) (hi:ops.toList.drop i=oi::rs) {t:TypeId} {x:Operand} (ho:oi.op=.load t x) (vx:Value) (hr:(Instr.loadAt t vx).run P w=.ok v w)
 (h:wpAny P md ops QE fuel (listed.setIfInBounds i true) (a.put (some n) v) w) (hx:a.eval x=vx:=by kernel_rfl) (hd:oi.dst=some n:=by rfl)
 (hk:Region.ready md ops listed=[i]:=by kernel_rfl) (hw:Region.wanted oi (yielded ops a.tmps)=true:=by kernel_rfl):wpAny P md ops QE (fuel+1) listed a w:=
 Q7z i (some n) v hk hi hd hw (Z1y t x vx v ho hx hr) h
theorem zqL (v:Value) {K:Act→World→Prop} {t:TypeId} {x:Operand} (ho:o.op=.load t x) (vx:Value) (hr:(Instr.loadAt t vx).run P w=.ok v w) (h:K (a.put o.dst v) w) (hx:a.eval x=vx:=by kernel_rfl):Oper.wp P o a w K QE:=
 H9 (Z1y t x vx v ho hx hr) h
theorem zqo (i:Nat) (hi:ops.toList.drop i=oi::rs) (h:Oper.wp P oi a w (wpAny P md ops QE fuel (listed.setIfInBounds i true)) QE)
 (hr:Region.ready md ops listed=[i]:=by kernel_rfl) (hw:Region.wanted oi (yielded ops a.tmps)=true:=by kernel_rfl):wpAny P md ops QE (fuel+1) listed a w:=E6 i hr hi hw h
theorem zqt (i j:Nat) (hi:ops.toList.drop i=oi::rs) (hj:ops.toList.drop j=oj::rs2)
 (h1:Oper.wp P oi a w (wpAny P md ops QE fuel (listed.setIfInBounds i true)) QE) (h2:Oper.wp P oj a w (wpAny P md ops QE fuel (listed.setIfInBounds j true)) QE)
 (hr:Region.ready md ops listed=[i,j]:=by kernel_rfl) (hwi:Region.wanted oi (yielded ops a.tmps)=true:=by kernel_rfl) (hwj:Region.wanted oj (yielded ops a.tmps)=true:=by kernel_rfl):wpAny P md ops QE (fuel+1) listed a w:=Q4c i j hr hi hj hwi hwj h1 h2
theorem zqh (i j k:Nat) (hi:ops.toList.drop i=oi::rs) (hj:ops.toList.drop j=oj::rs2) (hk:ops.toList.drop k=ok::rs3)
 (h1:Oper.wp P oi a w (wpAny P md ops QE fuel (listed.setIfInBounds i true)) QE) (h2:Oper.wp P oj a w (wpAny P md ops QE fuel (listed.setIfInBounds j true)) QE) (h3:Oper.wp P ok a w (wpAny P md ops QE fuel (listed.setIfInBounds k true)) QE)
 (hr:Region.ready md ops listed=[i,j,k]:=by kernel_rfl) (hwi:Region.wanted oi (yielded ops a.tmps)=true:=by kernel_rfl) (hwj:Region.wanted oj (yielded ops a.tmps)=true:=by kernel_rfl) (hwk:Region.wanted ok (yielded ops a.tmps)=true:=by kernel_rfl):wpAny P md ops QE (fuel+1) listed a w:=X8e i j k hr hi hj hk hwi hwj hwk h1 h2 h3
theorem zqK (i n:Nat) (hi:ops.toList.drop i=oi::rs) {f:FuncId} (vs:Array Value) {Post:Ending→World→Prop} (hc:Calls P f vs w Post)
 (h:∀ e w',Post e w'→∃ v,e=.returned v∧wpAny P md ops QE fuel (listed.setIfInBounds i true) (a.put (some n) v) w') (hrun:(execOp a.eval oi).run P w=.ok (.enter f vs) w:=by go_simp) (hd:oi.dst=some n:=by rfl)
 (hr:Region.ready md ops listed=[i]:=by kernel_rfl) (hw:Region.wanted oi (yielded ops a.tmps)=true:=by kernel_rfl):wpAny P md ops QE (fuel+1) listed a w:=
 Z1a i (some n) hr hi hd hw f vs hrun hc h
theorem zqX {a':Act} {l':Array Bool} (h:wpAny P md ops QE fuel listed a w) (e:a=a':=by kernel_rfl) (el:listed=l':=by kernel_rfl):wpAny P md ops QE fuel l' a' w:=by
 subst e el;exact h
theorem zqR {id:Nat} {l0:Array Bool} (n:Nat) (hl:Array.replicate n false=l0) (h:wpAny P .any ops QE n l0 a w.drew) (hn:ops.size=n:=by rfl) (hm:P.follows .mixedOrders=true:=by kernel_rfl):(Code.region id ops true).wp P QE a w:=
 Y3f n l0 hn hl hm h
end
theorem Y3e {o:Oper} {a:Act} {K:Act→World→Prop} {Q:Exit→Act→World→Prop} {w:World} {α:Type} (hgd:o.guard=none) (s x:Operand) (t e:TypeId)
 (ho:o.op=.call { callee:=.builtin .append,args:=#[s,x],argTypes:=#[t,t] })
 (ht:Tryz.prog.underlying t=some (.slice e)) (z:Value) (f:α→List Value) (size bytes:Nat) (hinfo:(Tryz.prog.info? e).map (fun i=>(i.zero,i.size,i.bytes))=some (some z,size,bytes)) (hzs:z.cells.size=size) (hsz:0 < size)
 (hm:∀ x,(f x).length=size) (h1:∀ x,∀ u∈f x,u.oneCell'=true)
 (base:Nat) (v:Value) (l:List α) (hs:a.eval s=v) (hown:w.ownsRow base e size v l.length (l.flatMap f))
 (v2:Value) (l2:List α) (hx:a.eval x=v2) (hrd:RdE f size w v2 l2)
 (hbytes:(l.length+l2.length) * bytes≤140737488355328) (hb1:1≤bytes) (hbase:base≤w.heap.size)
 (h:∀ v' w',w'.ownsRow base e size v' (l++l2).length ((l++l2).flatMap f)→(∀ B W,B≤base→Below B W w→Below B W w')→w.grownBy w' v.ownBlock→(v'.ownBlock=v.ownBlock∨v'.ownBlock=some w.heap.size)→K (a.put o.dst v') w'):
 Oper.wp Tryz.prog o a w K Q:=by
 have hh:=T0 (P:=Tryz.prog) (ops:=#[]) (E:=True) (Q:=Q) hgd s x t e ho ht z f size bytes hinfo hzs hsz hm h1 base v l hs hown v2 l2 hx hrd hbytes hb1 hbase h;rw [if_pos (by unfold Region.wanted;rw [hgd])] at hh;exact hh
theorem Z6 {α:Type} (f:α→List Value) (m:Nat) (_hm:∀ x,(f x).length=m) (w:World) (g:Nat) (hg:w.heap.size=g) (x:α) (t:TypeId):RdE f m (w.alloc (.cells (f x).toArray t)) (.slice (some ⟨g,0,none⟩) 1 1) [x]:=by
 subst hg;refine ⟨some ⟨w.heap.size,0,none⟩,1,rfl,by simp,(fun h=>by cases h),fun _=>⟨w.heap.size,0,rfl,by simp,fun i y j u hi hj=>?_⟩⟩;have ha:i=0:=by
  have:=(List.getElem?_eq_some_iff.1 hi).1;simpa using this
 subst ha;simp at hi;subst hi;have:=F4 w (f x) t j u hj;rw [Addr.add_lit] at this;simpa using this
theorem bx3 {w:World} {b:Nat} {v0 v1 v2:Value} {t:TypeId} (h:w.heap[b]? =some (.cells #[v0,v1,v2] t)):
 w.cell? ⟨b,0,none⟩=some v0∧w.cell? ⟨b,1,none⟩=some v1∧w.cell? ⟨b,2,none⟩=some v2∧w.frozen? ⟨b,0,none⟩=false∧w.frozen? ⟨b,1,none⟩=false∧w.frozen? ⟨b,2,none⟩=false:=
 ⟨by rw [cell_of_row _ _ 0 _ _ _ h];rfl,by rw [cell_of_row _ _ 1 _ _ _ h];rfl,by rw [cell_of_row _ _ 2 _ _ _ h];rfl,frozen_of_row w b 0 _ _ h,frozen_of_row w b 1 _ _ h,frozen_of_row w b 2 _ _ h⟩
theorem R3 {w:World} {b:Nat} {cs:Array Value} {t:TypeId} (h:w.heap[b]? =some (.cells cs t)) (j:Nat) (u:Value):(w.setCell ⟨b,j,none⟩ u).heap[b]? =some (.cells (cs.setIfInBounds j u) t):=
 heap_setCell_same w b j _ _ _ h
theorem K8 {w:World} {b o:Nat} {x:ByteArray} (h:w.cell? ⟨b,o,none⟩=some (.string x)):(Instr.loadAt 9 (.pointer (some ⟨b,o,none⟩))).run Tryz.prog w=.ok (.string x) w:=by
 go_simp
theorem V3y:(Tryz.prog.info? 31).map (·.size)=some 3:=by kernel_rfl
theorem V4i {w:World} {b o:Nat} {x:Int} (h:w.cell? ⟨b,o,none⟩=some (.int .i64 x)):(Instr.loadAt 3 (.pointer (some ⟨b,o,none⟩))).run Tryz.prog w=.ok (.int .i64 x) w:=by
 go_simp
theorem Z1x {o:Oper} {a:Act} {w:World} (x y z:Operand) (k:Int) (s:ByteArray) (d:Int) (ho:o.op=.build 31 #[(0,x),(1,y),(2,z)]) (hx:a.eval x=.int .i64 k) (hy:a.eval y=.string s) (hz:a.eval z=.int .i64 d):(execOp a.eval o).run Tryz.prog w=.ok (.value (.agg #[.int .i64 k,.string s,.int .i64 d])) w:=by
 generalize a.eval=ρ at hx hy hz ⊢;unfold execOp;simp only [ho];go_simp
theorem Z1w {o:Oper} {a:Act} {w:World} (x:Operand) (k:Int) (s:ByteArray) (d:Int) (ho:o.op=.buildSlice 24 1 #[(0,x)]) (hx:a.eval x=.agg #[.int .i64 k,.string s,.int .i64 d]):(execOp a.eval o).run Tryz.prog w=.ok (.value (.slice (some ⟨w.heap.size,0,none⟩) 1 1)) (w.alloc (.cells #[.int .i64 k,.string s,.int .i64 d] 31)):=by
 generalize a.eval=ρ at hx ⊢;unfold execOp;simp only [ho];go_simp
def Z1h (w:World) (l:List Tk) (e:Ending) (w':World):Prop:=∃ v,e=.returned (.tuple #[v,.bool true])∧OwnE 31 tkC 3 w' w.heap.size v l∧Below w.heap.size w w'
theorem Z0i (f:List Tk) (v:Value) (p q:Nat) (w:World) (h1:RdT w v f) (hl:X2 f≤1000000000000000000) (hfl:f.length≤1000000) (hpq:p≤q) (hq:q≤X2 f):
 Calls Tryz.prog 171 #[v,.int .i64 (p:Int),.int .i64 (q:Int)] w (Z1h w (slI f 0 p q)):=by
 obtain ⟨R,hS⟩:∃ R,yK (R=Z1h w (slI f 0 p q)):=⟨_,rfl⟩;rw [←hS.o];obtain ⟨A,c,rfl,_,_⟩:=h1.shape;have HL:=zW (Q6q f _ w h1 hl hfl);have H1:=zW h1;clear h1;have Hl:¬ (p:Int) < 0:=yY;have Hm:¬ (q:Int) < (p:Int):=yY;have Hn:(p:Int)≤(q:Int):=yY;obtain ⟨n,hn⟩:∃ n,yK (n=X2 f):=⟨_,rfl⟩;rw [←hn.o] at hl hq HL;have Hk:¬ (n:Int) < (q:Int):=yY;have Hg:decide (n < q)=false:=decide_eq_false yY;go_enter Tryz.func171,Tryz.ntmps171
 go_upto_region 6 with (go_at_call 91;refine HL.o.mono ?_;rintro e w1 ⟨rfl,rfl⟩)
 obtain ⟨wo,hY⟩:∃ wo,yK (wo=w):=⟨w,rfl⟩;go_loopg [8,9,10,11,12,13,29] f.length (fun gk ov av iv xv a1 b1 jv wr=>∃ k at_:Nat,av=.int .i64 at_∧jv=.int .i64 k∧k≤f.length∧yK (at_=X2 (f.take k))∧yK (OwnE 31 tkC 3 wr w.heap.size ov (slI (f.take k) 0 p q))∧yK (Below w.heap.size w wr)∧f.length - k≤gk)
 case atStart=>exact ⟨0,0,rfl,rfl,Nat.zero_le _,by (show _=_);rw [List.take_zero];rfl,OwnE.nil,Below.refl _ _,yY⟩
 case round=>
  clear hY;obtain ⟨k,a0,rfl,rfl,hk,HA,HO,HB,hgk⟩:=hrel;by_cases hkl:k < f.length
  ·have Hj:(k:Int) < (f.length:Int):=yY;have Hi:(0:Int)≤(k:Int):=yY;obtain ⟨b,o,rfl,hM,q1,q2,q3⟩:=RdT.at_ H1.o k hkl;have Ho:=HB.o.size;rw [←HB.o.cell (p:=⟨b,o+k * 3,none⟩) hM] at q1;rw [←HB.o.cell (p:=⟨b,o+k * 3+1,none⟩) hM] at q2;rw [←HB.o.cell (p:=⟨b,o+k * 3+2,none⟩) hM] at q3;have Ha:b < wr.heap.size:=yY;have hr:=Q4q f (k+1);have hc:=zW (Y7k f p q k hkl);have hi:=zW (M0 f k hkl);rw [hi.o,←HA.o] at hr;rw [←HA.o] at hc hi;have hO:=X4t (f.take k) 0 p q;rw [List.length_take] at hO;obtain ⟨Ao,co,hW⟩:=Q0 HO.o;generalize hol0:(slI (f.take k) 0 p q).length=no at hW hO;subst hW;have he:=zW hol0;clear hol0;have Hh:no≤1000000:=yY;clear hO;generalize f[k]=x at q1 q2 q3 hc hi hr;obtain ⟨xk,xt,xd⟩:=x;simp only at q1 q2 q3;rw [←hn.o] at hr;have hI:=zW ((Below.refl wr.heap.size wr).alloc yQ (.cells #[.int .i64 xk,.string xt,.int .i64 xd] 31));have HX:yK ((wr.alloc (.cells #[.int .i64 xk,.string xt,.int .i64 xd] 31)).heap[wr.heap.size]? =some (.cells #[.int .i64 xk,.string xt,.int .i64 xd] 31)):=heap_alloc_new wr _;go_upto_region 9 with fail
   generalize wr.alloc (.cells #[.int .i64 xk,.string xt,.int .i64 xd] 31)=w1 at hI HX ⊢;obtain ⟨g,hg⟩:∃ g,yK (g=wr.heap.size):=⟨_,rfl⟩;rw [←hg.o] at HX ⊢;have hV:g < w1.heap.size:=(Array.getElem?_eq_some_iff.1 HX.o).1;have Hp:wr.heap.size≤g:=Nat.le_of_eq hg.o.symm;clear q1 q2 q3;obtain ⟨x0,x1,x2,_⟩:=bx3 HX.o;have hw:=zW (V4 HO.o hI.o yQ);have hs:=zW (HB.o.trans (hI.o.mono HB.o.size));have hQ:=hs.o.size;unfold pcI at hc;unfold wdI at hi hr;simp only at hc hi hr;by_cases hx:xk=1
   ·subst hx;have t1:((1:Int) != 1)=false:=rfl;simp only [ne_eq,not_true_eq_false,if_false,if_true] at hc hi hr;have Hq:xt.size≤1000000000000000000:=yY;have hZ:a0≤1000000000000000000:=yY;have hJ:yK (w1.drew.heap[g]? =some (.cells #[.int .i64 1,.string xt,.int .i64 xd] 31)):=HX.o;have hz:=zW (V4 hw.o (Q1 (Below.refl w1.heap.size w1) 1) yQ);have ht:=zW (Q1 hs.o 1);have hp:g < w1.drew.heap.size:=hV;have hX:w.heap.size≤w1.drew.heap.size:=hQ;change yK (OwnE 31 tkC 3 w1.drew w.heap.size _ _) at hz
    change yK (Below w.heap.size w w1.drew) at ht
    have hR:yK (∀ k,(Value.slice Ao no co).ownBlock=some k→k < g):=fun k hk=>by have:=(HO.o.lt k hk).2;omega
    go_upto_region 13 with fail
    go_region
    clear HX x0 x1 x2 hw hs hV hQ HO HB hI;generalize w1.drew=w2 at hJ hz ht hp hX ⊢;obtain ⟨x0,x1,x2,_⟩:=bx3 hJ.o;have hj:yK (a0+xt.size=X2 (f.take (k+1))):=hi.o.symm;generalize hca:max p a0 - a0=ca at hc;rw [show max (p:Int) (a0:Int) - (a0:Int)=(ca:Int) by omega];by_cases hqa:a0≤q
    ·generalize hcb:min q (a0+xt.size) - a0=cb at hc;rw [show min (q:Int) ((a0:Int)+(xt.size:Int)) - (a0:Int)=(cb:Int) by omega];have He:cb≤xt.size:=yY;clear hca hcb;by_cases hab:ca < cb
     ·have hF:(ca:Int) < (cb:Int):=yY;rw [if_pos hab] at hc;have Hd:(cb:Int)≤(xt.size:Int):=yY;have hU:(ca:Int)≤(cb:Int):=yY;have Hb:(0:Int)≤(ca:Int):=yY;have Hc:(0:Int)≤(cb:Int):=yY;go_upto_region 15 with fail
      obtain ⟨y,hy⟩:∃ y,yK (y=xt.extract ca cb):=⟨_,rfl⟩;have hT:yK (∀ W:World,(Instr.sliceAt 9 (.string xt) (some (.int .i64 (ca:Int))) (some (.int .i64 (cb:Int))) none).run Tryz.prog W=.ok (.string y) W):=fun W=>by
       rw [hy.o];go_simp
      have hG:yK ((Instr.loadAt 9 (.pointer (some ⟨g,1,none⟩))).run Tryz.prog w2.drew=.ok (.string xt) w2.drew):=K8 x1;have hH:yK ((Instr.loadAt 3 (.pointer (some ⟨g,2,none⟩))).run Tryz.prog w2.drew=.ok (.int .i64 xd) w2.drew):=V4i x2;have hu:=zW (Q1 ht.o 1);change yK (Below w.heap.size w w2.drew) at hu
      have hA:=zW (V4 hz.o (Q1 (Below.refl w2.heap.size w2) 1) yQ);change yK (OwnE 31 tkC 3 w2.drew w.heap.size _ _) at hA
      have hK:w.heap.size≤w2.drew.heap.size:=hX;rw [←hy.o] at hc;refine zqR (l0:=#[false,false,false,false,false,false,false,false,false,false,false,false]) 12 rfl ?_;refine zqM 0 70 (.slice Ao no co) rfl ?_;refine zqF 1 71 (.pointer (some ⟨g,1,none⟩)) rfl rfl (.pointer (some ⟨g,0,none⟩)) ?_;refine zqM 3 73 (.int .i64 (ca:Int)) rfl ?_;refine zqM 4 74 (.int .i64 (cb:Int)) rfl ?_;refine zqF 6 76 (.pointer (some ⟨g,2,none⟩)) rfl rfl (.pointer (some ⟨g,0,none⟩)) ?_;simp only [Act.put,zZ,zY,zX];refine zqt 2 7 rfl rfl ?_ ?_
      ·refine zqL (.string xt) rfl (.pointer (some ⟨g,1,none⟩)) (hG.o) ?_;simp only [Act.put,zZ,zY,zX];refine zzA 5 (.string y) (some 75) rfl (fun _=>X0c 9 _ _ _ (.string xt) _ (some (.int .i64 (ca:Int))) (some (.int .i64 (cb:Int))) rfl yZ yZ yZ (hT.o _)) ?_;simp only [Act.put,zZ,zY,zX];refine zqV 7 77 (.int .i64 xd) rfl rfl (.pointer (some ⟨g,2,none⟩)) (hH.o) ?_;simp only [Act.put,zZ,zY,zX];refine zzA 8 (.agg #[.int .i64 1,.string y,.int .i64 xd]) (some 78) rfl (fun _=>Z1x (.const (.int .i64 1)) (.tmp 75) (.tmp 77) 1 y xd rfl rfl yZ yZ) ?_;simp only [Act.put,zZ,zY,zX];have hD:yK (w2.drew.heap[g]? =some (.cells #[.int .i64 1,.string xt,.int .i64 xd] 31)):=hJ.o;have hh:g < w2.drew.heap.size:=hp;clear hG hH;generalize w2.drew=w3 at hu hA hK hD hh ⊢;have hB:=zW (V4 hA.o ((Below.refl w3.heap.size w3).alloc yQ (.cells (tkC ⟨1,y,xd⟩).toArray 31)) yQ);refine Q9k 9 (some 79) (.slice (some ⟨w3.heap.size,0,none⟩) 1 1) (w3.alloc (.cells (tkC ⟨1,y,xd⟩).toArray 31)) yZ rfl rfl yZ (Z1w (.tmp 78) 1 y xd rfl yZ) ?_;simp only [Act.put,zZ,zY,zX];refine zqo 10 rfl ?_;refine Y3e rfl (.tmp 70) (.tmp 79) 24 31 rfl Tryz.underlying24 _ tkC 3 32 Z7 rfl yX Q5 K2 w.heap.size (.slice Ao no co) (slI (f.take k) 0 p q) rfl hB.o (.slice (some ⟨w3.heap.size,0,none⟩) 1 1) [⟨1,y,xd⟩] rfl (Z6 tkC 3 Q5 w3 _ rfl ⟨1,y,xd⟩ 31) (by rw [he.o,List.length_singleton];omega) yX yV ?_;intro v9 w9 ha hb hd hf;obtain ⟨A9,c9,ho⟩:=Q0 ha;rw [List.length_append,he.o] at ho;subst ho;have hC:yK (OwnE 31 tkC 3 w9 w.heap.size (.slice A9 (no+1) c9) (slI (f.take (k+1)) 0 p q)):=by
        show OwnE _ _ _ _ _ _ _;rw [hc.o];exact ha
       have hm:=hb w.heap.size (w3.alloc (.cells (tkC ⟨1,y,xd⟩).toArray 31)) yQ (Below.refl _ _);have hv:=zW ((hu.o.alloc hK (.cells (tkC ⟨1,y,xd⟩).toArray 31)).trans hm);show wpAny _ _ _ _ _ _ (Act.put _ (some 80) (.slice A9 (no+1) c9)) w9;refine zqG 11 8 (.slice A9 (no+1) c9) rfl ?_;refine wpAny_done yZ ?_ _;simp only [Act.put,zZ,zY,zX];have hE:yK (w9.heap[g]? =some (.cells #[.int .i64 1,.string xt,.int .i64 xd] 31)):=(hd.block g yV (fun e=>by have:=hR.o g e.symm;omega)).trans ((Below.heap_alloc w3 _ g hh).trans hD.o);have hN:g < w9.heap.size:=(Array.getElem?_eq_some_iff.1 hE.o).1;have y1:=(bx3 hE.o).2.1;clear ha hb hd hf hm x0 x1 x2;go_wp2_with fail
       go_roundg (f.length - (k+1))
       case measure=>omega
       case rel=>exact ⟨k+1,a0+xt.size,rfl,rfl,yY,hj.o,hC.o,hv.o,yY⟩
      ·refine zqL (.int .i64 xd) rfl (.pointer (some ⟨g,2,none⟩)) (hH.o) ?_;simp only [Act.put,zZ,zY,zX];refine zqV 2 72 (.string xt) rfl rfl (.pointer (some ⟨g,1,none⟩)) (hG.o) ?_;simp only [Act.put,zZ,zY,zX];refine zzA 5 (.string y) (some 75) rfl (fun _=>X0c 9 _ _ _ (.string xt) _ (some (.int .i64 (ca:Int))) (some (.int .i64 (cb:Int))) rfl yZ yZ yZ (hT.o _)) ?_;refine zzA 8 (.agg #[.int .i64 1,.string y,.int .i64 xd]) (some 78) rfl (fun _=>Z1x (.const (.int .i64 1)) (.tmp 75) (.tmp 77) 1 y xd rfl rfl yZ yZ) ?_;simp only [Act.put,zZ,zY,zX];have hD:yK (w2.drew.heap[g]? =some (.cells #[.int .i64 1,.string xt,.int .i64 xd] 31)):=hJ.o;have hh:g < w2.drew.heap.size:=hp;clear hG hH;generalize w2.drew=w3 at hu hA hK hD hh ⊢;have hB:=zW (V4 hA.o ((Below.refl w3.heap.size w3).alloc yQ (.cells (tkC ⟨1,y,xd⟩).toArray 31)) yQ);refine Q9k 9 (some 79) (.slice (some ⟨w3.heap.size,0,none⟩) 1 1) (w3.alloc (.cells (tkC ⟨1,y,xd⟩).toArray 31)) yZ rfl rfl yZ (Z1w (.tmp 78) 1 y xd rfl yZ) ?_;simp only [Act.put,zZ,zY,zX];refine zqo 10 rfl ?_;refine Y3e rfl (.tmp 70) (.tmp 79) 24 31 rfl Tryz.underlying24 _ tkC 3 32 Z7 rfl yX Q5 K2 w.heap.size (.slice Ao no co) (slI (f.take k) 0 p q) rfl hB.o (.slice (some ⟨w3.heap.size,0,none⟩) 1 1) [⟨1,y,xd⟩] rfl (Z6 tkC 3 Q5 w3 _ rfl ⟨1,y,xd⟩ 31) (by rw [he.o,List.length_singleton];omega) yX yV ?_;intro v9 w9 ha hb hd hf;obtain ⟨A9,c9,ho⟩:=Q0 ha;rw [List.length_append,he.o] at ho;subst ho;have hC:yK (OwnE 31 tkC 3 w9 w.heap.size (.slice A9 (no+1) c9) (slI (f.take (k+1)) 0 p q)):=by
        show OwnE _ _ _ _ _ _ _;rw [hc.o];exact ha
       have hm:=hb w.heap.size (w3.alloc (.cells (tkC ⟨1,y,xd⟩).toArray 31)) yQ (Below.refl _ _);have hv:=zW ((hu.o.alloc hK (.cells (tkC ⟨1,y,xd⟩).toArray 31)).trans hm);show wpAny _ _ _ _ _ _ (Act.put _ (some 80) (.slice A9 (no+1) c9)) w9;refine zqG 11 8 (.slice A9 (no+1) c9) rfl ?_;refine wpAny_done yZ ?_ _;simp only [Act.put,zZ,zY,zX];have hE:yK (w9.heap[g]? =some (.cells #[.int .i64 1,.string xt,.int .i64 xd] 31)):=(hd.block g yV (fun e=>by have:=hR.o g e.symm;omega)).trans ((Below.heap_alloc w3 _ g hh).trans hD.o);have hN:g < w9.heap.size:=(Array.getElem?_eq_some_iff.1 hE.o).1;have y1:=(bx3 hE.o).2.1;clear ha hb hd hf hm x0 x1 x2;go_wp2_with fail
       go_roundg (f.length - (k+1))
       case measure=>omega
       case rel=>exact ⟨k+1,a0+xt.size,rfl,rfl,yY,hj.o,hC.o,hv.o,yY⟩
     ·have hF:¬ (ca:Int) < (cb:Int):=yY;rw [if_neg hab,List.append_nil] at hc;go_wp2_with fail
      go_roundg (f.length - (k+1))
      case measure=>omega
      case rel=>exact ⟨k+1,a0+xt.size,rfl,rfl,yY,hj.o,by (rw [hc.o];exact hz.o),ht.o,yY⟩
    ·rw [if_neg yY,List.append_nil] at hc;have Hf:min (q:Int) ((a0:Int)+(xt.size:Int)) - (a0:Int) < 0:=yY;generalize min (q:Int) ((a0:Int)+(xt.size:Int)) - (a0:Int)=cb at Hf ⊢;have hF:¬ (ca:Int) < cb:=yY;clear hca;go_wp2_with fail
     go_roundg (f.length - (k+1))
     case measure=>omega
     case rel=>exact ⟨k+1,a0+xt.size,rfl,rfl,yY,hj.o,by (rw [hc.o];exact hz.o),ht.o,yY⟩
   ·have t1:(xk != 1)=true:=(by simpa using hx);rw [if_pos hx] at hc;rw [if_neg hx] at hi hr;have hj:yK (a0+1=X2 (f.take (k+1))):=hi.o.symm;have hZ:a0≤1000000000000000000:=yY;by_cases hpa:p≤a0
    ·have hP:(p:Int)≤(a0:Int):=yY;by_cases haq:a0 < q
     ·have hL:(a0:Int) < (q:Int):=yY;rw [if_pos ⟨hpa,haq⟩] at hc;have hB:=zW (V4 hw.o ((Below.refl w1.heap.size w1).alloc yQ (.cells (tkC ⟨xk,xt,xd⟩).toArray 31)) yQ);go_wp2_with (first
       | (refine wpList_load_row rfl 31 (.tmp 11) rfl g rfl 31 #[.int .i64 xk,.string xt,.int .i64 xd] (0,0) _ HX.o Tryz.underlying31 rfl (by rw [V3y];rfl) ?_)
       | (at_builtin;refine X1q rfl (.tmp 47) (.tmp 49) 24 31 rfl Tryz.underlying24 _ tkC 3 32 Z7 rfl yX Q5 K2 w.heap.size (.slice Ao no co) (slI (f.take k) 0 p q) rfl hB.o (.slice (some ⟨w1.heap.size,0,none⟩) 1 1) [⟨xk,xt,xd⟩] rfl (Z6 tkC 3 Q5 w1 _ rfl ⟨xk,xt,xd⟩ 31) (by rw [he.o,List.length_singleton];omega) yX yV ?_;intro v9 w9 ha hb hd hf;obtain ⟨A9,c9,ho⟩:=Q0 ha;rw [List.length_append,he.o] at ho;subst ho))
      have hC:yK (OwnE 31 tkC 3 w9 w.heap.size (.slice A9 (no+1) c9) (slI (f.take (k+1)) 0 p q)):=by
       show OwnE _ _ _ _ _ _ _;rw [hc.o];exact ha
      have hm:=hb w.heap.size (w1.alloc (.cells (tkC ⟨xk,xt,xd⟩).toArray 31)) yQ (Below.refl _ _);have hv:=zW ((hs.o.alloc hQ (.cells (tkC ⟨xk,xt,xd⟩).toArray 31)).trans hm);clear ha hb hd hf hm;go_wp2_with fail
      go_roundg (f.length - (k+1))
      case measure=>omega
      case rel=>exact ⟨k+1,a0+1,rfl,rfl,yY,hj.o,hC.o,hv.o,yY⟩
     ·have hL:¬ (a0:Int) < (q:Int):=yY;rw [if_neg (fun h=>haq h.2),List.append_nil] at hc;go_wp2_with fail
      go_roundg (f.length - (k+1))
      case measure=>omega
      case rel=>exact ⟨k+1,a0+1,rfl,rfl,yY,hj.o,by (rw [hc.o];exact hw.o),hs.o,yY⟩
    ·have hP:¬ (p:Int)≤(a0:Int):=yY;rw [if_neg (fun h=>hpa h.1),List.append_nil] at hc;go_wp2_with fail
     go_roundg (f.length - (k+1))
     case measure=>omega
     case rel=>exact ⟨k+1,a0+1,rfl,rfl,yY,hj.o,by (rw [hc.o];exact hw.o),hs.o,yY⟩
  ·obtain rfl:k=f.length:=yY;go_wp2_with fail
   rw [hS.o];refine ⟨_,rfl,?_,HB.o⟩;have h:=HO.o;rw [List.take_length] at h;exact h
theorem Z4s (x:At):Instr.fill (fun i=>some (i * 34,34)) ((Array.range (1 * 34)).map ((Value.agg (atC ⟨noP,0,false⟩).toArray).cells[· % (Value.agg (atC ⟨noP,0,false⟩).toArray).cells.size]!)) [(0,.agg (atC x).toArray)]=some (atC x).toArray:=by kernel_rfl
theorem X8v:(Tryz.prog.info? 107).map (fun i=>(i.zero,i.size,i.bytes))=some (some (.agg (atC ⟨noP,0,false⟩).toArray),34,48):=by kernel_rfl
def AtIn (w:World) (g:Nat) (x:At):Prop:=w.heap[g]? =some (.cells (atC x).toArray 107)
theorem AtIn.setMn {w:World} {g:Nat} {p:Nat→Bool} {mn:Int} {many:Bool} (h:AtIn w g ⟨p,mn,many⟩) (k:Int):AtIn (w.setCell ⟨g,32,none⟩ (.int .i64 k)) g ⟨p,k,many⟩:=by
 unfold AtIn at *;rw [heap_setCell_same w g 32 _ _ _ h];rfl
theorem X4h (w:World):AtIn (w.alloc (.cells #[.int .u8 0,.int .u8 0,.int .u8 0,.int .u8 0,.int .u8 0,.int .u8 0,.int .u8 0,.int .u8 0,.int .u8 0,.int .u8 0,.int .u8 0,.int .u8 0,.int .u8 0,.int .u8 0,.int .u8 0,.int .u8 0,.int .u8 0,.int .u8 0,.int .u8 0,.int .u8 0,.int .u8 0,.int .u8 0,.int .u8 0,.int .u8 0,.int .u8 0,.int .u8 0,.int .u8 0,.int .u8 0,.int .u8 0,.int .u8 0,.int .u8 0,.int .u8 0,.int .i64 0,.bool false] 107)) w.heap.size ⟨noP,0,false⟩:=by
 have e:(#[.int .u8 0,.int .u8 0,.int .u8 0,.int .u8 0,.int .u8 0,.int .u8 0,.int .u8 0,.int .u8 0,.int .u8 0,.int .u8 0,.int .u8 0,.int .u8 0,.int .u8 0,.int .u8 0,.int .u8 0,.int .u8 0,.int .u8 0,.int .u8 0,.int .u8 0,.int .u8 0,.int .u8 0,.int .u8 0,.int .u8 0,.int .u8 0,.int .u8 0,.int .u8 0,.int .u8 0,.int .u8 0,.int .u8 0,.int .u8 0,.int .u8 0,.int .u8 0,.int .i64 0,.bool false]:Array Value)=(atC ⟨noP,0,false⟩).toArray:=yZ;rw [e];exact heap_alloc_new w _
theorem AtIn.row {w:World} {g:Nat} {x:At} (h:AtIn w g x) (y:At):AtIn (w.setRow g (atC y).toArray) g y:=setRow_heap w g _ _ _ _ h
theorem Q3g:(Tryz.prog.info? 107).map (·.size)=some 34:=by kernel_rfl
theorem Q9p (x:At):(atC x).toArray.size=34:=by rw [List.size_toArray,E3]
theorem Q3f (x:At):(atC x).toArray.all (·.oneCell')=true:=by
 rw [Array.all_eq_true_iff_forall_mem];intro v hv;have h:=List.mem_toArray.1 hv;unfold atC at h;rcases List.mem_append.1 h with h | h
 ·have:=(Array.all_eq_true_iff_forall_mem.1 (V1k x.p)) v (List.mem_toArray.2 h);exact this
 ·simp at h;rcases h with rfl | rfl<;>rfl
theorem AtIn.mn {w:World} {g:Nat} {x:At} (h:AtIn w g x):w.cell? ⟨g,32,none⟩=some (.int .i64 x.mn):=by
 rw [cell_of_row _ _ _ _ _ _ h];simpa using V6u x
theorem AtIn.many {w:World} {g:Nat} {x:At} (h:AtIn w g x):w.cell? ⟨g,33,none⟩=some (.bool x.many):=by
 rw [cell_of_row _ _ _ _ _ _ h];simpa using Z7o x
theorem AtIn.free {w:World} {g:Nat} {x:At} (h:AtIn w g x) (k:Nat):w.frozen? ⟨g,k,none⟩=false:=frozen_of_row w g k _ _ h
theorem AtIn.keep {w w':World} {g:Nat} {x:At} (h:AtIn w g x) (e:w'.heap[g]? =w.heap[g]?):AtIn w' g x:=e.trans h
theorem V2q (x:At):∀ u∈atC x,u.oneCell'=true:=fun u hu=>(Array.all_eq_true_iff_forall_mem.1 (Q3f x)) u (List.mem_toArray.2 hu)
theorem Q5j {ops:Array Oper} {rest:List Oper} {o:Oper} {a:Act} {w:World} {Q:Exit→Act→World→Prop} (hg:o.guard=none) (x:Operand) (ho:o.op=.buildSlice 108 1 #[(0,x)]) (y:At) (hx:a.eval x=.agg (atC y).toArray)
 (h:wpList Tryz.prog ops Q rest (a.put o.dst (.slice (some ⟨w.heap.size,0,none⟩) 1 1)) (w.alloc (.cells (atC y).toArray 107))):wpList Tryz.prog ops Q (o::rest) a w:=by
 obtain ⟨i,hi,hz,ha,hb⟩:=info_parts X8v;refine wpList_buildSlice hg 108 107 1 #[(0,x)] ho (atC y).toArray i _ Tryz.underlying108 hi hz (by rw [ha];decide) (by rw [ha];decide) ?_ h;rw [ha];simp only [List.map_toArray,List.map_cons,List.map_nil,hx];exact Z4s y
theorem AtIn.range {w:World} {g:Nat} {x:At} (h:AtIn w g x):w.rangeAt g 0 (atC x):=fun j v hj=>by
 rw [Nat.zero_add,cell_of_row _ _ _ _ _ _ h];simpa using hj
theorem Q6u:(Tryz.prog.info? 4).map (fun i=>(i.zero,i.size,i.bytes))=some (some (.bool false),1,1):=by kernel_rfl
def V8t (w:World) (n:Nat) (f:Nat→Bool) (e:Ending) (w':World):Prop:=
 ∃ g,e=.returned (.slice (some ⟨g,0,none⟩) n n)∧w.heap.size≤g∧w'.rowIs g 4 n (fun j=>.bool (f j))∧Below w.heap.size w w'
def Q2p (b:Bool):List Value:=[.bool b]
theorem Z3y (b:Bool):(Q2p b).length=1:=rfl
theorem X9a (b:Bool):∀ u∈Q2p b,u.oneCell'=true:=by
 intro u hu;simp [Q2p] at hu;subst hu;rfl
def spF (f:List Tk):List Bool:=(sqF f).map (·.2)
theorem V1n (f:List Tk) (k:Nat) (h:k < f.length):spF (f.take (k+1))=spF (f.take k)++(sqI f[k]).map (·.2):=by
 unfold spF;rw [List.take_succ_eq_append_getElem h,X1h,List.map_append,Q7w]
theorem Y2t (f:List Tk):(spF f).length=X2 f:=by unfold spF;rw [List.length_map,Q7v]
theorem V1r (t:ByteArray) (d:Int):(sqI ⟨1,t,d⟩).map (·.2)=t.data.toList.map Q2j:=by
 unfold sqI;rw [if_pos rfl,List.map_map];rfl
theorem Z6y (k:Int) (t:ByteArray) (d:Int) (h:k≠1):(sqI ⟨k,t,d⟩).map (·.2)=[false]:=by
 unfold sqI;rw [if_neg h];split<;>rfl
theorem X8s (s:ByteArray) (i:Nat) (h:i < s.size):(s.data.toList.map Q2j).take (i+1)=(s.data.toList.map Q2j).take i++[Q2j s[i]]:=by
 rw [List.take_succ_eq_append_getElem (by simpa using h)];congr 1;simp only [List.getElem_map];rfl
theorem Y1 {w:World} {B:Nat} {e:TypeId} {size:Nat} {v:Value} {n:Nat} {xs:List Value} (h:w.ownsRow B e size v n xs) {q:Nat} {cs:Array Value} {t:TypeId} (hq:w.heap[q]? =some (.cells cs t)) (ht:t≠e):∀ g,v.ownBlock=some g→g≠q:=by
 rintro g hg rfl;rcases h.2 with ⟨rfl,_⟩ | ⟨g',cap,cur,rfl,_,hh,_⟩
 ·cases hg
 ·injection hg with hg;subst hg;rw [hq] at hh;injection hh with hh;injection hh with _ h2 _;exact ht h2
theorem Y8a (f:List Tk) (v:Value) (w:World) (h1:RdT w v f) (hl:X2 f≤1000000000) (hfl:f.length≤1000000):
 Calls Tryz.prog 63 #[v] w (F7 4 Q2p 1 w (spF f)):=by
 obtain ⟨R,hy⟩:∃ R,yK (R=F7 4 Q2p 1 w (spF f)):=⟨_,rfl⟩;rw [←hy.o];obtain ⟨A,c,rfl,_,_⟩:=h1.shape;have H1:=zW h1;clear h1;go_enter Tryz.func63,Tryz.ntmps63
 go_wp2_with fail
 obtain ⟨wo,hp⟩:∃ wo,yK (wo=w):=⟨w,rfl⟩;go_loopg [3,5,6,9] f.length (fun gk ov xv iv jv wr=>∃ k:Nat,jv=.int .i64 k∧k≤f.length∧yK (OwnE 4 Q2p 1 wr w.heap.size ov (spF (f.take k)))∧yK (Below w.heap.size w wr)∧f.length - k≤gk)
 case atStart=>exact ⟨0,rfl,Nat.zero_le _,by (show OwnE _ _ _ _ _ _ _);rw [List.take_zero];exact OwnE.nil,Below.refl _ _,yY⟩
 case round=>
  clear hp;obtain ⟨k,rfl,hk,HO,HB,hgk⟩:=hrel;by_cases hkl:k < f.length
  ·have hT:(k:Int) < (f.length:Int):=yY;have hS:(0:Int)≤(k:Int):=yY;obtain ⟨b,o,rfl,hr,q1,q2,q3⟩:=RdT.at_ H1.o k hkl;have hM:=HB.o.size;rw [←HB.o.cell (p:=⟨b,o+k * 3,none⟩) hr] at q1;rw [←HB.o.cell (p:=⟨b,o+k * 3+1,none⟩) hr] at q2;rw [←HB.o.cell (p:=⟨b,o+k * 3+2,none⟩) hr] at q3;have hI:b < wr.heap.size:=yY;have hJ:=Q4q f (k+1);have he:=M0 f k hkl;have ha:=zW (V1n f k hkl);have hC:=Y2t (f.take k);have hf:=Y2t (f.take (k+1));obtain ⟨Ao,co,hs⟩:=Q0 HO.o;generalize hl0:spF (f.take k)=l0 at HO hs ha hC;generalize hl1:spF (f.take (k+1))=l1 at ha hf;subst hs;have hU:l0.length≤1000000000:=yY;have hK:l1.length≤1000000000:=yY;have hv:=zW hl1;clear hl0 hl1 hC hf;generalize f[k]=x at q1 q2 q3 ha he;obtain ⟨xk,xt,xd⟩:=x;simp only at q1 q2 q3;have hu:xk=1→xt.size≤1000000000:=fun e=>by
    have:wdI ⟨xk,xt,xd⟩=xt.size:=(by unfold wdI;rw [if_pos e]);omega
   have HX:yK ((wr.alloc (.cells #[.int .i64 xk,.string xt,.int .i64 xd] 31)).heap[wr.heap.size]? =some (.cells #[.int .i64 xk,.string xt,.int .i64 xd] 31)):=heap_alloc_new wr _;have hb:=zW (HB.o.alloc hM (.cells #[.int .i64 xk,.string xt,.int .i64 xd] 31));have hj:=zW (World.ownsRow.alloc HO.o (.cells #[.int .i64 xk,.string xt,.int .i64 xd] 31));clear hJ he;go_upto_region 5 with fail
   generalize wr.alloc (.cells #[.int .i64 xk,.string xt,.int .i64 xd] 31)=w3 at HX hb hj ⊢;obtain ⟨q,hq⟩:∃ q,yK (q=wr.heap.size):=⟨_,rfl⟩;rw [←hq.o] at HX ⊢;have ht:q < w3.heap.size:=(Array.getElem?_eq_some_iff.1 HX.o).1;clear q1 q2 q3;obtain ⟨x0,x1,x2,_⟩:=bx3 HX.o;have hh:yK (∀ g,(Value.slice Ao l0.length co).ownBlock=some g→g < q):=fun g hg=>by have:=(HO.o.lt g hg).2;rw [hq.o];exact this
   have hE:=hb.o.size;by_cases hx:xk=1
   ·subst hx;have hN:=hu rfl;rw [V1r] at ha;have t1:((1:Int) != 1)=false:=rfl;clear hu;go_upto_region 8 with fail
    obtain ⟨wo,hp⟩:∃ wo,yK (wo=w3):=⟨w3,rfl⟩;go_loopg [3,6] xt.size (fun gk ov iv wx=>∃ i:Nat,iv=.int .i64 i∧i≤xt.size∧yK (OwnE 4 Q2p 1 wx w.heap.size ov (l0++(xt.data.toList.map Q2j).take i))∧yK (Below w.heap.size w wx)∧yK (wx.heap[q]? =some (.cells #[.int .i64 1,.string xt,.int .i64 xd] 31))∧yK (∀ g,ov.ownBlock=some g→g≠q)∧xt.size - i≤gk)
    case atStart=>exact ⟨0,rfl,Nat.zero_le _,by (show OwnE _ _ _ _ _ _ _);rw [List.take_zero,List.append_nil];exact hj.o,hb.o,HX.o,fun g hg=>by have:=hh.o g hg;omega,yY⟩
    case round=>
     clear hp hj hb HX hh ht x0 x1 x2 hE;obtain ⟨i,rfl,hi,hd,hn,HX,hh,hP⟩:=hrel;obtain ⟨x0,x1,x2,_⟩:=bx3 HX.o;have ht:q < wr.heap.size:=(Array.getElem?_eq_some_iff.1 HX.o).1;have hO:=hn.o.size;by_cases hil:i < xt.size
     ·have hR:(i:Int) < (xt.size:Int):=yY;have hQ:(0:Int)≤(i:Int):=yY;have hz:=zW (X8s xt i hil);have hH:xt[i].toNat < 256:=xt[i].toNat_lt;have hw:=zW (fun w'=>X6t (xt[i].toNat:Int) w' yY yY);obtain ⟨bb,hB⟩:∃ bb:Bool,yK (Q2j xt[i]=bb):=⟨Q2j xt[i],rfl⟩;have t5:(Q5k (xt[i].toNat:Int)==2)=bb:=(by rw [←hB.o];rfl);rw [hB.o] at hz;generalize hzz:Q5k (xt[i].toNat:Int)=zz at hw t5;obtain ⟨Ax,cx,hD⟩:=Q0 hd.o;have hL:(l0++(xt.data.toList.map Q2j).take i).length≤1000000000:=by
       have:=congrArg List.length ha.o;rw [List.length_append] at this ⊢;rw [List.length_take];simp only [List.length_map] at this ⊢;omega
      generalize hlq:l0++(xt.data.toList.map Q2j).take i=lq at hd hD hL;subst hD;have hF:=zW hlq;clear hlq hzz;have ho:yK (lq++[bb]=l0++(xt.data.toList.map Q2j).take (i+1)):=by
       show _=_;rw [hz.o,←hF.o,List.append_assoc]
      go_wp2_with (first
       | (go_at_call 97;refine (hw.o _).mono ?_;rintro e w4 ⟨rfl,rfl⟩)
       | (at_builtin;go_must (refine Z5 rfl (.tmp 26) (.tmp 33) 134 4 rfl Tryz.underlying134 _ 1 1 Q6u rfl yX w.heap.size _ lq.length (lq.flatMap Q2p) rfl (by exact World.ownsRow.alloc hd.o _) ⟨wr.heap.size,0,none⟩ 1 (Q2p bb) rfl rfl (by exact F4 _ _ _) (X9a _) yY yX yV ?_);intro g9 cap9 w9 hown9 hg9 hbel9 hgr9))
      have hc:=zW (OwnE.snoc (f:=Q2p) (l:=lq) (x:=bb) hown9);have hm:=zW (hbel9 _ _ yQ (hn.o.alloc hO (.cells (Q2p bb).toArray 4)));have hA:yK (w9.heap[q]? =some (.cells #[.int .i64 1,.string xt,.int .i64 xd] 31)):=(hgr9.block q yV (fun e=>hh.o q e.symm rfl)).trans ((Below.heap_alloc wr _ q ht).trans HX.o);have hG:yK (∀ g,(Value.slice (some ⟨g9,0,none⟩) (lq.length+1) cap9).ownBlock=some g→g≠q):=Y1 hown9 hA.o yX;rw [ho.o] at hc;clear hown9 hbel9 hgr9;go_wp2_with fail
      go_roundg (xt.size - (i+1))
      case measure=>omega
      case rel=>exact ⟨i+1,rfl,yY,hc.o,hm.o,hA.o,hG.o,yY⟩
     ·obtain rfl:i=xt.size:=yY;rw [List.take_of_length_le yW,←ha.o] at hd;go_wp2_with fail
      go_roundg (f.length - (k+1))
      case measure=>omega
      case rel=>exact ⟨k+1,rfl,yY,by (show OwnE _ _ _ _ _ _ _);rw [hv.o];exact hd.o,hn.o,yY⟩
   ·have t1:(xk != 1)=true:=(by simpa using hx);rw [Z6y _ _ _ hx] at ha;clear hu;go_wp2_with (at_builtin;refine Z5 rfl (.tmp 16) (.tmp 17) 134 4 rfl Tryz.underlying134 _ 1 1 Q6u rfl yX w.heap.size _ _ _ rfl (by exact World.ownsRow.alloc hj.o _) ⟨w3.heap.size,0,none⟩ 1 (Q2p false) rfl rfl (by exact F4 _ _ _) (X9a _) yY yX yV ?_;intro g9 cap9 w9 hown9 hg9 hbel9 hgr9)
    have hc:=zW (OwnE.snoc (f:=Q2p) (l:=l0) (x:=false) hown9);have hm:=zW (hbel9 _ _ yQ (hb.o.alloc hE (.cells (Q2p false).toArray 4)));rw [←ha.o] at hc;clear hown9 hbel9 hgr9;go_roundg (f.length - (k+1))
    case measure=>omega
    case rel=>exact ⟨k+1,rfl,yY,by (show OwnE _ _ _ _ _ _ _);rw [hv.o];exact hc.o,hm.o,yY⟩
  ·obtain rfl:k=f.length:=yY;rw [List.take_length] at HO;obtain ⟨Ao,co,hs⟩:=Q0 HO.o;go_wp2_with fail
   rw [hy.o];exact ⟨_,rfl,HO.o,HB.o⟩
end Go.Proofs.YtfkojnofbpdjdaaGreatDoor
namespace Go.Proofs.YtfkojnofbpdjdaaGreatDoor
def chI (c:UInt8):Tk:=⟨1,⟨#[c]⟩,0⟩
def L4 (x:Tk):List Tk:=if x.k=1 then x.t.data.toList.map chI else [x]
def Y2 (f:List Tk):List Tk:=f.flatMap L4
def One (x:Tk):Prop:=x.k=1→∃ c,x=chI c
theorem I5 (f g:List Tk):Y2 (f++g)=Y2 f++Y2 g:=by simp [Y2]
theorem Q0m (x:Tk):Y2 [x]=L4 x:=by simp [Y2]
theorem R8 (x:Tk) (f:List Tk):Y2 (x::f)=L4 x++Y2 f:=by simp [Y2]
theorem Z8u (x:Tk) (h:One x):L4 x=[x]:=by
 unfold L4;split
 ·rename_i hk;obtain ⟨c,rfl⟩:=h hk;rfl
 ·rfl
theorem Y4k (x:Tk):(L4 x).length=wdI x:=by
 unfold L4 wdI;split
 ·rw [List.length_map];simp
 ·rfl
theorem D6:∀ f:List Tk,(Y2 f).length=X2 f
 | []=>rfl
 | x::f=>by rw [R8,List.length_append,Y4k,D6 f,X2]
theorem Z4q (x:Tk):∀ y∈L4 x,One y:=by
 unfold L4;intro y hy;split at hy
 ·obtain ⟨c,_,rfl⟩:=List.mem_map.1 hy;exact fun _=>⟨c,rfl⟩
 ·rename_i hk;rw [List.mem_singleton.1 hy];exact fun h=>absurd h hk
theorem C6 (f:List Tk):∀ y∈Y2 f,One y:=by
 intro y hy;obtain ⟨x,_,hx⟩:=List.mem_flatMap.1 hy;exact Z4q x y hx
theorem Q7d:∀ (u:List Tk),(∀ y∈u,One y)→Y2 u=u
 | [],_=>rfl
 | x::u,h=>by
   rw [R8,Z8u x (h x yW),Q7d u (fun y hy=>h y (by simp [hy]))];rfl
theorem Y3s (out:List Tk):∀ (l:List UInt8) (t:ByteArray),(l.map chI).foldl X3 (X3 out ⟨1,t,0⟩)=X3 out ⟨1,t++⟨l.toArray⟩,0⟩
 | [],t=>by rw [List.map_nil,List.foldl_nil,Q9o]
 | c::l,t=>by
   rw [List.map_cons,List.foldl_cons];have e:=X7s out t ⟨#[c]⟩ 0 0 0;show (l.map chI).foldl X3 (X3 (X3 out ⟨1,t,0⟩) ⟨1,⟨#[c]⟩,0⟩)=_;rw [e,Y3s out l];congr 2;apply R7;simp
theorem Z4p (out:List Tk) (x:Tk):(L4 x).foldl X3 out=X3 out x:=by
 unfold L4;split
 ·rename_i hk;obtain ⟨k,t,d⟩:=x;simp only at hk;subst hk;simp only
  have h0:X3 out ⟨1,⟨#[]⟩,0⟩=out:=T3 out _ 0 rfl;have h:=Y3s out t.data.toList ⟨#[]⟩;rw [h0,Q4k] at h;rw [h];have e:(⟨t.data.toList.toArray⟩:ByteArray)=t:=(by cases t;simp);rw [e];by_cases ht:t.size=0
  ·rw [T3 _ _ _ ht,T3 _ _ _ ht]
  ·rcases List.eq_nil_or_concat out with rfl | ⟨o,y,rfl⟩
   ·rw [V7 ⟨1,t,0⟩ rfl ht,V7 ⟨1,t,d⟩ rfl ht]
   ·by_cases hy:y.k=1
    ·rw [List.concat_eq_append,J3 o y ⟨1,t,0⟩ rfl ht hy,J3 o y ⟨1,t,d⟩ rfl ht hy]
    ·rw [List.concat_eq_append,D1 o y ⟨1,t,0⟩ rfl ht hy,D1 o y ⟨1,t,d⟩ rfl ht hy]
 ·rfl
theorem X9s:∀ (f out:List Tk),(Y2 f).foldl X3 out=f.foldl X3 out
 | [],_=>rfl
 | x::f,out=>by rw [R8,List.foldl_append,Z4p,X9s f,List.foldl_cons]
theorem X2o (f:List Tk):Q9 (Y2 f)=Q9 f:=X9s f []
theorem X8p (f g:List Tk):Q9 (f++g)=Q9 (Y2 f++Y2 g):=by rw [←I5,X2o]
theorem Z4o (out:List Tk) (x:Tk):Y2 (X3 out x)=Y2 out++L4 x:=by
 by_cases hk:x.k=1
 ·have ex:L4 x=x.t.data.toList.map chI:=(by unfold L4;rw [if_pos hk]);by_cases h2:x.t.size=0
  ·rw [G1 out x hk h2,ex];have:x.t.data.toList=[]:=List.eq_nil_of_length_eq_zero (by rw [←Lib.size_eq];exact h2);rw [this];simp
  ·rcases List.eq_nil_or_concat out with rfl | ⟨o,y,rfl⟩
   ·rw [V7 x hk h2,Q0m,ex];rfl
   ·rw [List.concat_eq_append];by_cases hy:y.k=1
    ·rw [J3 o y x hk h2 hy,I5,I5,Q0m,Q0m,ex,List.append_assoc];congr 1;have e1:L4 ⟨1,y.t++x.t,0⟩=(y.t++x.t).data.toList.map chI:=rfl;have e2:L4 y=y.t.data.toList.map chI:=(by unfold L4;rw [if_pos hy]);rw [e1,e2];simp
    ·rw [D1 o y x hk h2 hy,I5,Q0m,ex];rfl
 ·rw [K6 out x hk,I5,Q0m]
theorem X5u:∀ (f out:List Tk),Y2 (f.foldl X3 out)=Y2 out++Y2 f
 | [],out=>by simp [Y2]
 | x::f,out=>by rw [List.foldl_cons,X5u f,Z4o,R8,List.append_assoc]
theorem Q7e (f:List Tk):Y2 (Q9 f)=Y2 f:=by
 have h:=X5u f [];rw [show Y2 ([]:List Tk)=[] from rfl,List.nil_append] at h;exact h
theorem X3s (f:List Tk) (h:Normal f):Q9 (Y2 f)=f:=by rw [X2o,Q1b f h]
theorem V3o (x:Tk) (a p q:Nat):Y2 (pcI x a p q)=((L4 x).take (q - a)).drop (p - a):=by
 unfold pcI;by_cases hx:x.k=1
 ·rw [if_neg yY];have e:L4 x=x.t.data.toList.map chI:=(by unfold L4;rw [if_pos hx]);have hl:x.t.data.toList.length=x.t.size:=yW;rw [e];by_cases h:max p a - a < min q (a+x.t.size) - a
  ·rw [if_pos h,Q0m];show (x.t.extract (max p a - a) (min q (a+x.t.size) - a)).data.toList.map _=_;rw [ByteArray.data_extract,Array.toList_extract,←List.map_take,←List.map_drop];congr 1;rw [List.extract_eq_take_drop,List.drop_take];rw [show p - a=max p a - a by omega];by_cases h2:q≤a+x.t.size
   ·rw [show min q (a+x.t.size) - a=q - a by omega]
   ·rw [show min q (a+x.t.size) - a=x.t.size by omega];rw [List.take_of_length_le (by rw [List.length_drop,hl];omega),List.take_of_length_le (by rw [List.length_drop,hl];omega)]
  ·rw [if_neg h];rw [List.drop_eq_nil_of_le (by rw [List.length_take,List.length_map,hl];omega)];rfl
 ·rw [if_pos hx];have hc:L4 x=[x]:=(by unfold L4;rw [if_neg hx]);by_cases h:p≤a∧a < q
  ·rw [if_pos h,Q0m,hc,show q - a=(q - a - 1)+1 by omega,show p - a=0 by omega];simp
  ·rw [if_neg h,hc];by_cases h2:a < q
   ·rw [show p - a=(p - a - 1)+1 by omega,show q - a=(q - a - 1)+1 by omega];simp [Y2]
   ·rw [show q - a=0 by omega];simp [Y2]
theorem X0d (p q:Nat):∀ (f:List Tk) (a:Nat),Y2 (slI f a p q)=((Y2 f).take (q - a)).drop (p - a)
 | [],a=>by simp [slI,Y2]
 | x::f,a=>by
   rw [slI,I5,V3o,X0d p q f,show x::f=[x]++f from rfl,I5 [x] f,Q0m,Y1f,Y4k]
theorem Y5y (x:Tk) (a p q:Nat):∀ y∈pcI x a p q,y.k=x.k∧y.d=x.d∧1≤wdI y:=by
 intro y hy;have h3:=V0l x a p q y hy;unfold pcI at hy;by_cases hx:x.k=1
 ·rw [if_neg yY] at hy;split at hy
  ·rw [List.mem_singleton.1 hy] at h3 ⊢;exact ⟨hx.symm,rfl,h3⟩
  ·simp at hy
 ·rw [if_pos hx] at hy;split at hy
  ·rw [List.mem_singleton.1 hy] at h3 ⊢;exact ⟨rfl,rfl,h3⟩
  ·simp at hy
theorem V0k (x:Tk) (a p q:Nat) (h:q≤a):pcI x a p q=[]:=by
 unfold pcI;split
 ·rw [if_neg yY]
 ·rw [if_neg yY]
theorem Y7j (p q:Nat):∀ (f:List Tk) (a:Nat),q≤a→slI f a p q=[]
 | [],_,_=>rfl
 | x::f,a,h=>by rw [slI,V0k x a p q h,Y7j p q f _ yY];rfl
theorem V0j (x:Tk) (a p q:Nat) (hp:p≤a) (hw:1≤wdI x) (h:pcI x a p q=[]):q≤a:=by
 unfold pcI at h;unfold wdI at hw;by_cases hx:x.k=1
 ·rw [if_neg yY] at h;rw [if_pos hx] at hw;by_cases h2:max p a - a < min q (a+x.t.size) - a
  ·rw [if_pos h2] at h;simp at h
  ·omega
 ·rw [if_pos hx] at h;by_cases h2:p≤a∧a < q
  ·rw [if_pos h2] at h;simp at h
  ·omega
theorem V1m (p q:Nat):∀ (f:List Tk) (a:Nat) (y:Tk),p≤a→(∀ x∈f,1≤wdI x)→(slI f a p q).head? =some y→∃ x,f.head? =some x∧y.k=x.k
 | [],a,y,_,_,h=>by simp [slI] at h
 | x::f,a,y,hp,hw,h=>by
   rw [slI] at h;cases hc:pcI x a p q with
   | nil=>
     have:=V0j x a p q hp (hw x yW) hc;rw [hc,Y7j p q f _ yY] at h;simp at h
   | cons z r=>
     rw [hc] at h;simp at h;exact ⟨x,rfl,by rw [←h];exact (Y5y x a p q z (by rw [hc];simp)).1⟩
theorem Q9e (p q:Nat):∀ (f:List Tk) (a:Nat),Normal f→Normal (slI f a p q)
 | [],_,_=>trivial
 | x::f,a,h=>by
   have ih:=Q9e p q f (a+wdI x) h.2;rw [slI];have hk:=Y5y x a p q;have hl:=Z2s x a p q;cases hp:pcI x a p q with
   | nil=>exact ih
   | cons z r=>
     have hr:r=[]:=by
      rw [hp] at hl;simp at hl;exact hl
     subst hr;obtain ⟨k1,k2,k3⟩:=hk z (by rw [hp];simp);refine ⟨fun hz=>?_,ih⟩;have ha:x.k=1:=(by rw [←k1];exact hz);obtain ⟨_,n2,n3⟩:=h.1 ha;refine ⟨?_,by rw [k2];exact n2,fun y hy=>?_⟩
     ·unfold wdI at k3;rw [if_pos hz] at k3;omega
     ·obtain ⟨x',hx',hb⟩:=V1m p q f (a+wdI x) y (by
       unfold pcI at hp;rw [if_neg yY] at hp;unfold wdI;rw [if_pos ha];split at hp
       ·omega
       ·simp at hp) (S8 f h.2) hy
      rw [hb];exact n3 x' hx'
def Z1 (l:List UInt8):List UInt8:=l.takeWhile (fun c=>c != 32)
theorem Q8w (s:ByteArray):(J8 s).data.toList=Z1 s.data.toList:=by simp [J8,Z1]
def Y3u (c:UInt8):Bool:=decide (32≤c.toNat∧c.toNat≤126) && !(c==60) && !(c==62) && !(c==123) && !(c==125)
def N5 (l:List UInt8):Bool:=decide (l.length≤64) && !(l.getLastD 47==47) && l.all Y3u && V8 (Z1 l) && (decide ((Z1 l).length=l.length) || decide ((Z1 l).length+1 < l.length))
def wP:List UInt8:=[112]
def wH:List UInt8:=[104]
def wLi:List UInt8:=[108,105]
def wTd:List UInt8:=[116,100]
def X3g:List UInt8:=[116,105,116,108,101]
def J4 (l:List UInt8):Bool:=l==wP || l==wH || l==wLi || l==wTd || l==X3g
def F5 (fmt:Int) (c:UInt8):List UInt8:=
 if fmt=1 then (if c=60 then [38,108,116,59] else if c=38 then [38,97,109,112,59] else if c=123 then [38,108,98,59] else [c])
 else if fmt=2 then (if c=10 then [92,110] else if c=9 then [92,116] else if c=13 then [92,114] else if c=92 then [92,92] else if c=123 then [92,123] else [c])
 else (if c=34 then [34,34] else if c=123 then [123,123] else [c])
def V3 (fmt:Int) (x:Tk):List UInt8:=
 if x.k=1 then x.t.data.toList.flatMap (F5 fmt)
 else if x.k=2 then 60::x.t.data.toList++[62]
 else if x.k=3 then 60::47::x.t.data.toList++[62]
 else if x.k=4 then 60::x.t.data.toList++[47,62]
 else 123::x.t.data.toList++[125]
def J5 (fmt:Int) (f:List Tk):List UInt8:=f.flatMap (V3 fmt)
theorem Y4d (fmt:Int) (f g:List Tk):J5 fmt (f++g)=J5 fmt f++J5 fmt g:=by simp [J5]
theorem Z8l (fmt:Int) (x:Tk):J5 fmt (L4 x)=V3 fmt x:=by
 unfold L4;split
 ·rename_i hk;unfold J5 V3;rw [if_pos hk,List.flatMap_map];congr 1;funext c;show (if (1:Int)=1 then [c].flatMap (F5 fmt) else _)=_;rw [if_pos rfl];simp
 ·simp [J5]
theorem X5p (fmt:Int):∀ f:List Tk,J5 fmt (Y2 f)=J5 fmt f
 | []=>rfl
 | x::f=>by rw [R8,Y4d,Z8l,X5p fmt f];rfl
def X3w:List (List UInt8×UInt8):=[([38,108,116,59],60),([38,103,116,59],62),([38,97,109,112,59],38),([38,108,98,59],123),([38,114,98,59],125)]
def Y8m:List (UInt8×UInt8):=[(110,10),(116,9),(115,32),(114,13),(92,92),(123,123)]
inductive ElOk:Int→List UInt8→Option Tk→Prop
 | slot (fmt:Int) (n:List UInt8) (h:V8 n=true):ElOk fmt (123::n++[125]) (some ⟨5,ofL n,0⟩)
 | ch1 (c:UInt8) (h:c≠60∧c≠38∧c≠123):ElOk 1 [c] (some (chI c))
 | ref (r:List UInt8) (c:UInt8) (h:(r,c)∈X3w):ElOk 1 r (some (chI c))
 | opn (t:List UInt8) (d:Int) (h:N5 t=true) (hb:J4 (Z1 t)=false):ElOk 1 (60::t++[62]) (some ⟨2,ofL t,d⟩)
 | cls (t:List UInt8) (d:Int) (h:V8 t=true) (hb:J4 t=false):ElOk 1 (60::47::t++[62]) (some ⟨3,ofL t,d⟩)
 | emp (t:List UInt8) (d:Int) (h:N5 t=true) (hb:J4 (Z1 t)=false):ElOk 1 (60::t++[47,62]) (some ⟨4,ofL t,d⟩)
 | ch2 (c:UInt8) (h:c≠10∧c≠92∧c≠123):ElOk 2 [c] (some (chI c))
 | esc (e c:UInt8) (h:(e,c)∈Y8m):ElOk 2 [92,e] (some (chI c))
 | cont (b:List UInt8) (h:∀ c∈b,c=32∨c=9):ElOk 2 (92::10::b) none
 | ch3 (c:UInt8) (h:c≠34∧c≠123):ElOk 3 [c] (some (chI c))
 | two (c:UInt8) (h:c=34∨c=123):ElOk 3 [c,c] (some (chI c))
abbrev Els:=List (List UInt8×Option Tk)
def Q2 (ts:Els):List UInt8:=ts.flatMap (·.1)
def X1 (ts:Els):List Tk:=ts.filterMap (·.2)
def Q3j:Els→Nat→Nat→List Nat
 | [],_,_=>[]
 | (r,none)::ts,at_,b=>Q3j ts (at_+r.length) b
 | (r,some _)::ts,at_,b=>b::Q3j ts (at_+r.length) (at_+r.length)
def T6:Els→Nat→Nat→Nat
 | [],_,b=>b
 | (r,none)::ts,at_,b=>T6 ts (at_+r.length) b
 | (r,some _)::ts,at_,_=>T6 ts (at_+r.length) (at_+r.length)
def D4:Els→Prop
 | []=>True
 | [_]=>True
 | (r,x)::(r',y)::ts=>(x=none→r'.head? ≠some 32∧r'.head? ≠some 9)∧D4 ((r',y)::ts)
def NumOk:List Tk→Nat→List Tk→Prop
 | [],_,op=>op=[]
 | x::u,c,op=>
   if x.k=2 then x.d=((c+1:Nat):Int)∧NumOk u (c+1) (x::op)
   else if x.k=4 then x.d=((c+1:Nat):Int)∧NumOk u (c+1) op
   else if x.k=3 then ∃ y op',op=y::op'∧J8 y.t=x.t∧x.d=y.d∧NumOk u c op'
   else NumOk u c op
structure RawOk (fmt:Int) (ts:Els):Prop where
 els:∀ e∈ts,ElOk fmt e.1 e.2
 cont:D4 ts
 num:NumOk (X1 ts) 0 []
 len:(X1 ts).length≤500
def tsF (fmt:Int) (f:List Tk):Els:=(Y2 f).map fun x=>(V3 fmt x,some x)
theorem Z3a (fmt:Int) (f:List Tk):Q2 (tsF fmt f)=J5 fmt f:=by
 rw [←X5p];unfold Q2 tsF J5;rw [List.flatMap_map]
theorem V3z (fmt:Int) (f:List Tk):X1 (tsF fmt f)=Y2 f:=by
 unfold X1 tsF;rw [List.filterMap_map];induction Y2 f with
 | nil=>rfl
 | cons x l ih=>exact congrArg (x::·) ih
theorem Q6z:∀ ts:Els,(∀ e∈ts,e.2≠none)→D4 ts
 | [],_=>trivial
 | [_],_=>trivial
 | (r,x)::(r',y)::ts,h=>⟨fun hx=>absurd hx (h (r,x) yW),Q6z ((r',y)::ts) (fun e he=>h e (List.mem_cons_of_mem _ he))⟩
def V5 (x:Tk):Prop:=x.k=1∨(x.k=5∧V8 x.t.data.toList=true∧x.d=0)
theorem V6p (fmt:Int) (hf:fmt=1∨fmt=2∨fmt=3) (c:UInt8):ElOk fmt (F5 fmt c) (some (chI c)):=by
 rcases hf with rfl | rfl | rfl
 ·unfold F5;rw [if_pos rfl];by_cases h1:c=60
  ·rw [if_pos h1,h1];exact ElOk.ref _ _ yX
  ·rw [if_neg h1];by_cases h2:c=38
   ·rw [if_pos h2,h2];exact ElOk.ref _ _ yX
   ·rw [if_neg h2];by_cases h3:c=123
    ·rw [if_pos h3,h3];exact ElOk.ref _ _ yX
    ·rw [if_neg h3];exact ElOk.ch1 c ⟨h1,h2,h3⟩
 ·unfold F5;rw [if_neg yX,if_pos rfl];by_cases h1:c=10
  ·rw [if_pos h1,h1];exact ElOk.esc _ _ yX
  ·rw [if_neg h1];by_cases h2:c=9
   ·rw [if_pos h2,h2];exact ElOk.esc _ _ yX
   ·rw [if_neg h2];by_cases h3:c=13
    ·rw [if_pos h3,h3];exact ElOk.esc _ _ yX
    ·rw [if_neg h3];by_cases h4:c=92
     ·rw [if_pos h4,h4];exact ElOk.esc _ _ yX
     ·rw [if_neg h4];by_cases h5:c=123
      ·rw [if_pos h5,h5];exact ElOk.esc _ _ yX
      ·rw [if_neg h5];exact ElOk.ch2 c ⟨h1,h4,h5⟩
 ·unfold F5;rw [if_neg yX,if_neg yX];by_cases h1:c=34
  ·rw [if_pos h1,h1];exact ElOk.two _ (Or.inl rfl)
  ·rw [if_neg h1];by_cases h2:c=123
   ·rw [if_pos h2,h2];exact ElOk.two _ (Or.inr rfl)
   ·rw [if_neg h2];exact ElOk.ch3 c ⟨h1,h2⟩
theorem X4j (fmt:Int) (c:UInt8):V3 fmt (chI c)=F5 fmt c:=by
 unfold V3 chI;rw [if_pos rfl];simp
def N1 (x:Tk):Prop:=x.k=2∨x.k=3∨x.k=4
def WfI (x:Tk):Prop:=x.k=1∨(x.k=5∧V8 x.t.data.toList=true∧x.d=0)∨((x.k=2∨x.k=4)∧N5 x.t.data.toList=true∧1≤x.d∧x.d≤999)∨(x.k=3∧V8 x.t.data.toList=true∧1≤x.d∧x.d≤999)
def Y0w (y x:Tk):Prop:=N1 y→N1 x→y.d=x.d→x.k=3∧y.k=2∧J8 y.t=x.t
structure ValF (f:List Tk):Prop where
 len:f.length≤512
 pos:X2 f≤1024
 nrm:Normal f
 wf:∀ x∈f,WfI x
 fit:f.Pairwise Y0w
def Q6t (f:List Tk):Prop:=∀ x∈f,N1 x→J4 (Z1 x.t.data.toList)=false
theorem Z5z (f:List Tk) (hn:Normal f) (h:∀ x∈f,V5 x) (hl:X2 f≤500):ValF f:=by
 have h1:=Q8u f (S8 f hn);refine ⟨yY,yY,hn,fun x hx=>?_,?_⟩
 ·rcases h x hx with h | h
  ·exact Or.inl h
  ·exact Or.inr (Or.inl h)
 ·refine List.pairwise_of_forall_mem_list fun y hy x hx=>?_;intro h1 _ _;exfalso;unfold N1 at h1;rcases h y hy with h | h<;>omega
theorem X8q (f:List Tk) (h:∀ x∈f,V5 x):Q6t f:=fun x hx ht=>by
 exfalso;unfold N1 at ht;rcases h x hx with h | h<;>omega
theorem Y9u (out:List Tk) (x:Tk) (h:∀ y∈out,V5 y) (hx:V5 x):∀ y∈X3 out x,V5 y:=by
 intro z hz;by_cases hk:x.k=1
 ·by_cases h2:x.t.size=0
  ·rw [G1 out x hk h2] at hz;exact h z hz
  ·rcases List.eq_nil_or_concat out with rfl | ⟨o,y,rfl⟩
   ·rw [V7 x hk h2] at hz;rw [List.mem_singleton.1 hz];exact Or.inl rfl
   ·rw [List.concat_eq_append] at h hz;by_cases hy:y.k=1
    ·rw [J3 o y x hk h2 hy] at hz;rcases List.mem_append.1 hz with hz | hz
     ·exact h z (List.mem_append.2 (.inl hz))
     ·rw [List.mem_singleton.1 hz];exact Or.inl rfl
    ·rw [D1 o y x hk h2 hy] at hz;rcases List.mem_append.1 hz with hz | hz
     ·exact h z hz
     ·rw [List.mem_singleton.1 hz];exact Or.inl rfl
 ·rw [K6 out x hk] at hz;rcases List.mem_append.1 hz with hz | hz
  ·exact h z hz
  ·rw [List.mem_singleton.1 hz];exact hx
theorem Y9t (f:List Tk) (h:∀ y∈f,V5 y):∀ y∈Q9 f,V5 y:=by
 suffices hh:∀ (g out:List Tk),(∀ y∈g,V5 y)→(∀ y∈out,V5 y)→∀ y∈g.foldl X3 out,V5 y from hh f [] h (fun y hy=>by simp at hy)
 intro g;induction g with
 | nil=>intro out _ h2;exact h2
 | cons x g ih=>intro out h1 h2;exact ih _ (fun y hy=>h1 y (by simp [hy])) (Y9u out x h2 (h1 x yW))
/-! ### Documents -/
structure Pt where
 un:Bool
 key:ByteArray
 raw:ByteArray
structure Un where
 sk:List UInt8
 key:List UInt8
 ts:Els
def B8:List Un→List UInt8→List Pt
 | [],tl=>[⟨false,ofL [],ofL tl⟩]
 | u::us,tl=>⟨false,ofL [],ofL u.sk⟩::⟨true,ofL u.key,ofL (Q2 u.ts)⟩::B8 us tl
def P3:List Un→List UInt8→List UInt8
 | [],tl=>tl
 | u::us,tl=>u.sk++Q2 u.ts++P3 us tl
theorem Q7r:∀ (us:List Un) (tl:List UInt8),((B8 us tl).map fun p=>p.raw.data.toList).flatten=P3 us tl
 | [],tl=>by simp [B8,P3,ofL]
 | u::us,tl=>by
   rw [B8,List.map_cons,List.map_cons,List.flatten_cons,List.flatten_cons,Q7r us tl,P3,List.append_assoc];simp [ofL]
theorem Z9l (l rest:List UInt8) (c:UInt8) (h:∀ b∈l,b≠c):Lib.indexByte (l++c::rest) c=(l.length:Int):=by
 induction l with
 | nil=>rw [List.nil_append,Lib.indexByte,if_pos yW];rfl
 | cons b l ih=>
   have hb:(b==c)=false:=(by simpa using h b yW);have e:=ih (fun x hx=>h x (by simp [hx]));rw [List.cons_append,Lib.indexByte,if_neg (by simp [hb]),e,if_neg (by rw [beq_iff_eq];omega),List.length_cons];omega
theorem L1 (p r:List UInt8):Lib.hasPrefix (p++r) p=true:=by
 unfold Lib.hasPrefix;rw [List.isPrefixOf_iff_prefix];exact List.prefix_append p r
theorem Q0u (c d:UInt8) (s p:List UInt8) (h:c≠d):Lib.hasPrefix (c::s) (d::p)=false:=by
 unfold Lib.hasPrefix;rw [List.isPrefixOf];have:(d==c)=false:=(by simpa using fun e:d=c=>h e.symm);rw [this,Bool.false_and]
theorem Y7n (l p:List UInt8) (c d:UInt8):Lib.hasSuffix (l++[c]) [d]=(d==c):=by
 unfold Lib.hasSuffix;rw [List.isSuffixOf];simp [List.isPrefixOf]
theorem C8 (l:List UInt8) (h:V8 l=true):∃ c r,l=c::r∧M7 c=true∧r.length≤23∧r.all R5=true:=by
 cases l with
 | nil=>simp [V8] at h
 | cons c r=>
   simp [V8] at h;exact ⟨c,r,rfl,h.1.2,yY,by simpa using h.2⟩
theorem X6p (l:List UInt8) (h:V8 l=true):∀ b∈l,(97≤b.toNat∧b.toNat≤122)∨(48≤b.toNat∧b.toNat≤57)∨b.toNat=45:=by
 obtain ⟨c,r,rfl,h1,_,h3⟩:=C8 l h;intro b hb;rcases List.mem_cons.1 hb with rfl | hb
 ·exact Or.inl (by simpa [M7] using h1)
 ·have:=List.all_eq_true.1 h3 b hb;simpa [R5] using this
theorem I7 (l:List UInt8) (h:V8 l=true) (c:UInt8) (hc:c=125∨c=62∨c=47∨c=60∨c=123∨c=32):∀ b∈l,b≠c:=by
 intro b hb e;have hh:=X6p l h b hb;rw [e] at hh;rcases hc with rfl | rfl | rfl | rfl | rfl | rfl<;>revert hh<;>decide
theorem U7 (l:List UInt8) (h:N5 l=true):l.length≤64∧l.getLastD 47≠47∧(∀ b∈l,Y3u b=true)∧V8 (Z1 l)=true∧((Z1 l).length=l.length∨(Z1 l).length+1 < l.length):=by
 unfold N5 at h;simp only [Bool.and_eq_true,Bool.or_eq_true,decide_eq_true_eq,Bool.not_eq_true',beq_eq_false_iff_ne] at h;obtain ⟨⟨⟨⟨h1,h2⟩,h3⟩,h4⟩,h5⟩:=h;exact ⟨h1,h2,fun b hb=>List.all_eq_true.1 h3 b hb,h4,h5⟩
theorem X4i (b:UInt8) (h:Y3u b=true):b≠60∧b≠62∧b≠123∧b≠125:=by
 unfold Y3u at h;simp only [Bool.and_eq_true,Bool.not_eq_true',beq_eq_false_iff_ne] at h;exact ⟨h.1.1.1.2,h.1.1.2,h.1.2,h.2⟩
theorem Q0k (l:List UInt8) (h:N5 l=true):(∀ b∈l,b≠62)∧(∀ b∈l,b≠60):=
 ⟨fun b hb=>(X4i b ((U7 l h).2.2.1 b hb)).2.1,fun b hb=>(X4i b ((U7 l h).2.2.1 b hb)).1⟩
theorem X1j (l:List UInt8):∃ r,l=Z1 l++r:=⟨l.dropWhile (fun c=>c != 32),(List.takeWhile_append_dropWhile).symm⟩
theorem E4 (l:List UInt8) (h:N5 l=true):∃ c r,l=c::r∧M7 c=true:=by
 obtain ⟨_,_,_,h4,_⟩:=U7 l h;obtain ⟨c,r,hc,hh,_⟩:=C8 _ h4;obtain ⟨r2,h2⟩:=X1j l;rw [hc] at h2;exact ⟨c,r++r2,h2,hh⟩
theorem Q6y (l:List UInt8) (h:N5 l=true):∃ r c,l=r++[c]∧c≠47:=by
 obtain ⟨_,h2,_⟩:=U7 l h;rcases List.eq_nil_or_concat l with rfl | ⟨r,c,rfl⟩
 ·exact absurd rfl h2
 ·rw [List.concat_eq_append] at h2 ⊢;exact ⟨r,c,rfl,by simpa using h2⟩
theorem O3 (c:UInt8) (h:M7 c=true) (d:UInt8) (hd:d=47∨d=123∨d=33):c≠d:=by
 intro e;rw [e] at h;rcases hd with rfl | rfl | rfl<;>revert h<;>decide
theorem Y3a (p:UInt8→Bool):∀ l:List UInt8,(∀ b∈l,p b=true)→l.takeWhile p=l
 | [],_=>rfl
 | c::l,h=>by rw [List.takeWhile_cons,if_pos (h c yW),Y3a p l (fun b hb=>h b (by simp [hb]))]
theorem X2y (l:List UInt8) (h:V8 l=true):Z1 l=l:=by
 refine Y3a _ l fun b hb=>?_;have:=I7 l h 32 yW b hb;simpa using this
theorem X7o (n rest:List UInt8) (h:V8 n=true):Lib.indexByte (123::n++125::rest) 125=((n.length+1:Nat):Int):=by
 have e:=Z9l (123::n) rest 125 (fun b hb=>by
  rcases List.mem_cons.1 hb with rfl | hb
  ·decide
  ·exact I7 n h 125 yW b hb)
 exact e
theorem Y2v (t rest:List UInt8) (h:∀ b∈t,b≠62):Lib.indexByte (60::t++62::rest) 62=((t.length+1:Nat):Int):=by
 have e:=Z9l (60::t) rest 62 (fun b hb=>by
  rcases List.mem_cons.1 hb with rfl | hb
  ·decide
  ·exact h b hb)
 exact e
def BSt (u its:List Tk) (tx:ByteArray):Prop:=Y0x its∧Q9 u=its++(if tx.size=0 then [] else [⟨1,tx,0⟩])
theorem BSt.nil:BSt [] [] ⟨#[]⟩:=⟨fun y hy=>by simp at hy,rfl⟩
theorem Y5q (l:List Tk) (x:Tk) (h:x.k≠1):Y0x (l++[x]):=fun y hy=>by
 rw [List.getLast?_append] at hy;simp at hy;rw [←hy];exact h
theorem BSt.ch {u its:List Tk} {tx:ByteArray} (h:BSt u its tx) (c:UInt8):BSt (u++[chI c]) its (tx++⟨#[c]⟩):=by
 refine ⟨h.1,?_⟩;have hs:(tx++⟨#[c]⟩).size≠0:=(by rw [ByteArray.size_append];show tx.size+1≠0;omega);rw [Q2f,h.2,if_neg hs];by_cases h0:tx.size=0
 ·rw [if_pos h0,List.append_nil,Q0d h0,Q4k];exact Q6r its ⟨#[c]⟩ 0 h.1 (by show (1:Nat)≠0;decide)
 ·rw [if_neg h0];exact J3 its ⟨1,tx,0⟩ (chI c) rfl (by show (1:Nat)≠0;decide) rfl
theorem BSt.item {u its:List Tk} {tx:ByteArray} (h:BSt u its tx) (x:Tk) (hx:x.k≠1):BSt (u++[x]) ((its++(if tx.size=0 then [] else [⟨1,tx,0⟩]))++[x]) ⟨#[]⟩:=by
 refine ⟨Y5q _ _ hx,?_⟩;rw [Q2f,h.2,K6 _ _ hx];exact (List.append_nil _).symm
theorem BSt.len {u its:List Tk} {tx:ByteArray} (h:BSt u its tx):its.length+(if tx.size=0 then 0 else 1)≤u.length:=by
 have h1:=O8 u;rw [h.2,List.length_append] at h1;split at h1
 ·rename_i h0;rw [if_pos h0];exact h1
 ·rename_i h0;rw [if_neg h0];exact h1
theorem BSt.text {u its:List Tk} {tx:ByteArray} (h:BSt u its tx):tx.size≤X2 u:=by
 have h1:=Q7q u;have h2:=congrArg List.length h1;rw [Q0t,Q0t,h.2,Q0q] at h2;split at h2
 ·omega
 ·have:X2 [(⟨1,tx,0⟩:Tk)]=tx.size:=by
   show wdI ⟨1,tx,0⟩+0=_;unfold wdI;rw [if_pos rfl];rfl
  omega
/-! ### Cuts -/
theorem P7 (a b:Els):Q2 (a++b)=Q2 a++Q2 b:=by simp [Q2]
theorem I6 (a b:Els):X1 (a++b)=X1 a++X1 b:=by simp [X1]
theorem Q5n:∀ (a b:Els) (p e:Nat),Q3j (a++b) p e=Q3j a p e++Q3j b (p+(Q2 a).length) (T6 a p e)
 | [],b,p,e=>by simp [Q3j,T6,Q2]
 | (r,none)::a,b,p,e=>by
   rw [List.cons_append,Q3j,Q5n a b,Q3j,T6,show Q2 ((r,none)::a)=r++Q2 a from rfl,List.length_append,Nat.add_assoc]
 | (r,some x)::a,b,p,e=>by
   rw [List.cons_append,Q3j,Q5n a b,Q3j,T6,show Q2 ((r,some x)::a)=r++Q2 a from rfl,List.length_append,Nat.add_assoc,List.cons_append]
theorem Q9y:∀ (a b:Els) (p e:Nat),T6 (a++b) p e=T6 b (p+(Q2 a).length) (T6 a p e)
 | [],b,p,e=>by simp [T6,Q2]
 | (r,none)::a,b,p,e=>by
   rw [List.cons_append,T6,Q9y a b,T6,show Q2 ((r,none)::a)=r++Q2 a from rfl,List.length_append,Nat.add_assoc]
 | (r,some x)::a,b,p,e=>by
   rw [List.cons_append,T6,Q9y a b,T6,show Q2 ((r,some x)::a)=r++Q2 a from rfl,List.length_append,Nat.add_assoc]
theorem X5i:∀ (a:Els) (p e:Nat),(Q3j a p e).length=(X1 a).length
 | [],_,_=>rfl
 | (r,none)::a,p,e=>by rw [Q3j,X5i a];rfl
 | (r,some x)::a,p,e=>by rw [Q3j,List.length_cons,X5i a];rfl
theorem V0v (ts:Els) (k:Nat) (h:k < ts.length):Q2 (ts.take (k+1))=Q2 (ts.take k)++ts[k].1:=by
 rw [List.take_succ_eq_append_getElem h,P7];simp [Q2]
theorem Y0e (ts:Els) (k:Nat) (h:k < ts.length):Q2 ts=Q2 (ts.take k)++(ts[k].1++Q2 (ts.drop (k+1))):=by
 have e:ts=ts.take k++ts.drop k:=(List.take_append_drop k ts).symm;have e2:ts.drop k=ts[k]::ts.drop (k+1):=List.drop_eq_getElem_cons h;have h1:Q2 ts=Q2 (ts.take k)++Q2 (ts.drop k):=by
  rw [←P7,←e]
 rw [h1,e2];rfl
/-! ### Numbers of tags -/
def O9:List Tk→Nat→List Tk→Nat×List Tk
 | [],c,op=>(c,op)
 | x::u,c,op=>if x.k=2 then O9 u (c+1) (x::op) else if x.k=4 then O9 u (c+1) op else if x.k=3 then O9 u c (op.drop 1) else O9 u c op
theorem Q3q:∀ (u v:List Tk) (c:Nat) (op:List Tk),O9 (u++v) c op=O9 v (O9 u c op).1 (O9 u c op).2
 | [],_,_,_=>rfl
 | x::u,v,c,op=>by
   rw [List.cons_append,O9,O9];split
   ·exact Q3q u v _ _
   ·split
    ·exact Q3q u v _ _
    ·split
     ·exact Q3q u v _ _
     ·exact Q3q u v _ _
theorem S9:∀ (u v:List Tk) (c:Nat) (op:List Tk),NumOk (u++v) c op→NumOk v (O9 u c op).1 (O9 u c op).2
 | [],_,_,_,h=>h
 | x::u,v,c,op,h=>by
   rw [List.cons_append] at h;unfold NumOk at h;rw [O9];split at h
   ·rename_i h2;rw [if_pos h2];exact S9 u v _ _ h.2
   ·rename_i h2;rw [if_neg h2];split at h
    ·rename_i h4;rw [if_pos h4];exact S9 u v _ _ h.2
    ·rename_i h4;rw [if_neg h4];split at h
     ·rename_i h3;rw [if_pos h3];obtain ⟨y,op',rfl,_,_,h⟩:=h;exact S9 u v _ _ h
     ·rename_i h3;rw [if_neg h3];exact S9 u v _ _ h
theorem Q0s:∀ (u:List Tk) (c:Nat) (op:List Tk),(O9 u c op).2.length≤op.length+u.length∧(O9 u c op).1≤c+u.length
 | [],c,op=>⟨yQ,yQ⟩
 | x::u,c,op=>by
   rw [O9,List.length_cons];split
   ·have:=Q0s u (c+1) (x::op);rw [List.length_cons] at this;omega
   ·split
    ·have:=Q0s u (c+1) op;omega
    ·split
     ·have:=Q0s u c (op.drop 1);rw [List.length_drop] at this;omega
     ·have:=Q0s u c op;omega
theorem Y5w (u:List Tk) (h:NumOk u 0 []):(O9 u 0 []).2=[]:=by
 have:=S9 u [] 0 [] (by rw [List.append_nil];exact h);exact this
end Go.Proofs.YtfkojnofbpdjdaaGreatDoor
