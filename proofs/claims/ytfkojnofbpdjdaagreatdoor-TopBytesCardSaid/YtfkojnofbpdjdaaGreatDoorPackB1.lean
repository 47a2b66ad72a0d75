/-
  Contracts and plain laws that this claim leans on, part 1.
-/
import Derived.WalkKit
import Derived.WalkLawsBesides
import Derived.Lib.Hide
import Derived.Lib.Strings
import Derived.Laws.IdiomStrings
import Derived.Deep.Draws
import Derived.Deep.QuietTactic
import Derived.BigQuiet
import Derived.Deep.OwnRows
import Derived.ProofKit
import Derived.OpenShut
import Derived.KernelRfl
import Derived.Below
import Derived.Laws.AppendOwnNone
import Derived.Test.YtfkojnofbpdjdaaGreatDoorChecked
import Derived.Lib.SmallJoins
import Derived.Maps.AppendAt
import Derived.Deep.AppendLies
import Derived.Deep.RegionLaw
import Derived.Lib.AppendStr
import Derived.WalkSpells
import Derived.BigRegion
import Derived.Laws.CopyOwn
import Derived.Deep.DeepCutAuto
import Derived.Deep.CutBlock
import Derived.Laws.ResultCell
import Derived.Lib.Bytealg
import Derived.Lib.Walk
import Derived.Lib.SplitLaws
import Derived.Lib.Split
import Derived.Lib.IndexMore
import Derived.Lib.Index
import Derived.Deep.RegionWith
import Derived.Deep.LoopGhost
import Derived.Deep.MidRow
import Derived.StillTailTactics
set_option linter.unusedVariables false
set_option linter.unusedSimpArgs false
set_option maxHeartbeats 16000000
set_option maxRecDepth 100000
namespace Go.Proofs.YtfkojnofbpdjdaaGreatDoor
open Go.RowKit
abbrev fY := ByteArray
theorem zZ {α : Type} (l : List α) (i : Nat) (a : α) : l.toArray.setIfInBounds i a = (l.set i a).toArray := List.setIfInBounds_toArray _ _ _
theorem zY {α : Type} (x : α) (xs : List α) (a : α) : (x :: xs).set 0 a = a :: xs := List.set_cons_zero
theorem zX {α : Type} (x : α) (xs : List α) (n : Nat) (a : α) : (x :: xs).set (n + 1) a = x :: xs.set n a := List.set_cons_succ
def yK (p : Prop) : Prop := p
theorem yK.o {p : Prop} (h : yK p) : p := h
theorem zW {p : Prop} (h : p) : yK p := h
theorem yZ {p : Prop} (h : p := by kernel_rfl) : p := h
theorem yY {p : Prop} (h : p := by omega) : p := h
theorem yX {p : Prop} (h : p := by decide) : p := h
theorem yW {p : Prop} (h : p := by simp) : p := h
theorem yV {p : Prop} (h : p := by simp; omega) : p := h
theorem yU {p : Prop} (h : p := by go_simp) : p := h
theorem yQ {n : Nat} : n ≤ n := Nat.le_refl n
abbrev aA := @List.length_append
abbrev aB := @Go.RowKit.Below.refl
abbrev aC := @Go.Lib.size_eq
abbrev aD := @Go.World.ownsRow.alloc
abbrev aE := @if_neg
abbrev aF := @List.getElem?_eq_getElem
abbrev aG := @List.length_cons
abbrev aH := @List.take_succ_eq_append_getElem
abbrev aI := @beq_eq_false_iff_ne
abbrev aJ := @List.mem_singleton
abbrev aK := @if_pos
abbrev aL := @List.getElem_mem
abbrev aM := @List.getElem?_eq_some_iff
abbrev aN := @Array.getElem?_eq_some_iff
abbrev aO := @Nat.zero_le
abbrev aP := @Nat.le_trans
abbrev aQ := @List.drop_eq_getElem_cons
abbrev aR := @List.cons_append
abbrev aS := @List.mem_append
abbrev aT := @Go.heap_alloc_new
abbrev aU := @List.mem_cons
abbrev aV := @Go.RowKit.Below.heap_setCell
abbrev aW := @List.take_length
abbrev aX := @List.append_nil
abbrev aY := @Array.getElem?_push_size
abbrev aZ := @List.append_assoc
abbrev bA := @List.length_map
abbrev bC := @Nat.lt_of_lt_of_le
abbrev bD := @ByteArray.size_append
abbrev bE := @Go.RowKit.Below.heap_alloc
abbrev bF := @List.getElem?_append_right
abbrev bG := @List.length_take
abbrev bH := @List.getD_eq_getElem?_getD
abbrev bI := @Nat.zero_add
abbrev bJ := @List.nil_append
abbrev bK := @List.getElem_append_right
abbrev bM := @List.length_drop
abbrev bN := @List.concat_eq_append
abbrev bO := @Go.bodyPost_ret
abbrev bP := @List.take_of_length_le
abbrev bQ := @List.foldl_cons
abbrev bR := @List.take_append_drop
abbrev bS := @List.eq_nil_or_concat
abbrev bU := @List.getElem?_cons_succ
abbrev bV := @Go.cell_of_row
abbrev bW := @Go.wpAny_done
abbrev bX := @Array.toList_inj
abbrev bY := @List.mem_of_mem_take
abbrev bZ := @List.length_singleton
abbrev cA := @List.map_cons
abbrev cB := @ByteArray.ext
abbrev cC := @List.eq_nil_of_length_eq_zero
abbrev cD := @decide_eq_false
abbrev cE := @List.getElem?_map
abbrev cF := @List.mem_map
abbrev cG := @decide_eq_true_eq
abbrev cH := @Int.toNat_natCast
abbrev cI := @List.getElem_append_left
abbrev cJ := @ByteArray.size_extract
abbrev cK := @List.mem_of_getElem?
abbrev cL := @List.not_mem_nil
abbrev cM := @beq_iff_eq
abbrev cN := @UInt8.toNat_inj
abbrev cO := @List.drop_zero
abbrev cP := @List.map_append
abbrev cQ := @Go.IntKind.wrap_i64
abbrev cR := @decide_eq_true
abbrev cS := @Nat.le_of_lt
abbrev cT := @List.length_reverse
abbrev cU := @List.extract_eq_take_drop
abbrev cV := @Nat.add_zero
abbrev cW := @List.take_zero
abbrev cX := @ByteArray.data_extract
abbrev cY := @decide_eq_false_iff_not
abbrev cZ := @Nat.sub_self
abbrev dA := @List.mem_flatMap
abbrev dC := @Bool.and_eq_true
abbrev dD := @Array.setIfInBounds_comm
abbrev dE := @List.flatMap_append
abbrev dF := @List.getElem?_eq_none
abbrev dG := @Array.toList_extract
abbrev dH := @Nat.sub_zero
abbrev dI := @List.drop_eq_nil_of_le
abbrev dJ := @List.getElem?_append_left
abbrev dK := @Go.World.cell?_alloc_past
abbrev dM := @List.flatMap_cons
abbrev dN := @Go.Result.andThen_ok
abbrev dO := @Nat.add_assoc
abbrev dP := @List.pairwise_cons
abbrev dQ := @List.mem_cons_of_mem
abbrev dR := @List.drop_left
abbrev dS := @Array.all_eq_true_iff_forall_mem
abbrev dT := @List.takeWhile_cons
abbrev dU := @Go.Sem.run_bind
abbrev dV := @List.singleton_append
abbrev dW := @List.mem_of_mem_drop
abbrev dX := @Go.World.cell?_of_block
abbrev dY := @List.foldl_append
abbrev dZ := @bne_iff_ne
abbrev eA := @Option.some.inj
abbrev eB := @List.length_nil
abbrev eC := @Go.RowKit.Below.drew
abbrev eD := @List.drop_of_length_le
abbrev eE := @Go.RowKit.Below.setCell
abbrev eF := @List.drop_length
abbrev eG := @UInt8.toNat_lt
abbrev eH := @List.take_left
abbrev eI := @List.isPrefixOf_iff_prefix
abbrev eJ := @List.countP_append
abbrev eK := @Bool.false_ne_true
abbrev eL := @or_false
abbrev eM := @List.map_nil
abbrev eN := @Go.World.ownsRow_nil
abbrev eO := @Go.Addr.add_lit
abbrev eP := @Go.frozen_of_row
abbrev eQ := @List.length_take_le
abbrev eR := @Nat.add_sub_cancel_left
abbrev eS := @List.getElem_map
abbrev eT := @List.drop_take
abbrev eU := @Go.results_none
abbrev eV := @Go.heap_setCell_other
abbrev eW := @Go.Sem.run_pure
abbrev eX := @Prod.mk.injEq
abbrev eY := @List.takeWhile_prefix
abbrev eZ := @List.set_append_right
abbrev fA := @List.reverse_cons
abbrev fB := @Go.AllReady.cons
abbrev fC := @List.drop_drop
abbrev fD := @Go.RowKit.Below.alloc
abbrev fE := @List.filter_cons
abbrev fF := @Go.info_parts
abbrev fG := @List.pairwise_iff_getElem
abbrev fH := @List.getLastD_eq_getLast?
abbrev fI := @List.take_succ_cons
abbrev fJ := @Go.World.rowIs_made
abbrev fK := @Go.Oper.wp_mono
abbrev fL := @Bool.or_eq_true
abbrev fM := @Nat.add_sub_cancel
abbrev fO := @Option.map_eq_some_iff
abbrev fP := @Nat.le_of_eq
abbrev fQ := @List.map_map
abbrev fR := @Bool.not_eq_true'
abbrev fS := @Go.bodyPost_end
abbrev fT := @List.mem_iff_getElem?
abbrev fU := @Array.getElem?_toList
abbrev fV := @LawfulBEq.eq_of_beq
abbrev fW := @List.setIfInBounds_toArray
abbrev fX := @of_decide_eq_true
theorem X2l {k:IntKind} {a b:Int} (h:a=b):Ending.returned (.int k a)=.returned (.int k b):=by rw [h]
theorem K0 {a b:Bool} (h:a=b):Ending.returned (.bool a)=.returned (.bool b):=by rw [h]
theorem Q5w {a b:Value} (h:a=b):Ending.returned a=.returned b:=by rw [h]
theorem N4 (w:World) (xs:List Value) (t:TypeId):∀ j u,xs[j]? =some u→(w.alloc (.cells xs.toArray t)).cell? ((⟨w.heap.size,0,none⟩:Addr).add j)=some u:=by
 intro j u hj;rw [eO,bI];have:(w.alloc (.cells xs.toArray t)).heap[w.heap.size]? =some (.cells xs.toArray t):=by
  show (w.heap.push (.cells xs.toArray t))[w.heap.size]? =_;simp
 rw [bV _ _ j _ _ _ this];simpa using hj
theorem Z7 {P:Program} {ops:Array Oper} {rest:List Oper} {o:Oper} {a:Act} {Q:Exit→Act→World→Prop} {w:World} (hgd:o.guard=none) (s x:Operand) (t e:TypeId)
 (ho:o.op=.call { callee:=.builtin .append,args:=#[s,x],argTypes:=#[t,t] })
 (ht:P.underlying t=some (.slice e)) (z:Value) (size bytes:Nat) (hinfo:(P.info? e).map (fun i=>(i.zero,i.size,i.bytes))=some (some z,size,bytes)) (hzs:z.cells.size=size) (hsz:0 < size)
 (base:Nat) (v:Value) (n:Nat) (xs:List Value) (hs:a.eval s=v) (hown:w.ownsRow base e size v n xs)
 (ad:Addr) (c:Nat) (news:List Value) (hx:a.eval x=.slice (some ad) 1 c) (hl:news.length=size) (hnews:∀ j u,news[j]? =some u→w.cell? (ad.add j)=some u) (h1:∀ u∈news,u.oneCell'=true)
 (hbytes:(n+1) * bytes≤140737488355328) (hb1:1≤bytes) (hbase:base≤w.heap.size)
 (h:∀ g cap w',w'.ownsRow base e size (.slice (some ⟨g,0,none⟩) (n+1) cap) (n+1) (xs++news)→base≤g→(∀ B W,B≤base→Below B W w→Below B W w')→w.grownBy w' v.ownBlock→
   wpList P ops Q rest (a.put o.dst (.slice (some ⟨g,0,none⟩) (n+1) cap)) w'):wpList P ops Q (o::rest) a w:=by
 obtain ⟨i,hi,hz,ha,hc⟩:=fF hinfo;have h2:n+1≤140737488355328:=aP (Nat.le_mul_of_pos_right _ hb1) hbytes;refine wpList_append_own w hgd s x t ho base e i z size bytes ht hi hz ha hc hzs hsz v n xs hs hown ad 1 c news hx (by rw [hl,Nat.one_mul]) hnews h1 (by unfold maxLen;omega) hbytes hbase ?_;intro v' w' hown' hg _;have hd:∃ g cap,v'=.slice (some ⟨g,0,none⟩) (n+1) cap∧base≤g:=by
  rcases hown'.2 with ⟨_,h0⟩ | ⟨g,cap,_,h,hb,_⟩
  ·omega
  ·exact ⟨g,cap,h,hb⟩
 obtain ⟨g,cap,hv,hb⟩:=hd;rw [hv] at hown' ⊢;exact h g cap w' hown' hb (fun B W hB hW=>hW.grown hg (aP hB hbase) (fun k hk=>aP hB (hown.lt k hk).1)) hg
theorem Q0 {w:World} {base:Nat} {e:TypeId} {size:Nat} {v:Value} {n:Nat} {xs:List Value} (h:w.ownsRow base e size v n xs):∃ A c,v=.slice A n c:=by
 rcases h.2 with ⟨rfl,rfl⟩ | ⟨g,cap,_,h,_⟩
 ·exact ⟨none,0,rfl⟩
 ·exact ⟨_,_,h⟩
theorem X8t {w:World} {base:Nat} {e:TypeId} {size:Nat} {v:Value} {n:Nat} {xs:List Value} (h:w.ownsRow base e size v n xs) (hn:0 < n):∃ g c,v=.slice (some ⟨g,0,none⟩) n c∧base≤g:=by
 rcases h.2 with ⟨_,h0⟩ | ⟨g,cap,_,h,hb,_⟩
 ·omega
 ·exact ⟨_,_,h,hb⟩
theorem Q2t {α:Type} (f:α→List Value) (m:Nat) (hm:∀ x,(f x).length=m):∀ (l:List α) (i j:Nat) (x:α),l[i]? =some x→j < m→(l.flatMap f)[i * m+j]? =(f x)[j]?
 | [],i,j,x,h,_=>by simp at h
 | y::l,0,j,x,h,hj=>by
   simp at h;subst h;simp [dJ (show j < (f y).length by rw [hm];exact hj)]
 | y::l,i+1,j,x,h,hj=>by
   have ih:=Q2t f m hm l i j x (by simpa using h) hj;rw [dM,bF (by rw [hm,Nat.add_mul];omega),hm,←ih];congr 1;rw [Nat.add_mul];omega
theorem I0 {α:Type} (f:α→List Value) (m:Nat) (hm:∀ x,(f x).length=m) (l:List α):(l.flatMap f).length=l.length * m:=by
 induction l with
 | nil=>simp
 | cons x l ih=>rw [dM,aA,hm,ih,aG,Nat.add_mul];omega
/-! ### Quiet calls in a region that draws its order -/
theorem X9b {P:Program} {f:FuncId} {args:Array Value} {w:World} {n:Nat} {v:Value}
 (h:Calls P f args (w.drewN n) fun e w'=>e=.returned v∧w.drewN n=w'):Calls P f args (w.drewN n) fun e w''=>e=.returned v∧∃ m,w''=w.drewN m:=
 h.mono fun _ _ ⟨he,hw⟩=>⟨he,n,hw.symm⟩
theorem Q1 {B:Nat} {a w:World} (h:Below B a w) (n:Nat):Below B a (w.drewN n):=⟨h.os,h.tape,h.output,h.size,h.block⟩
theorem Y7 (a:fY):a.toList=a.data.toList:=ByteArray.toList_eq a
def Q6i (n:Int):Int:=
 if n=9∨n=10∨n=13∨n=32 then 2
 else if n < 32∨n=127 then 1
 else if 48≤n∧n≤57 then 3
 else if (97≤n∧n≤122)∨(65≤n∧n≤90)∨128≤n then 4
 else 5
/-! ### Names -/
def S6 (c:UInt8):Bool:=decide (97≤c.toNat∧c.toNat≤122)
def Q0c (c:UInt8):Bool:=decide ((97≤c.toNat∧c.toNat≤122)∨(48≤c.toNat∧c.toNat≤57)∨c.toNat=45)
def U3:List UInt8→Bool
 | []=>false
 | c::r=>decide (r.length≤23) && S6 c && r.all Q0c
theorem X5g (l:List UInt8) (h:l.length < 1):U3 l=false:=by
 have:l=[]:=cC yY;subst this;rfl
theorem X8k (l:List UInt8) (h:24 < l.length):U3 l=false:=by
 match l,h with
 | c::r,h=>simp at h;simp [U3];omega
theorem X8j (l:List UInt8) (h:0 < l.length) (hc:S6 l[0]=false):U3 l=false:=by
 match l,h with
 | c::r,h=>simp at hc;simp [U3,hc]
theorem X8l (l:List UInt8) (h:0 < l.length) (hl:l.length≤24) (hc:S6 l[0]=true):U3 l=(l.drop 1).all Q0c:=by
 match l,h with
 | c::r,h=>simp at hc hl;simp [U3,hc,hl]
theorem Q9j (l:List UInt8) (k:Nat) (h:k < l.length):(l.drop k).all Q0c=(Q0c l[k] && (l.drop (k+1)).all Q0c):=by
 rw [aQ h,List.all_cons]
theorem X0s (l:List UInt8) (k:Nat) (h:¬ k < l.length):(l.drop k).all Q0c=true:=by
 rw [eD yY];rfl
/-! ### Trim -/
def V0z (l:List UInt8) (x y:Nat):Prop:=
 (x=0∧y=0∧∀ (j:Nat) (c:UInt8),l[j]? =some c→Q6i c.toNat=2)∨
 (x < y∧y≤l.length∧(∀ c,l[x]? =some c→Q6i c.toNat≠2)∧(∀ c,l[y - 1]? =some c→Q6i c.toNat≠2)∧(∀ (j:Nat) (c:UInt8),j < x→l[j]? =some c→Q6i c.toNat=2)∧∀ (j:Nat) (c:UInt8),y≤j→l[j]? =some c→Q6i c.toNat=2)
/-! ### Runs -/
structure Tk where
 k:Int
 t:fY
 d:Int
theorem Tk.ext' {a b:Tk} (h1:a.k=b.k) (h2:a.t=b.t) (h3:a.d=b.d):a=b:=by
 cases a;cases b;simp at h1 h2 h3;rw [h1,h2,h3]
theorem Q0f {a b:fY} (h:a.data.toList=b.data.toList):a=b:=by
 obtain ⟨⟨l⟩⟩:=a;obtain ⟨⟨m⟩⟩:=b;simp at h;rw [h]
def X2 (f:List Tk):Nat:=(f.map fun x=>x.t.size).sum
theorem Q5f (x:Tk) (f:List Tk):X2 (x::f)=x.t.size+X2 f:=by simp [X2]
theorem Y3n (f:List Tk) (k:Nat):X2 (f.take k)≤X2 f:=by
 induction f generalizing k with
 | nil=>simp [X2]
 | cons x f ih=>
   cases k with
   | zero=>simp [X2]
   | succ k=>rw [fI,Q5f,Q5f];have:=ih k;omega
theorem Y6h (f:List Tk) (k:Nat) (h:k < f.length):X2 (f.take k)+f[k].t.size≤X2 f:=by
 have h1:=Y3n f (k+1);rw [aH h] at h1;have h2:X2 (f.take k++[f[k]])=X2 (f.take k)+f[k].t.size:=by
  unfold X2;rw [cP,List.sum_append];simp only [cA,eM,List.sum_cons,List.sum_nil,cV]
 omega
def RdE {α:Type} (f:α→List Value) (m:Nat) (w:World) (v:Value) (l:List α):Prop:=
 ∃ A c,v=.slice A l.length c∧l.length≤c∧(A=none→c=0)∧(0 < l.length→∃ b o,A=some ⟨b,o,none⟩∧b < w.heap.size∧∀ (i:Nat) (x:α) (j:Nat) (u:Value),l[i]? =some x→(f x)[j]? =some u→
  w.cell? ⟨b,o+(i * m+j),none⟩=some u)
section
variable {α:Type} {f:α→List Value} {m:Nat} {w w':World} {v:Value} {l:List α}
theorem RdE.nil:RdE f m w (.slice none 0 0) ([]:List α):=⟨none,0,rfl,by simp,fun _=>rfl,fun h=>by simp at h⟩
theorem RdE.keep (h:RdE f m w v l) (hs:w.heap.size≤w'.heap.size) (hk:∀ b,b < w.heap.size→w'.heap[b]? =w.heap[b]?):RdE f m w' v l:=by
 obtain ⟨A,c,hv,hc,hn,h⟩:=h;refine ⟨A,c,hv,hc,hn,fun h0=>?_⟩;obtain ⟨b,o,hA,hb,hx⟩:=h h0;refine ⟨b,o,hA,yY,fun i x j u hi hj=>?_⟩;rw [dX (w:=w) (hk b hb)];exact hx i x j u hi hj
theorem RdE.below {B:Nat} (h:RdE f m w v l) (hb:Below B w w') (hB:w.heap.size≤B):RdE f m w' v l:=
 h.keep hb.size (fun b ha=>hb.block b yY)
theorem RdE.alloc (h:RdE f m w v l) (o:Obj):RdE f m (w.alloc o) v l:=h.keep yW (fun b hb=>bE w o b hb)
theorem RdE.shape (h:RdE f m w v l):∃ A c,v=.slice A l.length c∧l.length≤c∧(A=none→c=0):=by
 obtain ⟨A,c,hv,hc,hn,_⟩:=h;exact ⟨A,c,hv,hc,hn⟩
theorem RdE.cells {A:Option Addr} {n c:Nat} (h:RdE f m w (.slice A n c) l) (h0:0 < l.length):
 ∃ b o,A=some ⟨b,o,none⟩∧b < w.heap.size∧∀ (i:Nat) (x:α) (j:Nat) (u:Value),l[i]? =some x→(f x)[j]? =some u→w.cell? ⟨b,o+(i * m+j),none⟩=some u:=by
 obtain ⟨A',c',hv,_,_,h⟩:=h;injection hv with hA _ _;subst hA;exact h h0
theorem RdE.cap {A:Option Addr} {n c:Nat} (h:RdE f m w (.slice A n c) l):l.length≤c:=by
 obtain ⟨_,_,hv,hc,_⟩:=h;injection hv with _ _ h3;omega
end
abbrev OwnE {α:Type} (e:TypeId) (f:α→List Value) (m:Nat) (w:World) (B:Nat) (v:Value) (l:List α):Prop:=w.ownsRow B e m v l.length (l.flatMap f)
section
variable {α:Type} {e:TypeId} {f:α→List Value} {m:Nat} {w w':World} {B:Nat} {v:Value} {l:List α}
theorem OwnE.nil:OwnE e f m w B (.slice none 0 0) ([]:List α):=eN _ _ _ _
theorem OwnE.snoc {x:α} (h:w.ownsRow B e m v (l.length+1) (l.flatMap f++f x)):OwnE e f m w B v (l++[x]):=by
 unfold OwnE;rw [aA,dE];simpa using h
theorem U1 {size n:Nat} {xs:List Value} {B':Nat} (h:w.ownsRow B e size v n xs) (hb:Below B' w w') (hB:w.heap.size≤B'):w'.ownsRow B e size v n xs:=by
 refine ⟨h.1,?_⟩;rcases h.2 with h0 | ⟨g,cap,cur,hv,hbg,hg,rest⟩
 ·exact .inl h0
 ·refine .inr ⟨g,cap,cur,hv,hbg,?_,rest⟩;rw [hb.block g (bC (aN.1 hg).1 hB)];exact hg
theorem Y3 {size n:Nat} {xs:List Value} {B':Nat} (h:w.ownsRow B e size v n xs) (hB:B'≤B):w.ownsRow B' e size v n xs:=
 ⟨h.1,h.2.imp id (fun ⟨g,cap,cur,a,b,c⟩=>⟨g,cap,cur,a,aP hB b,c⟩)⟩
theorem OwnE.rd (hm:∀ x,(f x).length=m) (h:OwnE e f m w B v l):RdE f m w v l:=by
 rcases h.2 with ⟨rfl,h0⟩ | ⟨g,cap,cur,rfl,_,hh,hc,_⟩
 ·have:l=[]:=cC h0;subst this;exact RdE.nil
 ·refine ⟨some ⟨g,0,none⟩,cap,rfl,hc,(fun h=>by cases h),fun _=>⟨g,0,rfl,(aN.1 hh).1,fun i x j u hi hj=>?_⟩⟩;have ha:i < l.length:=(aM.1 hi).1;have hb:j < m:=(by rw [←hm x];exact (aM.1 hj).1);have hd:i * m+j < l.length * m:=by
   have:(i+1) * m≤l.length * m:=Nat.mul_le_mul_right _ ha;rw [Nat.add_mul] at this;omega
  rw [bI,h.cellAt (i * m+j) hd,Q2t f m hm l i j x hi hb,hj]
end
theorem V2 {P:Program} {ops:Array Oper} {rest:List Oper} {o:Oper} {a:Act} {Q:Exit→Act→World→Prop} {w:World} {α:Type} (hgd:o.guard=none) (s x:Operand) (t e:TypeId)
 (ho:o.op=.call { callee:=.builtin .append,args:=#[s,x],argTypes:=#[t,t] })
 (ht:P.underlying t=some (.slice e)) (z:Value) (f:α→List Value) (size bytes:Nat) (hinfo:(P.info? e).map (fun i=>(i.zero,i.size,i.bytes))=some (some z,size,bytes)) (hzs:z.cells.size=size) (hsz:0 < size)
 (hm:∀ x,(f x).length=size) (h1:∀ x,∀ u∈f x,u.oneCell'=true)
 (base:Nat) (v:Value) (l:List α) (hs:a.eval s=v) (hown:w.ownsRow base e size v l.length (l.flatMap f))
 (v2:Value) (l2:List α) (hx:a.eval x=v2) (hrd:RdE f size w v2 l2)
 (hbytes:(l.length+l2.length) * bytes≤140737488355328) (hb1:1≤bytes) (hbase:base≤w.heap.size)
 (h:∀ v' w',w'.ownsRow base e size v' (l++l2).length ((l++l2).flatMap f)→(∀ B W,B≤base→Below B W w→Below B W w')→w.grownBy w' v.ownBlock→wpList P ops Q rest (a.put o.dst v') w'):wpList P ops Q (o::rest) a w:=by
 obtain ⟨i,hi,hz,hb,hh⟩:=fF hinfo;have h2:l.length+l2.length≤140737488355328:=aP (Nat.le_mul_of_pos_right _ hb1) hbytes;obtain ⟨A,c,hf,hc,hn,ha⟩:=hrd;rcases A with _ | ad
 ·have hl:=hn rfl;have hw:l2=[]:=cC yY;subst hw hl;refine wpList_append_own_none hgd s x t ho base e i size ht hi v l.length _ hs hown (by rw [hx,hf];rfl) (h v w (by simpa using hown) (fun _ _ _ hB=>hB) (World.grownBy.refl w _))
 ·refine wpList_append_own w hgd s x t ho base e i z size bytes ht hi hz hb hh hzs hsz v l.length _ hs hown ad l2.length c (l2.flatMap f) (by rw [hx,hf]) (I0 f size hm l2) (fun j u hj=>?_) (fun u hu=>?_) (by unfold maxLen;omega) hbytes hbase ?_
  ·have he:j < l2.length * size:=(by rw [←I0 f size hm l2];exact (aM.1 hj).1);have hv:0 < l2.length:=by
    rcases Nat.eq_zero_or_pos l2.length with h0 | h0
    ·rw [h0] at he;omega
    ·exact h0
   obtain ⟨b,o',hA,_,hp⟩:=ha hv;injection hA with hA;subst hA;have hq:j / size < l2.length:=Nat.div_lt_of_lt_mul (by rw [Nat.mul_comm];exact he);have hr:j % size < size:=Nat.mod_lt _ hsz;have hx':l2[j / size]? =some l2[j / size]:=aF hq;have hd:j / size * size+j % size=j:=(by rw [Nat.mul_comm];exact Nat.div_add_mod j size);have hg:=Q2t f size hm l2 (j / size) (j % size) _ hx' hr;rw [hd,hj] at hg;have:=hp (j / size) _ (j % size) u hx' hg.symm;rw [hd] at this;rw [eO];exact this
  ·obtain ⟨x,hx,hu⟩:=dA.1 hu;exact h1 x u hu
  ·intro v' w' hown' hg _;refine h v' w' ?_ (fun B W hB hW=>hW.grown hg (aP hB hbase) (fun k hk=>aP hB (hown.lt k hk).1)) hg;rw [aA,dE];exact hown'
def N6 {α:Type} (t:TypeId) (f:α→List Value) (m:Nat) (w:World) (l:List α) (e:Ending) (w':World):Prop:=∃ v,e=.returned v∧OwnE t f m w' w.heap.size v l∧Below w.heap.size w w'
theorem T6 (w:World) (g:Nat) (hg:w.heap.size=g) (xs:List Value) (t:TypeId):∀ j u,xs[j]? =some u→(w.alloc (.cells xs.toArray t)).cell? ((⟨g,0,none⟩:Addr).add j)=some u:=by
 subst hg;exact N4 w xs t
open Tryz
def tkC (x:Tk):List Value:=[.int .i64 x.k,.string x.t,.int .i64 x.d]
theorem Q5 (x:Tk):(tkC x).length=3:=rfl
theorem D4 (x:Tk):∀ u∈tkC x,u.oneCell'=true:=by
 intro u hu;simp [tkC] at hu;rcases hu with rfl | rfl | rfl<;>rfl
theorem Z8:(prog.info? 31).map (fun i=>(i.zero,i.size,i.bytes))=some (some (.agg #[.int .i64 0,.string ⟨#[]⟩,.int .i64 0]),3,32):=by kernel_rfl
abbrev RdT (w:World) (v:Value) (l:List Tk):Prop:=RdE tkC 3 w v l
abbrev OwnT (e:TypeId) (w:World) (B:Nat) (v:Value) (l:List Tk):Prop:=OwnE e tkC 3 w B v l
theorem RdT.at_ {w:World} {A:Option Addr} {n c:Nat} {l:List Tk} (h:RdT w (.slice A n c) l) (k:Nat) (hk:k < l.length):
 ∃ b o,A=some ⟨b,o,none⟩∧b < w.heap.size∧w.cell? ⟨b,o+k * 3,none⟩=some (.int .i64 l[k].k)∧w.cell? ⟨b,o+k * 3+1,none⟩=some (.string l[k].t)∧w.cell? ⟨b,o+k * 3+2,none⟩=some (.int .i64 l[k].d):=by
 obtain ⟨b,o,hA,hb,hx⟩:=RdE.cells h yY;have hi:l[k]? =some l[k]:=aF hk;exact ⟨b,o,hA,hb,hx k _ 0 _ hi rfl,hx k _ 1 _ hi rfl,hx k _ 2 _ hi rfl⟩
end Go.Proofs.YtfkojnofbpdjdaaGreatDoor
namespace Go.Proofs.YtfkojnofbpdjdaaGreatDoor
open Tryz
open Go.ChangeShapes Go.WideShapes Go.ChangeAt Go.RowKit Go.Deep Go.Joins
theorem U2m {n:Int} (h:(Lit.int .i64 n).wf=true):-9223372036854775808≤n∧n≤9223372036854775807:=by
 simp only [Lit.wf,dC,cG] at h;exact h
section
variable {H:Type} {enc:TypeId×Value→H} {P:Program} {w:World} {base:Nat} {spare:Nat→Bool} {held:Bool}
theorem Z9h {α:Type} (f:α→List Value) (m:Nat) (good:α→Prop) {r:Reach} {b0:Nat} {t e:TypeId} {v:Value} {d:DataW H} {p:List MemPlace} (ht:P.underlying t=some (.slice e)) (hC:P.cellsOf e=m) (hm:∀ x,(f x).length=m) (hm0:0 < m)
 (hel:∀ n cs x,DataW.trod enc P w base spare held n e cs=some x→∃ y:α,cs=f y∧good y) (hv:Value.okWide P w r b0 t v) (h:DataW.Trod enc P w base spare held t v d p):
 ∃ (A:Option Addr) (n c:Nat) (l:List α),v=.slice A n c∧n=l.length∧l.length≤maxLen∧RdE f m w (.slice A n c) l∧∀ x∈l,good x:=by
 obtain ⟨A,n,c,rfl⟩:=okWide_slice ht hv;obtain ⟨fuel,hf⟩:=h;rcases open_slice ht hf with ⟨h0,_⟩ | ⟨a,len,cap,k,n',D,Pl,hcs,_,hl,hmx,hk,_,hi⟩
 ·simp [Value.cells] at h0;obtain ⟨rfl,rfl,rfl⟩:=h0;exact ⟨none,0,0,[],rfl,rfl,by simp,RdE.nil,by simp⟩
 ·simp [Value.cells] at hcs;obtain ⟨rfl,rfl,rfl⟩:=hcs;have hw:n≤k:=by rw [hk];split<;>omega
  have hb:∀ i:Fin n,∃ y:α,good y∧∀ (j:Nat) (u:Value),(f y)[j]? =some u→w.cell? (a.add (i.val * m+j))=some u:=by
   intro i;obtain ⟨cs',hc,hr⟩:=hi i.val yY;obtain ⟨y,rfl,hy⟩:=hel _ _ _ hr;refine ⟨y,hy,fun j u hd=>?_⟩;obtain ⟨_,hs,hj⟩:=World.cells?_some hc;have hp:j < m:=(by rw [←hm y];exact (aM.1 hd).1);have:=hj j (by rw [hC];exact hp);rw [hd,hC,Go.Deep.add_add] at this;exact this
  refine ⟨some a,n,c,List.ofFn fun i=>Classical.choose (hb i),rfl,by simp,by simp;omega,?_,?_⟩
  ·refine ⟨some a,c,by simp,by simp;omega,(fun h=>by cases h),fun h0=>?_⟩;have he:0 < n:=(by simpa using h0);have ho:=Classical.choose_spec (hb ⟨0,he⟩);have hg:(f (Classical.choose (hb ⟨0,he⟩)))[0]? =some _:=aF (by rw [hm];omega);have ha:=ho.2 0 _ hg;obtain ⟨b,o,sp⟩:=a;have hq:sp=none:=(by simpa [Addr.add] using World.cell?_spot ha);subst hq;have hn:b < w.heap.size:=by
    unfold World.cell? at ha;split at ha
    ·rename_i hh;have:=(aN.1 hh).1;rw [eO] at this;exact this
    ·cases ha
   refine ⟨b,o,rfl,hn,fun i x j u hx hu=>?_⟩;rw [List.getElem?_ofFn] at hx;split at hx
   ·rename_i hin;injection hx with hx;subst hx;have:=(Classical.choose_spec (hb ⟨i,hin⟩)).2 j u hu;rw [eO] at this;exact this
   ·cases hx
  ·intro x hx;obtain ⟨i,rfl⟩:=List.mem_ofFn.1 hx;exact (Classical.choose_spec (hb i)).1
end
section
variable {H:Type} {enc:TypeId×Value→H} {w:World} {base:Nat} {spare:Nat→Bool} {held:Bool}
def V7 (x:Int):List Value:=[.int .i64 x]
theorem K6 (x:Int):(V7 x).length=1:=rfl
def H7 (x:Int):Prop:=-9223372036854775808≤x∧x≤9223372036854775807
theorem Y2f {r:Reach} {b0:Nat} {v:Value} {d:DataW H} {p:List MemPlace} (hv:Value.okWide prog w r b0 22 v) (h:DataW.Trod enc prog w base spare held 22 v d p):
 ∃ (A:Option Addr) (n c:Nat) (l:List Int),v=.slice A n c∧n=l.length∧l.length≤maxLen∧RdE V7 1 w (.slice A n c) l∧∀ x∈l,H7 x:=
 Z9h V7 1 H7 underlying22 yZ K6 yX (fun n cs x h=>by
  obtain ⟨a,e,_,wf⟩:=DataW.trod_int underlying3 h;exact ⟨a,e,U2m wf⟩) hv h
end
end Go.Proofs.YtfkojnofbpdjdaaGreatDoor
namespace Go.Proofs.YtfkojnofbpdjdaaGreatDoor
open Go.RowKit
def X4 (out:List Tk) (x:Tk):List Tk:=
 if x.k≠1 then out++[x] else if x.t.size=0 then out else match out.getLast? with
  | some y=>if y.k=1 then out.dropLast++[⟨1,y.t++x.t,0⟩] else out++[⟨1,x.t,0⟩]
  | none=>[⟨1,x.t,0⟩]
def Q4 (f:List Tk):List Tk:=f.foldl X4 []
theorem M9 (f:List Tk) (x:Tk):Q4 (f++[x])=X4 (Q4 f) x:=by simp [Q4]
theorem Q9z (f:List Tk) (k:Nat) (h:k < f.length):Q4 (f.take (k+1))=X4 (Q4 (f.take k)) f[k]:=by
 rw [aH h,M9]
theorem D9 (out:List Tk) (x:Tk) (h:x.k≠1):X4 out x=out++[x]:=by rw [X4,aK h]
theorem O2 (out:List Tk) (x:Tk) (h:x.k=1) (h2:x.t.size=0):X4 out x=out:=by
 rw [X4,aE yY,aK h2]
theorem U2 (x:Tk) (h:x.k=1) (h2:x.t.size≠0):X4 [] x=[⟨1,x.t,0⟩]:=by
 rw [X4,aE yY,aE h2];rfl
theorem K5 (out:List Tk) (y x:Tk) (h:x.k=1) (h2:x.t.size≠0) (hy:y.k=1):X4 (out++[y]) x=out++[⟨1,y.t++x.t,0⟩]:=by
 rw [X4,aE yY,aE h2];simp [hy]
theorem E8 (out:List Tk) (y x:Tk) (h:x.k=1) (h2:x.t.size≠0) (hy:y.k≠1):X4 (out++[y]) x=out++[y]++[⟨1,x.t,0⟩]:=by
 rw [X4,aE yY,aE h2];simp [hy]
theorem X5t (out:List Tk) (x:Tk):(X4 out x).length≤out.length+1:=by
 unfold X4;split
 ·simp
 ·split
  ·omega
  ·split
   ·split
    ·simp;try omega
    ·simp
   ·simp
theorem N0 (f:List Tk):(Q4 f).length≤f.length:=by
 suffices h:∀ (g:List Tk) (out:List Tk),(g.foldl X4 out).length≤out.length+g.length by
  have:=h f [];simpa [Q4] using this
 intro g;induction g with
 | nil=>intro out;simp
 | cons x g ih=>
   intro out;rw [bQ,aG];have h1:=ih (X4 out x);have h2:=X5t out x;omega
theorem J7 (f g:List Tk):X2 (f++g)=X2 f+X2 g:=by simp [X2]
theorem F6 (x:Tk):X2 [x]=x.t.size:=by simp [X2]
theorem X8o (out:List Tk) (x:Tk):X2 (X4 out x)=X2 out+x.t.size:=by
 by_cases h:x.k=1
 ·by_cases h2:x.t.size=0
  ·rw [O2 out x h h2];omega
  ·rcases bS out with rfl | ⟨o,y,rfl⟩
   ·rw [U2 x h h2];simp [X2]
   ·rw [bN];by_cases hy:y.k=1
    ·rw [K5 o y x h h2 hy,J7,J7,F6,F6];simp;omega
    ·rw [E8 o y x h h2 hy,J7,J7,F6,F6]
 ·rw [D9 out x h,J7,F6]
theorem Q1j (f:List Tk):X2 (Q4 f)=X2 f:=by
 suffices h:∀ (g:List Tk) (out:List Tk),X2 (g.foldl X4 out)=X2 out+X2 g by
  have:=h f [];simpa [Q4,X2] using this
 intro g;induction g with
 | nil=>intro out;simp [X2]
 | cons x g ih=>
   intro out;rw [bQ,ih,X8o,Q5f];omega
def Normal:List Tk→Prop
 | []=>True
 | x::r=>(x.k=1→x.t.size≠0∧x.d=0∧∀ y,r.head? =some y→y.k≠1)∧Normal r
theorem Normal.snoc_other (out:List Tk) (x:Tk) (h:Normal out) (hx:x.k≠1):Normal (out++[x]):=by
 induction out with
 | nil=>exact ⟨fun h=>absurd h hx,trivial⟩
 | cons y r ih=>
   refine ⟨fun hy=>?_,ih h.2⟩;obtain ⟨a,b,c⟩:=h.1 hy;refine ⟨a,b,fun z hz=>?_⟩;cases r with
   | nil=>simp at hz;rw [←hz];exact hx
   | cons u r=>exact c z (by simpa using hz)
theorem Normal.snoc_text (out:List Tk) (y x:Tk) (h:Normal (out++[y])) (hy:y.k≠1) (h2:x.t.size≠0) (h3:x.d=0):Normal (out++[y]++[x]):=by
 induction out with
 | nil=>exact ⟨fun h=>absurd h hy,fun _=>⟨h2,h3,fun z hz=>by simp at hz⟩,trivial⟩
 | cons u r ih=>
   refine ⟨fun hu=>?_,ih h.2⟩;obtain ⟨a,b,c⟩:=h.1 hu;refine ⟨a,b,fun z hz=>c z ?_⟩;cases r with
   | nil=>simpa using hz
   | cons u r=>simpa using hz
theorem Normal.replace (out:List Tk) (y x:Tk) (h:Normal (out++[y])) (hy:y.k=1) (_h1:x.k=1) (h2:x.t.size≠0) (h3:x.d=0):Normal (out++[x]):=by
 induction out with
 | nil=>exact ⟨fun _=>⟨h2,h3,fun z hz=>by simp at hz⟩,trivial⟩
 | cons u r ih=>
   refine ⟨fun hu=>?_,ih h.2⟩;obtain ⟨a,b,c⟩:=h.1 hu;refine ⟨a,b,fun z hz=>?_⟩;cases r with
   | nil=>exact absurd hy (c y rfl)
   | cons v r=>exact c z (by simpa using hz)
theorem Normal.step (out:List Tk) (x:Tk) (h:Normal out):Normal (X4 out x):=by
 by_cases hk:x.k=1
 ·by_cases h2:x.t.size=0
  ·rw [O2 out x hk h2];exact h
  ·rcases bS out with rfl | ⟨o,y,rfl⟩
   ·rw [U2 x hk h2];exact ⟨fun _=>⟨h2,rfl,fun z hz=>by simp at hz⟩,trivial⟩
   ·rw [bN] at h ⊢;by_cases hy:y.k=1
    ·rw [K5 o y x hk h2 hy];exact Normal.replace o y _ h hy rfl (by show (y.t++x.t).size≠0;rw [bD];omega) rfl
    ·rw [E8 o y x hk h2 hy];exact Normal.snoc_text o y _ h hy h2 rfl
 ·rw [D9 out x hk];exact Normal.snoc_other out x h hk
theorem N1 (f:List Tk):Normal (Q4 f):=by
 suffices h:∀ (g out:List Tk),Normal out→Normal (g.foldl X4 out) from h f [] trivial
 intro g;induction g with
 | nil=>intro out h;exact h
 | cons x g ih=>intro out h;exact ih _ (Normal.step out x h)
theorem Y4b (f out:List Tk) (h:Normal (out++f)):f.foldl X4 out=out++f:=by
 induction f generalizing out with
 | nil=>simp
 | cons x r ih=>
   have hx:X4 out x=out++[x]:=by
    by_cases hk:x.k=1
    ·have ha:∀ o:List Tk,Normal (o++x::r)→x.t.size≠0∧x.d=0∧∀ p y,o=p++[y]→y.k≠1:=by
      intro o;induction o with
      | nil=>intro h;exact ⟨(h.1 hk).1,(h.1 hk).2.1,fun p y e=>by simp at e⟩
      | cons u o iho=>
        intro h;obtain ⟨a,b,c⟩:=iho h.2;refine ⟨a,b,fun p y e=>?_⟩;cases p with
        | nil=>
          simp at e;obtain ⟨rfl,rfl⟩:=e;intro hu;exact (h.1 hu).2.2 x rfl hk
        | cons q p=>
          simp at e;exact c p y e.2
     obtain ⟨a,b,c⟩:=ha out h;have hb:(⟨1,x.t,0⟩:Tk)=x:=Tk.ext' hk.symm rfl b.symm;rcases bS out with rfl | ⟨o,y,rfl⟩
     ·rw [U2 x hk a,hb];rfl
     ·rw [bN];rw [E8 o y x hk a (c o y (by rw [bN])),hb]
    ·exact D9 out x hk
   rw [bQ,hx,ih _ (by rw [aZ];exact h),aZ];rfl
theorem B9 (f:List Tk) (h:Normal f):Q4 f=f:=by
 have:=Y4b f [] h;simpa [Q4] using this
def Q8 (L:List Int) (N:Nat) (n:Int):Int:=(L.getD N 0) % n
theorem X5 (L:List Int) (N:Nat) (n:Int) (h:1≤n):0≤Q8 L N n∧Q8 L N n < n:=
 ⟨Int.emod_nonneg _ yY,Int.emod_lt_of_pos _ yY⟩
def Q5a:List fY:=[⟨#[114,101,100]⟩,⟨#[99,97,114]⟩,⟨#[82,101,100]⟩,⟨#[97]⟩,⟨#[99,97,114,115]⟩,⟨#[49,44,53]⟩,⟨#[50,50]⟩,⟨#[100,111,110,39,116]⟩,⟨#[46]⟩,⟨#[33]⟩,⟨#[32]⟩,⟨#[32,32]⟩,
 ⟨#[60]⟩,⟨#[38]⟩,⟨#[123]⟩,⟨#[34]⟩,⟨#[92]⟩,⟨#[120,45,121]⟩,⟨#[10]⟩,⟨#[61]⟩,⟨#[125]⟩,⟨#[62]⟩,⟨#[9]⟩,⟨#[98]⟩]
def G5 (L:List Int) (N:Nat):fY:=Q5a.getD (Q8 L N 24).toNat ⟨#[]⟩
theorem Y0e:∀ k,(Q5a.getD k ⟨#[]⟩).size≤5:=by
 intro k;by_cases h:k < Q5a.length
 ·have:∀ x∈Q5a,x.size≤5:=yX;rw [bH,aF h];exact this _ (aL h)
 ·rw [bH,dF yY];decide
def T9 (L:List Int):Nat→fY→Nat→fY×Nat
 | 0,out,N=>(out,N)
 | i+1,out,N=>
   if 0 < out.size then
    if 0 < Q8 L (N+1) 3 then T9 L i (out++⟨#[32]⟩++G5 L N) (N+2) else T9 L i (out++G5 L N) (N+2)
   else T9 L i (out++G5 L N) (N+1)
def J3 (L:List Int) (N:Nat) (n:Int):fY×Nat:=T9 L (Q8 L N (n+1)).toNat ⟨#[]⟩ (N+1)
theorem Q8m (L:List Int):∀ i out N,(T9 L i out N).1.size≤out.size+6 * i∧(T9 L i out N).2≤N+2 * i
 | 0,out,N=>⟨yQ,yQ⟩
 | i+1,out,N=>by
   have hw:(G5 L N).size≤5:=Y0e _;rw [T9];split
   ·split
    ·have h:=Q8m L i (out++⟨#[32]⟩++G5 L N) (N+2);rw [bD,bD] at h;have h1:(ByteArray.mk #[32]).size=1:=rfl;omega
    ·have h:=Q8m L i (out++G5 L N) (N+2);rw [bD] at h;omega
   ·have h:=Q8m L i (out++G5 L N) (N+1);rw [bD] at h;omega
theorem Q4k (L:List Int) (N:Nat) (n:Int) (h:0≤n):(J3 L N n).1.size≤6 * n.toNat∧(J3 L N n).2≤N+1+2 * n.toNat:=by
 have h1:=X5 L N (n+1) yY;have h2:=Q8m L (Q8 L N (n+1)).toNat ⟨#[]⟩ (N+1);have h3:(ByteArray.mk #[]).size=0:=rfl;unfold J3;omega
def Y3i (out:List Tk):Prop:=∀ y,out.getLast? =some y→y.k≠1
theorem Q0t {a:fY} (h:a.size=0):a=⟨#[]⟩:=by
 apply Q0f;rw [aC] at h;exact cC h
theorem X0t (a:fY):a++⟨#[]⟩=a:=by apply Q0f;simp
theorem Q5j (a:fY):(⟨#[]⟩:fY)++a=a:=by apply Q0f;simp
theorem Y0j (a b c:fY):a++b++c=a++(b++c):=by apply Q0f;simp
theorem Q7w (out:List Tk) (t:fY) (d:Int) (h:Y3i out) (h0:t.size≠0):X4 out ⟨1,t,d⟩=out++[⟨1,t,0⟩]:=by
 rcases bS out with rfl | ⟨o,y,rfl⟩
 ·exact U2 ⟨1,t,d⟩ rfl h0
 ·rw [bN] at h ⊢;exact E8 o y ⟨1,t,d⟩ rfl h0 (h y yW)
theorem H5 (out:List Tk) (t:fY) (d:Int) (h0:t.size=0):X4 out ⟨1,t,d⟩=out:=O2 out ⟨1,t,d⟩ rfl h0
theorem X9t (out:List Tk) (a b:fY) (d d' d'':Int):X4 (X4 out ⟨1,a,d⟩) ⟨1,b,d'⟩=X4 out ⟨1,a++b,d''⟩:=by
 by_cases ha:a.size=0
 ·rw [H5 _ _ _ ha,Q0t ha,Q5j];by_cases hb:b.size=0
  ·rw [H5 _ _ _ hb,H5 _ _ _ hb]
  ·rcases bS out with rfl | ⟨o,y,rfl⟩
   ·rw [U2 ⟨1,b,d'⟩ rfl hb,U2 ⟨1,b,d''⟩ rfl hb]
   ·by_cases hy:y.k=1
    ·rw [bN,K5 o y ⟨1,b,d'⟩ rfl hb hy,K5 o y ⟨1,b,d''⟩ rfl hb hy]
    ·rw [bN,E8 o y ⟨1,b,d'⟩ rfl hb hy,E8 o y ⟨1,b,d''⟩ rfl hb hy]
 ·have hc:(a++b).size≠0:=(by rw [bD];omega);have key:∀ o z,X4 (o++[⟨1,z,0⟩]) ⟨1,b,d'⟩=o++[⟨1,z++b,0⟩]:=by
   intro o z;by_cases hb:b.size=0
   ·rw [H5 _ _ _ hb,Q0t hb,X0t]
   ·rw [K5 o ⟨1,z,0⟩ ⟨1,b,d'⟩ rfl hb rfl]
  rcases bS out with rfl | ⟨o,y,rfl⟩
  ·rw [U2 ⟨1,a,d⟩ rfl ha,U2 ⟨1,a++b,d''⟩ rfl hc];exact key [] a
  ·rw [bN];by_cases hy:y.k=1
   ·rw [K5 o y ⟨1,a,d⟩ rfl ha hy,K5 o y ⟨1,a++b,d''⟩ rfl hc hy,key,Y0j]
   ·rw [E8 o y ⟨1,a,d⟩ rfl ha hy,E8 o y ⟨1,a++b,d''⟩ rfl hc hy,key]
theorem V5i {P:Program} {w:World} {α:Type} (t ty e:TypeId) (ht:P.underlying t=some (.slice e)) (z:Value) (f:α→List Value) (size bytes:Nat)
 (hinfo:(P.info? e).map (fun i=>(i.zero,i.size,i.bytes))=some (some z,size,bytes)) (hzs:z.cells.size=size) (hsz:0 < size) (hm:∀ x,(f x).length=size) (h1:∀ x,∀ u∈f x,u.oneCell'=true)
 (base:Nat) (v:Value) (l:List α) (hown:w.ownsRow base e size v l.length (l.flatMap f)) (v2:Value) (l2:List α) (hrd:RdE f size w v2 l2)
 (hbytes:(l.length+l2.length) * bytes≤140737488355328) (hb1:1≤bytes) (hbase:base≤w.heap.size):
 ∃ v' w',(Builtin.append_ #[t,t] ty #[v,v2]).run P w=.ok v' w'∧w'.ownsRow base e size v' (l++l2).length ((l++l2).flatMap f)∧(∀ B W,B≤base→Below B W w→Below B W w')∧w.grownBy w' v.ownBlock∧
  (v'.ownBlock=v.ownBlock∨v'.ownBlock=some w.heap.size):=by
 obtain ⟨i,hi,hz,hd,hl⟩:=fF hinfo;have h2:l.length+l2.length≤140737488355328:=aP (Nat.le_mul_of_pos_right _ hb1) hbytes;obtain ⟨A,c,hw,hc,hn,ha⟩:=hrd;subst hw;rcases A with _ | ad
 ·have ho:=hn rfl;have hv:l2=[]:=cC yY;subst hv ho;exact ⟨v,w,run_append_owned_none (P:=P) (w:=w) base t ty e i size ht hi v l.length _ hown,by simpa using hown,fun _ _ _ hB=>hB,World.grownBy.refl w _,.inl rfl⟩
 ·obtain ⟨v',w',hr,hb,hg,_,hh⟩:=run_append_own_at (P:=P) w base t ty e i z size bytes ht hi hz hd hl hzs hsz v l.length _ hown ad l2.length c (l2.flatMap f) (I0 f size hm l2) (fun j u hj=>by
   have hf:j < l2.length * size:=(by rw [←I0 f size hm l2];exact (aM.1 hj).1);have hs:0 < l2.length:=by
    rcases Nat.eq_zero_or_pos l2.length with h0 | h0
    ·rw [h0] at hf;omega
    ·exact h0
   obtain ⟨b,o',hA,_,hp⟩:=ha hs;injection hA with hA;subst hA;have hq:j / size < l2.length:=Nat.div_lt_of_lt_mul (by rw [Nat.mul_comm];exact hf);have hr:j % size < size:=Nat.mod_lt _ hsz;have hx':l2[j / size]? =some l2[j / size]:=aF hq;have he:j / size * size+j % size=j:=(by rw [Nat.mul_comm];exact Nat.div_add_mod j size);have hg:=Q2t f size hm l2 (j / size) (j % size) _ hx' hr;rw [he,hj] at hg;have:=hp (j / size) _ (j % size) u hx' hg.symm;rw [he] at this;rw [eO];exact this) (fun u hu=>by
   obtain ⟨x,hx,hu⟩:=dA.1 hu;exact h1 x u hu) (by unfold maxLen;omega) hbytes hbase
  refine ⟨v',w',hr,?_,(fun B W hB hW=>hW.grown hg (aP hB hbase) (fun k hk=>aP hB (hown.lt k hk).1)),hg,hh⟩;rw [aA,dE];exact hb
theorem Q9b {P:Program} {o:Oper} {a:Act} {K:Act→World→Prop} {Q:Exit→Act→World→Prop} {w:World} {α:Type} (s x:Operand) (t e:TypeId)
 (ho:o.op=.call { callee:=.builtin .append,args:=#[s,x],argTypes:=#[t,t] })
 (ht:P.underlying t=some (.slice e)) (z:Value) (f:α→List Value) (size bytes:Nat) (hinfo:(P.info? e).map (fun i=>(i.zero,i.size,i.bytes))=some (some z,size,bytes)) (hzs:z.cells.size=size) (hsz:0 < size)
 (hm:∀ x,(f x).length=size) (h1:∀ x,∀ u∈f x,u.oneCell'=true)
 (base:Nat) (v:Value) (l:List α) (hs:a.eval s=v) (hown:w.ownsRow base e size v l.length (l.flatMap f))
 (v2:Value) (l2:List α) (hx:a.eval x=v2) (hrd:RdE f size w v2 l2)
 (hbytes:(l.length+l2.length) * bytes≤140737488355328) (hb1:1≤bytes) (hbase:base≤w.heap.size)
 (h:∀ v' w',w'.ownsRow base e size v' (l++l2).length ((l++l2).flatMap f)→(∀ B W,B≤base→Below B W w→Below B W w')→w.grownBy w' v.ownBlock→(v'.ownBlock=v.ownBlock∨v'.ownBlock=some w.heap.size)→K (a.put o.dst v') w'):o.wp P a w K Q:=by
 obtain ⟨v',w',hr,h2,h3,h4,h5⟩:=V5i (P:=P) t o.type e ht z f size bytes hinfo hzs hsz hm h1 base v l hown v2 l2 hrd hbytes hb1 hbase;unfold Oper.wp execOp;simp only [ho,resolve,invoke,builtin,dU,eW,dN,List.map_toArray,cA,eM,hs,hx,hr];exact h v' w' h2 h3 h4 h5
theorem X3d {P:Program} {ops:Array Oper} {rest:List Oper} {o:Oper} {a:Act} {Q:Exit→Act→World→Prop} {w:World} {α:Type} (hgd:o.guard=none) (s x:Operand) (t e:TypeId)
 (ho:o.op=.call { callee:=.builtin .append,args:=#[s,x],argTypes:=#[t,t] })
 (ht:P.underlying t=some (.slice e)) (z:Value) (f:α→List Value) (size bytes:Nat) (hinfo:(P.info? e).map (fun i=>(i.zero,i.size,i.bytes))=some (some z,size,bytes)) (hzs:z.cells.size=size) (hsz:0 < size)
 (hm:∀ x,(f x).length=size) (h1:∀ x,∀ u∈f x,u.oneCell'=true)
 (base:Nat) (v:Value) (l:List α) (hs:a.eval s=v) (hown:w.ownsRow base e size v l.length (l.flatMap f))
 (v2:Value) (l2:List α) (hx:a.eval x=v2) (hrd:RdE f size w v2 l2)
 (hbytes:(l.length+l2.length) * bytes≤140737488355328) (hb1:1≤bytes) (hbase:base≤w.heap.size)
 (h:∀ v' w',w'.ownsRow base e size v' (l++l2).length ((l++l2).flatMap f)→(∀ B W,B≤base→Below B W w→Below B W w')→w.grownBy w' v.ownBlock→(v'.ownBlock=v.ownBlock∨v'.ownBlock=some w.heap.size)→wpList P ops Q rest (a.put o.dst v') w'):wpList P ops Q (o::rest) a w:=
 wpList_plain hgd fun _ hK=>Q9b s x t e ho ht z f size bytes hinfo hzs hsz hm h1 base v l hs hown v2 l2 hx hrd hbytes hb1 hbase fun v' w' h2 h3 h4 h5=>hK _ _ (h v' w' h2 h3 h4 h5)
theorem H4 {P:Program} {ops:Array Oper} {o:Oper} {a:Act} {K:Act→World→Prop} {Q:Exit→Act→World→Prop} {E:Prop} {w:World} {α:Type} (hgd:o.guard=none) (s x:Operand) (t e:TypeId)
 (ho:o.op=.call { callee:=.builtin .append,args:=#[s,x],argTypes:=#[t,t] })
 (ht:P.underlying t=some (.slice e)) (z:Value) (f:α→List Value) (size bytes:Nat) (hinfo:(P.info? e).map (fun i=>(i.zero,i.size,i.bytes))=some (some z,size,bytes)) (hzs:z.cells.size=size) (hsz:0 < size)
 (hm:∀ x,(f x).length=size) (h1:∀ x,∀ u∈f x,u.oneCell'=true)
 (base:Nat) (v:Value) (l:List α) (hs:a.eval s=v) (hown:w.ownsRow base e size v l.length (l.flatMap f))
 (v2:Value) (l2:List α) (hx:a.eval x=v2) (hrd:RdE f size w v2 l2)
 (hbytes:(l.length+l2.length) * bytes≤140737488355328) (hb1:1≤bytes) (hbase:base≤w.heap.size)
 (h:∀ v' w',w'.ownsRow base e size v' (l++l2).length ((l++l2).flatMap f)→(∀ B W,B≤base→Below B W w→Below B W w')→w.grownBy w' v.ownBlock→(v'.ownBlock=v.ownBlock∨v'.ownBlock=some w.heap.size)→K (a.put o.dst v') w'):
 if Region.wanted o (yielded ops a.tmps)=true then Oper.wp P o a w K Q else E:=by
 have hw:Region.wanted o (yielded ops a.tmps)=true:=(by simp [Region.wanted,hgd]);rw [aK hw];exact Q9b s x t e ho ht z f size bytes hinfo hzs hsz hm h1 base v l hs hown v2 l2 hx hrd hbytes hb1 hbase h
section
variable {α:Type} {e:TypeId} {f:α→List Value} {m:Nat} {w w':World} {B:Nat} {v:Value} {l:List α}
theorem Q7 {size n:Nat} {xs:List Value} (h:w.ownsRow B e size v n xs) (hk:∀ k,v.ownBlock=some k→w'.heap[k]? =w.heap[k]?):w'.ownsRow B e size v n xs:=by
 refine ⟨h.1,?_⟩;rcases h.2 with h0 | ⟨g,cap,cur,hv,hbg,hg,rest⟩
 ·exact .inl h0
 ·refine .inr ⟨g,cap,cur,hv,hbg,?_,rest⟩;rw [hk g (by rw [hv];rfl)];exact hg
theorem RdE.take {A:Option Addr} {n c:Nat} (h:RdE f m w (.slice A n c) l) (k:Nat) (hk:k≤l.length):RdE f m w (.slice A k c) (l.take k):=by
 obtain ⟨A',c',hv,hc,hn,hx⟩:=h;injection hv with h1 h2 h3;subst h1 h2 h3;have ha:(l.take k).length=k:=yV;refine ⟨A,c,by rw [ha],yY,hn,fun h0=>?_⟩;obtain ⟨b,o,hA,hb,hd⟩:=hx yY;refine ⟨b,o,hA,hb,fun i x j u hi hj=>hd i x j u ?_ hj⟩;have he:i < k:=(by rw [←ha];exact (aM.1 hi).1);rw [List.getElem?_take_of_lt he] at hi;exact hi
theorem RdE.drop {b o n c:Nat} (h:RdE f m w (.slice (some ⟨b,o,none⟩) n c) l) (k:Nat) (hk:k≤l.length) (A:Option Addr) (hA:k < l.length→A=some ⟨b,o+k * m,none⟩) (hA2:A≠none):
 RdE f m w (.slice A (n - k) (c - k)) (l.drop k):=by
 obtain ⟨A',c',hv,hc,hn,hx⟩:=h;injection hv with h1 h2 h3;subst h1 h2 h3;refine ⟨A,c - k,by rw [bM],by rw [bM];omega,fun e=>absurd e hA2,fun h0=>?_⟩;rw [bM] at h0;obtain ⟨b',o',ha,hb,hd⟩:=hx yY;injection ha with ha;injection ha with e1 e2 _;subst e1 e2;refine ⟨b,o+k * m,hA yY,hb,fun i x j u hi hj=>?_⟩;rw [List.getElem?_drop] at hi;have:=hd (k+i) x j u hi hj;rw [show o+((k+i) * m+j)=o+k * m+(i * m+j) by rw [Nat.add_mul];omega] at this;exact this
end
open Tryz
theorem X3b:(prog.info? 5).map (fun i=>(i.zero,i.size,i.bytes))=some (some (.int .u8 0),1,1):=by kernel_rfl
theorem L6 (a b:fY):Go.Lib.strCells a++Go.Lib.strCells b=Go.Lib.strCells (a++b):=by
 unfold Go.Lib.strCells;simp
theorem B5 {w:World} {base:Nat} {e:TypeId} {A:Option Addr} {n c:Nat} (s:fY) (src dst:TypeId) (hs:prog.underlying src=some (.slice e)) (he:prog.underlying e=some (.int .u8)) (hd:prog.underlying dst=some .string)
 (h:w.ownsRow base e 1 (.slice A n c) n (Go.Lib.strCells s)) (hn:n=s.size) (h0:0 < n):(convert src dst (.slice A n c)).run prog w=.ok (.string s) w:=by
 obtain ⟨g,c',hv,_⟩:=X8t h h0;injection hv with h1 _ h3;subst h1 h3;have hl:n=s.data.toList.length:=(by rw [hn,aC]);have:=run_convert_bytes_back (P:=prog) w src dst e ⟨g,0,none⟩ c s.data.toList hs he hd (fun j hj=>by
  have hc:=h.cells (g:=g) rfl j (.int .u8 (s.data.toList[j].toNat:Int)) (by
   unfold Go.Lib.strCells;rw [cE,aF hj];rfl)
  exact hc)
 rw [←hl] at this;exact this
def wdI (x:Tk):Nat:=if x.k=1 then x.t.size else 1
def X3:List Tk→Nat
 | []=>0
 | x::f=>wdI x+X3 f
theorem Q1i:∀ (f g:List Tk),X3 (f++g)=X3 f+X3 g
 | [],g=>by simp [X3]
 | x::f,g=>by rw [aR,X3,X3,Q1i f g];omega
theorem R2 (f:List Tk) (k:Nat) (h:k < f.length):X3 (f.take (k+1))=X3 (f.take k)+wdI f[k]:=by
 rw [aH h,Q1i];simp [X3]
theorem Q5q (f:List Tk) (k:Nat):X3 (f.take k)≤X3 f:=by
 have h:=Q1i (f.take k) (f.drop k);rw [bR] at h;omega
def byI (x:Tk):List UInt8:=if x.k=1 then x.t.data.toList else if x.k=5 then [255] else []
def plI (f:List Tk):List UInt8:=f.flatMap byI
def plS (f:List Tk):fY:=⟨(plI f).toArray⟩
theorem X8x (f:List Tk) (k:Nat) (h:k < f.length):plI (f.take (k+1))=plI (f.take k)++byI f[k]:=by
 unfold plI;rw [aH h,dE];simp
theorem Q8p (f g:List Tk):plI (f++g)=plI f++plI g:=by simp [plI]
theorem V7i (x:Tk):(byI x).length≤wdI x:=by
 unfold byI wdI;split
 ·simp
 ·split<;>simp
theorem X2a:∀ f:List Tk,(plI f).length≤X3 f
 | []=>by simp [plI,X3]
 | x::f=>by
   have h:=X2a f;have h2:=V7i x;rw [show x::f=[x]++f from rfl,Q8p,Q1i,aA];have e:plI [x]=byI x:=(by simp [plI]);have e2:X3 [x]=wdI x:=(by simp [X3]);rw [e,e2];omega
theorem Q7j (f:List Tk):(plS f).size=(plI f).length:=by
 show (plI f).toArray.size=_;simp
theorem V4q (f:List Tk) (k:Nat) (h:k < f.length) (hk:f[k].k=1):plS (f.take k)++f[k].t=plS (f.take (k+1)):=by
 apply cB;rw [ByteArray.data_append];show (plI (f.take k)).toArray++f[k].t.data=(plI (f.take (k+1))).toArray;rw [X8x f k h];unfold byI;rw [aK hk];apply Array.ext';simp
theorem V4p (f:List Tk) (k:Nat) (h:k < f.length) (hk:f[k].k=5):plS (f.take k)++⟨#[255]⟩=plS (f.take (k+1)):=by
 apply cB;rw [ByteArray.data_append];show (plI (f.take k)).toArray++#[255]=(plI (f.take (k+1))).toArray;rw [X8x f k h];unfold byI;rw [aE yY,aK hk];apply Array.ext';simp
theorem V4o (f:List Tk) (k:Nat) (h:k < f.length) (h1:f[k].k≠1) (h5:f[k].k≠5):plS (f.take k)=plS (f.take (k+1)):=by
 unfold plS;rw [X8x f k h];unfold byI;rw [aE h1,aE h5,aX]
def pcI (x:Tk) (a p q:Nat):List Tk:=
 if x.k≠1 then (if p≤a∧a < q then [x] else [])
 else if max p a - a < min q (a+x.t.size) - a then [⟨1,x.t.extract (max p a - a) (min q (a+x.t.size) - a),x.d⟩] else []
def slI:List Tk→Nat→Nat→Nat→List Tk
 | [],_,_,_=>[]
 | x::f,a,p,q=>pcI x a p q++slI f (a+wdI x) p q
theorem Z6t (p q:Nat):∀ (f g:List Tk) (a:Nat),slI (f++g) a p q=slI f a p q++slI g (a+X3 f) p q
 | [],g,a=>by simp [slI,X3]
 | x::f,g,a=>by
   rw [aR,slI,slI,Z6t p q f g,X3,aZ,dO]
theorem Z0g (f:List Tk) (p q k:Nat) (h:k < f.length):slI (f.take (k+1)) 0 p q=slI (f.take k) 0 p q++pcI f[k] (X3 (f.take k)) p q:=by
 rw [aH h,Z6t,bI];congr 1;simp [slI]
theorem Z5z (x:Tk) (a p q:Nat):(pcI x a p q).length≤1:=by
 unfold pcI;split
 ·split<;>simp
 ·split<;>simp
theorem X6m:∀ (f:List Tk) (a p q:Nat),(slI f a p q).length≤f.length
 | [],_,_,_=>yQ
 | x::f,a,p,q=>by
   rw [slI,aA,aG];have h1:=Z5z x a p q;have h2:=X6m f (a+wdI x) p q;omega
def psI (x:Tk):List (Bool×Bool):=if x.k=1 then List.replicate x.t.size (true,false) else if x.k=5 then [(true,false)] else if x.k=3 then [(false,true)] else [(false,false)]
def O9 (f:List Tk):List (Bool×Bool):=f.flatMap psI
def clP:List (Bool×Bool)→Nat
 | []=>0
 | x::ps=>if x.2=true then clP ps+1 else 0
def K8:List (Bool×Bool)→Nat→Nat
 | ps,0=>clP ps
 | [],_+1=>0
 | x::ps,o+1=>K8 ps (if x.1=true then o else o+1)+1
def X8y (f:List Tk) (o:Int):Int:=if o < 0∨((plI f).length:Int) < o then -1 else (K8 (O9 f) o.toNat:Nat)
theorem M2 (f g:List Tk):O9 (f++g)=O9 f++O9 g:=by simp [O9]
theorem C5 (x:Tk):O9 [x]=psI x:=by simp [O9]
theorem Z6d (x:Tk):(psI x).length=wdI x:=by
 unfold psI wdI;split
 ·simp
 ·split
  ·rfl
  ·split<;>rfl
theorem Q1l:∀ f:List Tk,(O9 f).length=X3 f
 | []=>rfl
 | x::f=>by
   rw [show x::f=[x]++f from rfl,M2,C5,aA,Z6d,Q1l f,Q1i];simp [X3]
theorem V4s (a b:fY) (k1 k2 d:Int) (h1:k1=1) (h2:k2=1) (d1 d2:Int):psI ⟨1,a++b,d⟩=psI ⟨k1,a,d1⟩++psI ⟨k2,b,d2⟩:=by
 unfold psI;subst h1 h2;simp only [if_true];rw [bD,List.replicate_append_replicate]
theorem Z9m (out:List Tk) (x:Tk):O9 (X4 out x)=O9 out++psI x:=by
 by_cases h:x.k=1
 ·by_cases h2:x.t.size=0
  ·rw [O2 out x h h2];have:psI x=[]:=(by unfold psI;rw [aK h,h2];rfl);rw [this,aX]
  ·have hx:psI ⟨1,x.t,0⟩=psI x:=(by unfold psI;rw [aK rfl,aK h]);rcases bS out with rfl | ⟨l,y,rfl⟩
   ·rw [U2 x h h2,C5,hx];rfl
   ·rw [bN];by_cases hy:y.k=1
    ·rw [K5 l y x h h2 hy,M2,M2,C5,C5,V4s y.t x.t y.k x.k 0 hy h y.d x.d,aZ]
    ·rw [E8 l y x h h2 hy,M2,C5,hx]
 ·rw [D9 out x h,M2,C5]
theorem Y2k:∀ (f out:List Tk),O9 (f.foldl X4 out)=O9 out++O9 f
 | [],out=>by simp [O9]
 | x::f,out=>by
   rw [bQ,Y2k f,Z9m,show x::f=[x]++f from rfl,M2 [x] f,C5,aZ]
theorem Q8r (f:List Tk):O9 (Q4 f)=O9 f:=by
 unfold Q4;rw [Y2k];rfl
def Q5g (ps:List (Bool×Bool)):Nat:=(ps.filter (·.1)).length
theorem Y6r (a b:List (Bool×Bool)):Q5g (a++b)=Q5g a+Q5g b:=by simp [Q5g]
theorem Y1n (x:Tk):Q5g (psI x)=(byI x).length:=by
 unfold Q5g psI byI;split
 ·rw [List.filter_eq_self.2 (by intro y hy;rw [List.eq_of_mem_replicate hy])];simp
 ·split
  ·rfl
  ·split<;>rfl
theorem X7d:∀ f:List Tk,Q5g (O9 f)=(plI f).length
 | []=>rfl
 | x::f=>by
   rw [show x::f=[x]++f from rfl,M2,C5,Y6r,Y1n,X7d f,Q8p,aA];congr 1;simp [plI]
def b2n (p:Nat→Bool) (i:Nat):Nat:=if p i=true then 1 else 0
theorem L8 (p:Nat→Bool) (i:Nat):b2n p i≤1:=by unfold b2n;split<;>omega
def N8 (p:Nat→Bool) (k:Nat):Nat:=b2n p (8 * k)+2 * b2n p (8 * k+1)+4 * b2n p (8 * k+2)+8 * b2n p (8 * k+3)+16 * b2n p (8 * k+4)+32 * b2n p (8 * k+5)+64 * b2n p (8 * k+6)+128 * b2n p (8 * k+7)
theorem Y1e (p:Nat→Bool) (k:Nat):N8 p k < 256:=by
 have h0:=L8 p (8 * k);have h1:=L8 p (8 * k+1);have h2:=L8 p (8 * k+2);have h3:=L8 p (8 * k+3);have h4:=L8 p (8 * k+4);have h5:=L8 p (8 * k+5);have h6:=L8 p (8 * k+6);have h7:=L8 p (8 * k+7);unfold N8;omega
theorem Z1c (p:Nat→Bool) (k j:Nat) (hj:j < 8):N8 p k / 2 ^ j % 2=b2n p (8 * k+j):=by
 have h0:=L8 p (8 * k);have h1:=L8 p (8 * k+1);have h2:=L8 p (8 * k+2);have h3:=L8 p (8 * k+3);have h4:=L8 p (8 * k+4);have h5:=L8 p (8 * k+5);have h6:=L8 p (8 * k+6);have h7:=L8 p (8 * k+7);unfold N8;rcases (show j=0∨j=1∨j=2∨j=3∨j=4∨j=5∨j=6∨j=7 by omega) with rfl | rfl | rfl | rfl | rfl | rfl | rfl | rfl
 all_goals simp only [cV,show (2:Nat) ^ 0=1 from rfl,show (2:Nat) ^ 1=2 from rfl,show (2:Nat) ^ 2=4 from rfl,show (2:Nat) ^ 3=8 from rfl,show (2:Nat) ^ 4=16 from rfl,show (2:Nat) ^ 5=32 from rfl,show (2:Nat) ^ 6=64 from rfl,show (2:Nat) ^ 7=128 from rfl]
 all_goals omega
/-! ### What the machine's operations do to bits: all bytes tried -/
theorem V6u:∀ v:Fin 256,∀ j:Fin 8,(bits BinOp.and IntKind.u8 (((v.val:Nat):Int) / 2 ^ j.val) 1==1)=(v.val / 2 ^ j.val % 2==1):=by decide+kernel
theorem V5z (p:Nat→Bool) (b:Nat):(bits BinOp.and IntKind.u8 ((N8 p (b / 8):Nat) / 2 ^ (b % 8)) 1==1)=p b:=by
 have h:=V6u ⟨N8 p (b / 8),Y1e _ _⟩ ⟨b % 8,Nat.mod_lt _ yX⟩;simp only at h;rw [h,Z1c p (b / 8) (b % 8) (Nat.mod_lt _ yX),show 8 * (b / 8)+b % 8=b by omega];unfold b2n;cases p b<;>rfl
def V6s (p:Nat→Bool) (b:Nat):Nat→Bool:=fun n=>n==b || p n
def X9n (p:Nat→Bool):List Value:=(List.range 32).map fun k=>.int .u8 (N8 p k:Nat)
theorem N3 (p:Nat→Bool):(X9n p).length=32:=by simp [X9n]
theorem X2o (p:Nat→Bool) (k:Nat) (h:k < 32):(X9n p)[k]? =some (.int .u8 (N8 p k:Nat)):=by simp [X9n,h]
theorem V5m (p q:Nat→Bool) (k:Nat) (hk:k < 32) (h:∀ i,i < 32→i≠k→N8 q i=N8 p i):(X9n p).toArray.setIfInBounds k (.int .u8 (N8 q k:Nat))=(X9n q).toArray:=by
 rw [fW];congr 1;refine List.ext_getElem? fun i=>?_;by_cases hi:i < 32
 ·by_cases hik:i=k
  ·subst hik;rw [List.getElem?_set_self (by rw [N3];exact hk),X2o q i hi]
  ·rw [List.getElem?_set_ne (fun e=>hik e.symm),X2o p i hi,X2o q i hi,h i hi hik]
 ·rw [dF (by rw [List.length_set,N3];omega),dF (by rw [N3];omega)]
def noP:Nat→Bool:=fun _=>false
structure At where
 p:Nat→Bool
 mn:Int
 many:Bool
def atC (x:At):List Value:=X9n x.p++[.int .i64 x.mn,.bool x.many]
theorem G2 (x:At):(atC x).length=34:=by simp [atC,N3]
theorem V6x (x:At) (k:Nat) (h:k < 32):(atC x)[k]? =some (.int .u8 (N8 x.p k:Nat)):=by
 unfold atC;rw [dJ (by rw [N3];exact h),X2o x.p k h]
theorem U0u (x:At):(atC x)[32]? =some (.int .i64 x.mn):=by
 unfold atC;rw [bF (by rw [N3];omega),N3];rfl
theorem V1f (x:At):(atC x)[33]? =some (.bool x.many):=by
 unfold atC;rw [bF (by rw [N3];omega),N3];rfl
theorem V6y (w:World) (x:At) (t:TypeId) (k:Nat) (v:Value) (h:(atC x)[k]? =some v):(w.alloc (.cells (atC x).toArray t)).cell? ⟨w.heap.size,k,none⟩=some v:=by
 rw [bV _ _ _ (atC x).toArray t _ (aT w _)];simpa using h
theorem Y3o (x:At) (b:Nat) (w:World) (hb:b < 256):
 Calls prog 152 #[.agg (atC x).toArray,.int .u8 b] w fun e w'=>e=.returned (.bool (x.p b))∧Below w.heap.size w w':=by
 have q:=V6y w x 107 (b / 8) _ (V6x x (b / 8) yY);have H:=zW (V5z x.p b);have hv:=Y1e x.p (b / 8);generalize N8 x.p (b / 8)=v at q H hv;generalize (atC x).toArray=cs at q ⊢;go_enter func152,ntmps152
 go_wp2_with fail
 go_ret
 exact ⟨K0 H.o,(aB w.heap.size w).alloc yQ _⟩
theorem V5l (p:Nat→Bool):(X9n p).toArray.all (·.oneCell')=true:=by
 rw [dS];intro v hv;simp [X9n] at hv;obtain ⟨k,_,rfl⟩:=hv;rfl
theorem X8s (n:Int) (w:World) (h0:0≤n) (h1:n < 256):
 Calls prog 97 #[.int .u8 n] w fun e w'=>e=.returned (.int .i64 (Q6i n))∧w=w':=by
 go_enter func97,ntmps97
 go_wp2
 all_goals (go_ret;refine ⟨X2l ?_,rfl⟩)
 all_goals (try simp only [cM,aI] at *)
 all_goals (unfold Q6i;repeat (first | rw [aK yY] | rw [aE yY]))
def bt (s:fY) (i:Nat):Nat:=(s.data.toList.getD i 0).toNat
theorem X6y (s:fY) (i:Nat) (h:i < s.size):bt s i=s[i].toNat:=by
 unfold bt;have hl:i < s.data.toList.length:=(by rw [←aC];exact h);rw [bH,aF hl];rfl
theorem Z8f (s:fY) (b:Nat) (w:World):
 Calls prog 126 #[.string s,.int .u8 b] w fun e w'=>e=.returned (.int .i64 (Lib.indexByte s.data.toList (b:Int).toNat.toUInt8))∧w=w':=by
 have C:∀ w,Calls prog 166 #[.string s,.int .u8 b] w fun e w'=>e=.returned (.int .i64 (Lib.indexByte s.data.toList (b:Int).toNat.toUInt8))∧w=w':=fun w=>by
  go_enter func166,ntmps166
  go_wp2
  rw [run_callFunc_extern func191 yZ yZ yZ (e:=Extern.BytealgIndexByte.indexByte) yZ,Lib.run_indexByteString];simp only [Result.andThen];rw [Oper.upon_value];go_wp2
  go_ret
  exact ⟨rfl,rfl⟩
 have HC:=zW C;clear C;go_enter func126,ntmps126
 go_wp2_with (go_at_call 166;refine (HC.o _).mono ?_;rintro e w' ⟨rfl,rfl⟩)
 go_ret
 exact ⟨rfl,rfl⟩
theorem Q3p {fn:Func} {p u v:Tmp} {ty:TypeId} (h:fn.results=#[.cell p ty,.tmp u,.tmp v]) (tmps:Array Value) (P:Program) (w:World):
 (results fn tmps).run P w=
   ((asAddr (tmps.getD p undef)).run P w).andThen fun a w₁=>((loadVar ty a).run P w₁).andThen fun x w₂=>.ok (.tuple #[x,tmps.getD u undef,tmps.getD v undef]) w₂:=by
 simp only [results,h];simp [dU,Result.andThen]
def nxF (x:At) (s:fY) (f:Nat→Bool):Nat→Bool
 | 0=>false
 | i+1=>(f i || (x.many && nxF x s f i)) && x.p (bt s i)
def Q0z (x:At) (s:fY) (f:Nat→Bool) (i:Nat):Bool:=nxF x s f i || (decide (x.mn < 1) && f i)
theorem Y5y (x:At) (s:fY) (f:Nat→Bool):Q0z x s f 0=(decide (x.mn < 1) && f 0):=by
 unfold Q0z nxF;rw [Bool.false_or]
theorem Z4d (x:At) (s:fY) (f:Nat→Bool) (k:Nat):Q0z x s f (k+1)=((decide (x.mn < 1) && f (k+1)) || (x.p (bt s k) && (f k || (x.many && Q0z x s f k)))):=by
 unfold Q0z;rw [show nxF x s f (k+1)=((f k || (x.many && nxF x s f k)) && x.p (bt s k)) from rfl];cases f k<;>cases x.many<;>cases nxF x s f k<;>cases decide (x.mn < 1)<;>cases f (k+1)<;>cases x.p (bt s k)<;>rfl
def N2 (s:fY):List At→(Nat→Bool)→Nat→Bool
 | [],f=>f
 | x::p,f=>N2 s p (Q0z x s f)
def Z3k:Nat→Bool:=fun i=>i==0
def Q6m:Nat→Bool:=fun _=>true
def Y8a (f:Nat→Bool):Nat→Int
 | 0=>-1
 | n+1=>if f n=true then (n:Int) else Y8a f n
def Y8e (p:List At) (s:fY):Int:=Y8a (N2 s p Z3k) (s.size+1)
def Q3o (p:List At) (s:fY):Bool:=decide (0≤Y8e p s)
def Q0x (p:List At) (s:fY):Bool:=N2 s p Q6m s.size
def inA (x:At) (u:List Nat):Prop:=(u=[]∧x.mn < 1)∨(u≠[]∧(∀ b∈u,x.p b=true)∧(u.length=1∨x.many=true))
def X3f:List At→List Nat→Prop
 | [],u=>u=[]
 | x::p,u=>∃ a b,u=a++b∧inA x a∧X3f p b
theorem Q7b:∀ (p q:List At) (u:List Nat),X3f (p++q) u↔∃ a b,u=a++b∧X3f p a∧X3f q b
 | [], q, u => ⟨fun h => ⟨[], u, rfl, rfl, h⟩, fun ⟨a, b, h1, h2, h3⟩ => by
    have h2':a=[]:=h2;subst h2';rw [h1];exact h3⟩
 | x :: p, q, u => ⟨fun ⟨a, b, h1, h2, h3⟩ => by
    obtain ⟨c,d,h4,h5,h6⟩:=(Q7b p q b).1 h3;exact ⟨a++c,d,by rw [h1,h4,aZ],⟨a,c,rfl,h2,h5⟩,h6⟩,fun ⟨a,b,h1,⟨c,d,h4,h5,h6⟩,h3⟩=>
    ⟨c,d++b,by rw [h1,h4,aZ],h5,(Q7b p q (d++b)).2 ⟨d,b,rfl,h6,h3⟩⟩⟩
theorem V3p (x:At) (u:List Nat):X3f [x] u↔inA x u:=
 ⟨fun ⟨a,b,h1,h2,h3⟩=>by
   have h3':b=[]:=h3;subst h3';rw [h1,aX];exact h2,fun h=>⟨u,[],by rw [aX],h,rfl⟩⟩
theorem V8f (x:At) (u:List Nat):inA x u.reverse↔inA x u:=by
 unfold inA;rw [cT];have e:u.reverse=[]↔u=[]:=List.reverse_eq_nil_iff;constructor
 ·rintro (h | ⟨h1,h2,h3⟩)
  ·exact .inl ⟨e.1 h.1,h.2⟩
  ·exact .inr ⟨fun h=>h1 (e.2 h),fun b hb=>h2 b (List.mem_reverse.2 hb),h3⟩
 ·rintro (h | ⟨h1,h2,h3⟩)
  ·exact .inl ⟨e.2 h.1,h.2⟩
  ·exact .inr ⟨fun h=>h1 (e.1 h),fun b hb=>h2 b (List.mem_reverse.1 hb),h3⟩
theorem Q5p:∀ (p:List At) (u:List Nat),X3f p u→X3f p.reverse u.reverse
 | [],u,h=>by
   have h':u=[]:=h;subst h';rfl
 | x::p,u,⟨a,b,h1,h2,h3⟩=>by
   rw [fA,h1,List.reverse_append];exact (Q7b _ _ _).2 ⟨_,_,rfl,Q5p p b h3,(V3p x _).2 ((V8f x a).2 h2)⟩
theorem Y7y (p:List At) (u:List Nat):X3f p.reverse u.reverse↔X3f p u:=
 ⟨fun h=>by
   have:=Q5p _ _ h;rwa [List.reverse_reverse,List.reverse_reverse] at this,Q5p p u⟩
/-! ### Places -/
def seg (s:fY) (i n:Nat):List Nat:=((List.range n).drop i).map (bt s)
theorem M3 (s:fY) (i:Nat):seg s i i=[]:=by unfold seg;rw [dI yW];rfl
theorem Q1z (s:fY) (i n:Nat):(seg s i n).length=n - i:=by unfold seg;simp
theorem Q1p (s:fY) (i n:Nat) (h:i≤n):seg s i (n+1)=seg s i n++[bt s n]:=by
 unfold seg;rw [List.range_succ,List.drop_append_of_le_length (by simpa using h),cP];rfl
theorem Y2u (s:fY) (i j n:Nat) (h1:i≤j) (h2:j≤n):seg s i n=seg s i j++seg s j n:=by
 induction n with
 | zero=>
   obtain rfl:j=0:=yY;obtain rfl:i=0:=yY;rw [M3];rfl
 | succ n ih=>
   by_cases hj:j=n+1
   ·subst hj;rw [M3,aX]
   ·rw [Q1p s i n yY,Q1p s j n yY,ih yY,aZ]
theorem Z5x (x:At) (s:fY) (f:Nat→Bool):∀ n,nxF x s f n=true↔∃ i,i < n∧f i=true∧(∀ b∈seg s i n,x.p b=true)∧(n - i=1∨x.many=true)
 | 0=>⟨fun h=>absurd h eK,fun ⟨i,h,_⟩=>absurd h (Nat.not_lt_zero i)⟩
 | n+1=>by
   rw [show nxF x s f (n+1)=((f n || (x.many && nxF x s f n)) && x.p (bt s n)) from rfl,dC,fL,dC,Z5x x s f n];constructor
   ·rintro ⟨h | ⟨hm,i,h1,h2,h3,h4⟩,hp⟩
    ·refine ⟨n,yY,h,fun b hb=>?_,.inl yY⟩;rw [Q1p s n n yQ,M3] at hb;simp at hb;rw [hb];exact hp
    ·refine ⟨i,yY,h2,fun b hb=>?_,.inr hm⟩;rw [Q1p s i n yY] at hb;rcases aS.1 hb with hb | hb
     ·exact h3 b hb
     ·simp at hb;rw [hb];exact hp
   ·rintro ⟨i,h1,h2,h3,h4⟩;have hp:x.p (bt s n)=true:=h3 _ (by rw [Q1p s i n yY];exact List.mem_append_right _ yW);refine ⟨?_,hp⟩;by_cases hi:i=n
    ·subst hi;exact .inl h2
    ·have hm:x.many=true:=by
      rcases h4 with h4 | h4
      ·omega
      ·exact h4
     exact .inr ⟨hm,i,yY,h2,fun b hb=>h3 b (by rw [Q1p s i n yY];exact List.mem_append_left _ hb),.inr hm⟩
theorem Y5x (x:At) (s:fY) (f:Nat→Bool) (n:Nat):Q0z x s f n=true↔∃ i,i≤n∧f i=true∧inA x (seg s i n):=by
 unfold Q0z;rw [fL,dC,decide_eq_true_iff,Z5x x s f n];constructor
 ·rintro (⟨i,h1,h2,h3,h4⟩ | ⟨h1,h2⟩)
  ·refine ⟨i,yY,h2,.inr ⟨?_,h3,?_⟩⟩
   ·intro e;have:=Q1z s i n;rw [e] at this;simp at this;omega
   ·rw [Q1z];exact h4
  ·exact ⟨n,yQ,h2,.inl ⟨M3 s n,h1⟩⟩
 ·rintro ⟨i,h1,h2,h3 | ⟨h3,h4,h5⟩⟩
  ·have hi:i=n:=by
    have:=Q1z s i n;rw [h3.1] at this;simp at this;omega
   subst hi;exact .inr ⟨h3.2,h2⟩
  ·rw [Q1z] at h5;refine .inl ⟨i,?_,h2,h4,h5⟩;refine Nat.lt_of_le_of_ne h1 fun e=>h3 ?_;subst e;exact M3 s i
theorem V9s (s:fY) (i n:Nat) (hin:i≤n) (a b:List Nat) (h:seg s i n=a++b):∃ j,i≤j∧j≤n∧seg s i j=a∧seg s j n=b:=by
 have hl:a.length+b.length=n - i:=(by rw [←aA,←h,Q1z]);refine ⟨i+a.length,yY,yY,?_⟩;have h2:=Y2u s i (i+a.length) n yY yY;rw [h] at h2;have h3:a.length=(seg s i (i+a.length)).length:=(by rw [Q1z];omega);obtain ⟨e1,e2⟩:=List.append_inj h2 h3;exact ⟨e1.symm,e2.symm⟩
theorem Q3b (s:fY):∀ (p:List At) (f:Nat→Bool) (n:Nat),N2 s p f n=true↔∃ i,i≤n∧f i=true∧X3f p (seg s i n)
 | [], f, n => ⟨fun h => ⟨n, yQ, h, M3 s n⟩, fun ⟨i, h1, h2, h3⟩ => by
    have h3':seg s i n=[]:=h3;have:i=n:=by
     have:=Q1z s i n;rw [h3'] at this;simp at this;omega
    subst this;exact h2⟩
 | x::p,f,n=>by
   rw [show N2 s (x::p) f n=N2 s p (Q0z x s f) n from rfl,Q3b s p];constructor
   ·rintro ⟨j,h1,h2,h3⟩;obtain ⟨i,h4,h5,h6⟩:=(Y5x x s f j).1 h2;exact ⟨i,yY,h5,_,_,Y2u s i j n h4 h1,h6,h3⟩
   ·rintro ⟨i,h1,h2,a,b,h3,h4,h5⟩;obtain ⟨j,h6,h7,h8,h9⟩:=V9s s i n h1 a b h3;exact ⟨j,h7,(Y5x x s f j).2 ⟨i,h6,h2,by rw [h8];exact h4⟩,by rw [h9];exact h5⟩
theorem Z0l (p:List At) (s:fY):Q0x p s=true↔∃ i,i≤s.size∧X3f p (seg s i s.size):=by
 unfold Q0x;rw [Q3b];exact ⟨fun ⟨i,h1,_,h3⟩=>⟨i,h1,h3⟩,fun ⟨i,h1,h3⟩=>⟨i,h1,rfl,h3⟩⟩
theorem X9s (p:List At) (s:fY) (n:Nat):N2 s p Z3k n=true↔X3f p (seg s 0 n):=by
 rw [Q3b];constructor
 ·rintro ⟨i,_,h2,h3⟩;have:i=0:=(by unfold Z3k at h2;simpa using h2);subst this;exact h3
 ·exact fun h=>⟨0,aO _,rfl,h⟩
theorem X5e (f:Nat→Bool):∀ n,0≤Y8a f n↔∃ i,i < n∧f i=true
 | 0=>⟨fun h=>absurd h (by unfold Y8a;decide),fun ⟨i,h,_⟩=>absurd h (Nat.not_lt_zero i)⟩
 | n+1=>by
   unfold Y8a;by_cases h:f n=true
   ·rw [aK h];exact ⟨fun _=>⟨n,yY,h⟩,fun _=>yY⟩
   ·rw [aE h,X5e f n];exact ⟨fun ⟨i,h1,h2⟩=>⟨i,yY,h2⟩,fun ⟨i,h1,h2⟩=>⟨i,by
     refine Nat.lt_of_le_of_ne yY fun e=>h ?_;rw [←e];exact h2,h2⟩⟩
theorem Y8x (p:List At) (s:fY):Q3o p s=true↔∃ n,n≤s.size∧X3f p (seg s 0 n):=by
 unfold Q3o Y8e;rw [decide_eq_true_iff,X5e];exact ⟨fun ⟨i,h1,h2⟩=>⟨i,yY,(X9s p s i).1 h2⟩,fun ⟨i,h1,h2⟩=>⟨i,yY,(X9s p s i).2 h2⟩⟩
theorem Y9z {s t:fY} {i n d:Nat} (h:∀ k,i≤k→k < n→bt s k=bt t (k+d)) (hin:i≤n):seg s i n=seg t (i+d) (n+d):=by
 induction n with
 | zero=>
   obtain rfl:i=0:=yY;rw [bI,M3,M3]
 | succ n ih=>
   by_cases hi:i=n+1
   ·subst hi;rw [M3,M3]
   ·rw [Q1p s i n yY,show n+1+d=(n+d)+1 by omega,Q1p t (i+d) (n+d) yY,ih (fun k h1 h2=>h k h1 yY) yY,h n yY yY]
theorem X6x (s:fY) (a b k:Nat) (hk:a+k < b) (hb:b≤s.size):bt (s.extract a b) k=bt s (a+k):=by
 have h1:k < (s.extract a b).size:=(by rw [cJ];omega);rw [X6y _ _ h1,X6y s (a+k) yY];rw [ByteArray.getElem_extract h1]
/-! ### What the statements reckon -/
theorem Z6n {s t:fY} (hst:t.size=s.size) (h:∀ k,k < s.size→bt t k=bt s (s.size - 1 - k)):∀ i n,i≤n→n≤s.size→seg t (s.size - n) (s.size - i)=(seg s i n).reverse:=by
 intro i n hin hn;refine List.ext_getElem? fun k=>?_;by_cases hk:k < n - i
 ·unfold seg;rw [List.getElem?_reverse yV];simp only [cE,List.getElem?_drop,bA,bM,List.length_range];rw [List.getElem?_range yY,List.getElem?_range yY];simp only [Option.map_some];rw [h _ yY];congr 2;omega
 ·rw [dF (by rw [Q1z];omega),dF (by rw [cT,Q1z];omega)]
end Go.Proofs.YtfkojnofbpdjdaaGreatDoor
namespace Go.Proofs.YtfkojnofbpdjdaaGreatDoor
open Go.Lib
theorem Q2u (c:UInt8):∀ l:List UInt8,(∀ b∈l,b≠c)→index l [c]=-1
 | [],_=>rfl
 | b::l,h=>by
   have hb:b≠c:=h b yW;have ih:=Q2u c l (fun x hx=>h x (by simp [hx]));unfold index;simp [List.isPrefixOf,hb.symm,ih]
theorem Q3t (c:UInt8):∀ p l:List UInt8,(∀ b∈p,b≠c)→index (p++c::l) [c]=p.length
 | [],l,_=>by
   unfold index;simp [List.isPrefixOf]
 | b::p,l,h=>by
   have hb:b≠c:=h b yW;have ih:=Q3t c p l (fun x hx=>h x (by simp [hx]));rw [aR];unfold index;simp [List.isPrefixOf,hb.symm,ih]
theorem Z2g (c:UInt8):∀ l:List UInt8,(∀ b∈l,b≠c)∨∃ p r,l=p++c::r∧∀ b∈p,b≠c
 | []=>.inl yW
 | b::l=>by
   by_cases hb:b=c
   ·exact .inr ⟨[],l,by rw [hb];rfl,by simp⟩
   ·rcases Z2g c l with h | ⟨p,r,rfl,h⟩
    ·refine .inl fun x hx=>?_;rcases aU.1 hx with rfl | hx
     ·exact hb
     ·exact h x hx
    ·refine .inr ⟨b::p,r,rfl,fun x hx=>?_⟩;rcases aU.1 hx with rfl | hx
     ·exact hb
     ·exact h x hx
end Go.Proofs.YtfkojnofbpdjdaaGreatDoor
namespace Go.Proofs.YtfkojnofbpdjdaaGreatDoor
open Go.RowKit
structure Ru where
 br:Bool
 bf:List At
 af:List At
def ofL (l:List UInt8):fY:=⟨l.toArray⟩
theorem M1 (l:List UInt8):(ofL l).data.toList=l:=by simp [ofL]
theorem X0a (s:fY):ofL s.data.toList=s:=by cases s;simp [ofL]
def U6:List Ru→fY→Nat→Bool
 | [],_,_=>false
 | r::rs,s,k=>if (Q0x r.bf (s.extract 0 k) && Q3o r.af (s.extract k s.size))=true then r.br else U6 rs s k
def S5 (rs:List Ru) (s:fY):List Int:=if 1024 < s.size then [] else ((List.range s.size).filter fun k=>decide (0 < k) && U6 rs s k).map fun (k:Nat)=>(k:Int)
theorem Q1x (s:fY) (a b:Nat) (hab:a≤b) (hb:b≤s.size):(s.extract a b).size=b - a:=by
 rw [cJ];omega
theorem V2i (p:List At) (s:fY) (i:Nat) (h:i≤s.size):N2 s p Q6m i=Q0x p (s.extract 0 i):=by
 have hz:=Q1x s 0 i (aO _) h;rw [dH] at hz;rw [Bool.eq_iff_iff,Q3b,Z0l,hz];have e:∀ j,j≤i→seg (s.extract 0 i) j i=seg s j i:=fun j hj=>by
  have:=Y9z (s:=s.extract 0 i) (t:=s) (i:=j) (n:=i) (d:=0) (fun k h1 h2=>by rw [X6x s 0 i k yY h,bI,cV]) hj;simpa using this
 constructor
 ·rintro ⟨j,hj,_,hl⟩;exact ⟨j,hj,by rw [e j hj];exact hl⟩
 ·rintro ⟨j,hj,hl⟩;exact ⟨j,hj,rfl,by rw [←e j hj];exact hl⟩
theorem V2h (p:List At) {s t:fY} (hst:t.size=s.size) (h:∀ k,k < s.size→bt t k=bt s (s.size - 1 - k)) (k:Nat) (hk:k≤s.size):N2 t p.reverse Q6m (s.size - k)=Q3o p (s.extract k s.size):=by
 have hz:=Q1x s k s.size hk yQ;rw [Bool.eq_iff_iff,Q3b,Y8x,hz];have e:∀ n,n≤s.size - k→seg (s.extract k s.size) 0 n=seg s k (k+n):=fun n hn=>by
  have:=Y9z (s:=s.extract k s.size) (t:=s) (i:=0) (n:=n) (d:=k) (fun j _ h2=>by rw [X6x s k s.size j yY yQ,Nat.add_comm]) (aO _);rw [this,bI,Nat.add_comm n k]
 constructor
 ·rintro ⟨j,hj,_,hl⟩;refine ⟨s.size - k - j,yY,?_⟩;rw [e _ yY,show k+(s.size - k - j)=s.size - j by omega,←Y7y,←Z6n hst h k (s.size - j) yY yY,show s.size - (s.size - j)=j by omega];exact hl
 ·rintro ⟨n,hn,hl⟩;refine ⟨s.size - k - n,yY,rfl,?_⟩;have:=Z6n hst h k (k+n) yY yY;rw [show s.size - (k+n)=s.size - k - n by omega] at this;rw [this,Y7y,←e n hn];exact hl
def Q9p (r:Ru) (s:fY) (k:Nat):Bool:=Q0x r.bf (s.extract 0 k) && Q3o r.af (s.extract k s.size)
def F7 (rs:List Ru) (s:fY) (k:Nat):Bool:=rs.any fun r=>Q9p r s k
theorem Q3k (r:Ru) (rs:List Ru) (s:fY) (k:Nat):U6 (r::rs) s k=if Q9p r s k=true then r.br else U6 rs s k:=rfl
theorem X5b:∀ (rs:List Ru) (s:fY) (k:Nat),F7 rs s k=false→U6 rs s k=false
 | [],_,_,_=>rfl
 | r::rs,s,k,h=>by
   unfold F7 at h;rw [List.any_cons,Bool.or_eq_false_iff] at h;rw [Q3k,aE (by rw [h.1];exact eK)];exact X5b rs s k h.2
theorem Q9k:∀ (rs qs:List Ru) (s:fY) (k:Nat),U6 (rs++qs) s k=if F7 rs s k=true then U6 rs s k else U6 qs s k
 | [],qs,s,k=>rfl
 | r::rs,qs,s,k=>by
   rw [aR,Q3k,Q3k];have e:F7 (r::rs) s k=(Q9p r s k || F7 rs s k):=rfl;by_cases h:Q9p r s k=true
   ·rw [aK h,aK h,aK (by rw [e,h];rfl)]
   ·rw [aE h,aE h,Q9k rs qs s k,e,Bool.not_eq_true] at *;rw [h,Bool.false_or]
theorem Y6w (rs:List Ru) (r:Ru) (s:fY) (k:Nat):U6 (rs++[r]) s k=if F7 rs s k=true then U6 rs s k else (Q9p r s k && r.br):=by
 rw [Q9k];congr 1;rw [Q3k];cases Q9p r s k<;>rfl
theorem Z1o (rs:List Ru) (r:Ru) (s:fY) (k:Nat):F7 (rs++[r]) s k=(F7 rs s k || Q9p r s k):=by
 unfold F7;rw [List.any_append];simp
def Q9n (f:Nat→Bool) (k:Nat):List Int:=((List.range k).filter f).map fun (n:Nat)=>(n:Int)
theorem Q6d (f:Nat→Bool) (k:Nat):Q9n f (k+1)=Q9n f k++if f k=true then [(k:Int)] else []:=by
 unfold Q9n;rw [List.range_succ,List.filter_append,cP];congr 1;by_cases h:f k=true
 ·rw [aK h,List.filter_cons_of_pos h];rfl
 ·rw [aE h,List.filter_cons_of_neg h];rfl
theorem X5q {f g:Nat→Bool}:∀ {k:Nat},(∀ i,i < k→f i=g i)→Q9n f k=Q9n g k
 | 0,_=>rfl
 | k+1,h=>by rw [Q6d,Q6d,X5q (fun i hi=>h i yY),h k yY]
def inB (rs:List Ru) (s:fY) (k:Nat):Bool:=decide (0 < k) && U6 rs s k
theorem Y6g (rs:List Ru) (s:fY) (h:s.size≤1024):S5 rs s=Q9n (inB rs s) s.size:=by
 unfold S5;rw [aE yY];rfl
def Y0u (rs:List Ru) (s:fY) (k:Nat):Bool:=decide (0 < k∧k < s.size) && U6 rs s k
theorem Z0z (rs:List Ru) (s:fY) (h:s.size≤1024):Q9n (Y0u rs s) (s.size+1)=S5 rs s:=by
 rw [Q6d,aE (by unfold Y0u;simp),aX,Y6g rs s h];refine X5q fun i hi=>?_;unfold Y0u inB;congr 1;rw [decide_eq_decide];omega
theorem Y3r {α:Type} (l1 l2:List α) (a p q:Nat):((l1++l2).take (q - a)).drop (p - a)=(l1.take (q - a)).drop (p - a)++(l2.take (q - (a+l1.length))).drop (p - (a+l1.length)):=by
 rw [List.take_append,List.drop_append,bG];congr 1;rw [show q - a - l1.length=q - (a+l1.length) by omega];by_cases h:q - a < l1.length
 ·rw [show q - (a+l1.length)=0 by omega];simp
 ·rw [show p - a - min (q - a) l1.length=p - (a+l1.length) by omega]
theorem V9a (x:Tk) (a p q:Nat):O9 (pcI x a p q)=((psI x).take (q - a)).drop (p - a):=by
 unfold pcI;by_cases hx:x.k=1
 ·rw [aE yY];have e:psI x=List.replicate x.t.size (true,false):=(by unfold psI;rw [aK hx]);rw [e,List.take_replicate,List.drop_replicate];by_cases h:max p a - a < min q (a+x.t.size) - a
  ·rw [aK h,C5];unfold psI;rw [aK rfl];show List.replicate (x.t.extract _ _).size _=_;rw [Q1x x.t _ _ yY yY];congr 1;omega
  ·rw [aE h,show min (q - a) x.t.size - (p - a)=0 by omega];rfl
 ·rw [aK hx];obtain ⟨c,hc⟩:∃ c,psI x=[c]:=by
   unfold psI;rw [aE hx];split
   ·exact ⟨_,rfl⟩
   ·split<;>exact ⟨_,rfl⟩
  by_cases h:p≤a∧a < q
  ·rw [aK h,C5,hc,show q - a=(q - a - 1)+1 by omega,show p - a=0 by omega];simp
  ·rw [aE h,hc];by_cases h2:a < q
   ·rw [show p - a=(p - a - 1)+1 by omega,show q - a=(q - a - 1)+1 by omega];simp [O9]
   ·rw [show q - a=0 by omega];simp [O9]
theorem Z6b (p q:Nat):∀ (f:List Tk) (a:Nat),O9 (slI f a p q)=((O9 f).take (q - a)).drop (p - a)
 | [],a=>by simp [slI,O9]
 | x::f,a=>by
   rw [slI,M2,V9a,Z6b p q f,show x::f=[x]++f from rfl,M2 [x] f,C5,Y3r,Z6d]
theorem V4l (x:Tk) (a p q:Nat):∀ y∈pcI x a p q,1≤wdI y:=by
 unfold pcI;intro y hy;by_cases hx:x.k=1
 ·rw [aE yY] at hy;split at hy
  ·rename_i h;rw [aJ.1 hy];unfold wdI;rw [aK rfl];show 1≤(x.t.extract _ _).size;rw [Q1x x.t _ _ yY yY];omega
  ·simp at hy
 ·rw [aK hx] at hy;split at hy
  ·rw [aJ.1 hy];unfold wdI;rw [aE hx];exact yQ
  ·simp at hy
theorem Z3i (p q:Nat):∀ (f:List Tk) (a:Nat),∀ y∈slI f a p q,1≤wdI y
 | [],_,y,hy=>by simp [slI] at hy
 | x::f,a,y,hy=>by
   rw [slI] at hy;rcases aS.1 hy with h | h
   ·exact V4l x a p q y h
   ·exact Z3i p q f _ y h
theorem Q7d:∀ (l:List Tk),(∀ y∈l,1≤wdI y)→l.length≤X3 l
 | [],_=>yQ
 | x::l,h=>by
   rw [aG,X3];have h1:=h x yW;have h2:=Q7d l (fun y hy=>h y (by simp [hy]));omega
theorem Y1m (x:Bool×Bool) (ps:List (Bool×Bool)):Q5g (x::ps)=(if x.1=true then 1 else 0)+Q5g ps:=by
 unfold Q5g;rw [fE];split
 ·rw [aG];omega
 ·omega
theorem X5j (m o:Nat) (ps:List (Bool×Bool)) (h:m≤o):K8 (List.replicate m (true,false)++ps) o=m+K8 ps (o - m):=by
 induction m generalizing o with
 | zero=>simp
 | succ m ih=>
   obtain ⟨o',rfl⟩:∃ o',o=o'+1:=⟨o - 1,yY⟩;rw [List.replicate_succ,aR,K8,aK rfl,ih o' yY,Nat.add_sub_add_right];omega
theorem Z9j (m o:Nat) (ps:List (Bool×Bool)) (h:o < m) (h0:0 < o):K8 (List.replicate m (true,false)++ps) o=o:=by
 obtain ⟨d,rfl⟩:∃ d,m=o+(d+1):=⟨m - o - 1,yY⟩;rw [←List.replicate_append_replicate,aZ,X5j o o _ yQ,cZ,List.replicate_succ,aR,K8,clP];simp
theorem X6i (x:Tk) (h:x.k≠1):psI x=[(decide (x.k=5),decide (x.k=3))]:=by
 unfold psI;rw [aE h];by_cases h5:x.k=5
 ·rw [aK h5,h5];rfl
 ·rw [aE h5];by_cases h3:x.k=3
  ·rw [aK h3,h3];rfl
  ·rw [aE h3,cD h5,cD h3]
theorem Y8v (x:Tk) (h:x.k=5) (o:Nat) (ps:List (Bool×Bool)):K8 (psI x++ps) (o+1)=K8 ps o+1:=by
 rw [X6i x yY,dV,K8,h];rfl
theorem Z2m (x:Tk) (h1:x.k≠1) (h5:x.k≠5) (o:Nat) (ps:List (Bool×Bool)):K8 (psI x++ps) (o+1)=K8 ps (o+1)+1:=by
 rw [X6i x h1,dV,K8,cD h5];rfl
theorem Z7k (x:Tk) (h:x.k=3) (ps:List (Bool×Bool)):clP (psI x++ps)=clP ps+1:=by
 rw [X6i x yY,dV,clP,h];rfl
theorem Z7l (x:Tk) (h3:x.k≠3) (hw:1≤wdI x) (ps:List (Bool×Bool)):clP (psI x++ps)=0:=by
 by_cases h1:x.k=1
 ·unfold wdI at hw;rw [aK h1] at hw;unfold psI;rw [aK h1];obtain ⟨d,hd⟩:∃ d,x.t.size=d+1:=⟨x.t.size - 1,yY⟩;rw [hd,List.replicate_succ,aR,clP];simp
 ·rw [X6i x h1,dV,clP,cD h3];simp
theorem Y2j (f:List Tk) (k:Nat) (h:k < f.length):O9 (f.drop k)=psI f[k]++O9 (f.drop (k+1)):=by
 rw [aQ h,show f[k]::f.drop (k+1)=[f[k]]++f.drop (k+1) from rfl,M2,C5]
theorem R3:∀ (g:List Tk),Normal g→∀ x∈g,1≤wdI x
 | [],_,x,hx=>by simp at hx
 | y::r,h,x,hx=>by
   rcases aU.1 hx with rfl | hx
   ·unfold wdI;split
    ·rename_i h1;have:=(h.1 h1).1;omega
    ·exact yQ
   ·exact R3 r h.2 x hx
def chI (c:UInt8):Tk:=⟨1,⟨#[c]⟩,0⟩
def P8 (x:Tk):List Tk:=if x.k=1 then x.t.data.toList.map chI else [x]
def X9 (f:List Tk):List Tk:=f.flatMap P8
def One (x:Tk):Prop:=x.k=1→∃ c,x=chI c
theorem L9 (f g:List Tk):X9 (f++g)=X9 f++X9 g:=by simp [X9]
theorem Q1d (x:Tk):X9 [x]=P8 x:=by simp [X9]
theorem Q0h (x:Tk) (f:List Tk):X9 (x::f)=P8 x++X9 f:=by simp [X9]
theorem V2o (x:Tk) (h:One x):P8 x=[x]:=by
 unfold P8;split
 ·rename_i hk;obtain ⟨c,rfl⟩:=h hk;rfl
 ·rfl
theorem Y7e (x:Tk):(P8 x).length=wdI x:=by
 unfold P8 wdI;split
 ·rw [bA];simp
 ·rfl
theorem D2:∀ f:List Tk,(X9 f).length=X3 f
 | []=>rfl
 | x::f=>by rw [Q0h,aA,Y7e,D2 f,X3]
theorem Z8a (x:Tk):∀ y∈P8 x,One y:=by
 unfold P8;intro y hy;split at hy
 ·obtain ⟨c,_,rfl⟩:=cF.1 hy;exact fun _=>⟨c,rfl⟩
 ·rename_i hk;rw [aJ.1 hy];exact fun h=>absurd h hk
theorem C8 (f:List Tk):∀ y∈X9 f,One y:=by
 intro y hy;obtain ⟨x,_,hx⟩:=dA.1 hy;exact Z8a x y hx
theorem Q8i:∀ (u:List Tk),(∀ y∈u,One y)→X9 u=u
 | [],_=>rfl
 | x::u,h=>by
   rw [Q0h,V2o x (h x yW),Q8i u (fun y hy=>h y (by simp [hy]))];rfl
theorem Y6m (out:List Tk):∀ (l:List UInt8) (t:fY),(l.map chI).foldl X4 (X4 out ⟨1,t,0⟩)=X4 out ⟨1,t++⟨l.toArray⟩,0⟩
 | [],t=>by rw [eM,List.foldl_nil,X0t]
 | c::l,t=>by
   rw [cA,bQ];have e:=X9t out t ⟨#[c]⟩ 0 0 0;show (l.map chI).foldl X4 (X4 (X4 out ⟨1,t,0⟩) ⟨1,⟨#[c]⟩,0⟩)=_;rw [e,Y6m out l];congr 2;apply Q0f;simp
theorem Z7z (out:List Tk) (x:Tk):(P8 x).foldl X4 out=X4 out x:=by
 unfold P8;split
 ·rename_i hk;obtain ⟨k,t,d⟩:=x;simp only at hk;subst hk;simp only
  have h0:X4 out ⟨1,⟨#[]⟩,0⟩=out:=H5 out _ 0 rfl;have h:=Y6m out t.data.toList ⟨#[]⟩;rw [h0,Q5j] at h;rw [h];have e:(⟨t.data.toList.toArray⟩:fY)=t:=(by cases t;simp);rw [e];by_cases ht:t.size=0
  ·rw [H5 _ _ _ ht,H5 _ _ _ ht]
  ·rcases bS out with rfl | ⟨o,y,rfl⟩
   ·rw [U2 ⟨1,t,0⟩ rfl ht,U2 ⟨1,t,d⟩ rfl ht]
   ·by_cases hy:y.k=1
    ·rw [bN,K5 o y ⟨1,t,0⟩ rfl ht hy,K5 o y ⟨1,t,d⟩ rfl ht hy]
    ·rw [bN,E8 o y ⟨1,t,0⟩ rfl ht hy,E8 o y ⟨1,t,d⟩ rfl ht hy]
 ·rfl
theorem Y1y:∀ (f out:List Tk),(X9 f).foldl X4 out=f.foldl X4 out
 | [],_=>rfl
 | x::f,out=>by rw [Q0h,dY,Z7z,Y1y f,bQ]
theorem X4e (f:List Tk):Q4 (X9 f)=Q4 f:=Y1y f []
theorem Y0s (f g:List Tk):Q4 (f++g)=Q4 (X9 f++X9 g):=by rw [←L9,X4e]
theorem Z7y (out:List Tk) (x:Tk):X9 (X4 out x)=X9 out++P8 x:=by
 by_cases hk:x.k=1
 ·have ex:P8 x=x.t.data.toList.map chI:=(by unfold P8;rw [aK hk]);by_cases h2:x.t.size=0
  ·rw [O2 out x hk h2,ex];have:x.t.data.toList=[]:=cC (by rw [←aC];exact h2);rw [this];simp
  ·rcases bS out with rfl | ⟨o,y,rfl⟩
   ·rw [U2 x hk h2,Q1d,ex];rfl
   ·rw [bN];by_cases hy:y.k=1
    ·rw [K5 o y x hk h2 hy,L9,L9,Q1d,Q1d,ex,aZ];congr 1;have e1:P8 ⟨1,y.t++x.t,0⟩=(y.t++x.t).data.toList.map chI:=rfl;have e2:P8 y=y.t.data.toList.map chI:=(by unfold P8;rw [aK hy]);rw [e1,e2];simp
    ·rw [E8 o y x hk h2 hy,L9,Q1d,ex];rfl
 ·rw [D9 out x hk,L9,Q1d]
theorem X7q:∀ (f out:List Tk),X9 (f.foldl X4 out)=X9 out++X9 f
 | [],out=>by simp [X9]
 | x::f,out=>by rw [bQ,X7q f,Z7y,Q0h,aZ]
theorem L1 (f:List Tk):X9 (Q4 f)=X9 f:=by
 have h:=X7q f [];rw [show X9 ([]:List Tk)=[] from rfl,bJ] at h;exact h
theorem X5h (f:List Tk) (h:Normal f):Q4 (X9 f)=f:=by rw [X4e,B9 f h]
theorem V7w (x:Tk) (a p q:Nat):X9 (pcI x a p q)=((P8 x).take (q - a)).drop (p - a):=by
 unfold pcI;by_cases hx:x.k=1
 ·rw [aE yY];have e:P8 x=x.t.data.toList.map chI:=(by unfold P8;rw [aK hx]);have hl:x.t.data.toList.length=x.t.size:=yW;rw [e];by_cases h:max p a - a < min q (a+x.t.size) - a
  ·rw [aK h,Q1d];show (x.t.extract (max p a - a) (min q (a+x.t.size) - a)).data.toList.map _=_;rw [cX,dG,←List.map_take,←List.map_drop];congr 1;rw [cU,eT];rw [show p - a=max p a - a by omega];by_cases h2:q≤a+x.t.size
   ·rw [show min q (a+x.t.size) - a=q - a by omega]
   ·rw [show min q (a+x.t.size) - a=x.t.size by omega];rw [bP (by rw [bM,hl];omega),bP (by rw [bM,hl];omega)]
  ·rw [aE h];rw [dI (by rw [bG,bA,hl];omega)];rfl
 ·rw [aK hx];have hc:P8 x=[x]:=(by unfold P8;rw [aE hx]);by_cases h:p≤a∧a < q
  ·rw [aK h,Q1d,hc,show q - a=(q - a - 1)+1 by omega,show p - a=0 by omega];simp
  ·rw [aE h,hc];by_cases h2:a < q
   ·rw [show p - a=(p - a - 1)+1 by omega,show q - a=(q - a - 1)+1 by omega];simp [X9]
   ·rw [show q - a=0 by omega];simp [X9]
theorem X1k (p q:Nat):∀ (f:List Tk) (a:Nat),X9 (slI f a p q)=((X9 f).take (q - a)).drop (p - a)
 | [],a=>by simp [slI,X9]
 | x::f,a=>by
   rw [slI,L9,V7w,X1k p q f,show x::f=[x]++f from rfl,L9 [x] f,Q1d,Y3r,Y7e]
theorem Y8r (x:Tk) (a p q:Nat):∀ y∈pcI x a p q,y.k=x.k∧y.d=x.d∧1≤wdI y:=by
 intro y hy;have h3:=V4l x a p q y hy;unfold pcI at hy;by_cases hx:x.k=1
 ·rw [aE yY] at hy;split at hy
  ·rw [aJ.1 hy] at h3 ⊢;exact ⟨hx.symm,rfl,h3⟩
  ·simp at hy
 ·rw [aK hx] at hy;split at hy
  ·rw [aJ.1 hy] at h3 ⊢;exact ⟨rfl,rfl,h3⟩
  ·simp at hy
theorem V4k (x:Tk) (a p q:Nat) (h:q≤a):pcI x a p q=[]:=by
 unfold pcI;split
 ·rw [aE yY]
 ·rw [aE yY]
theorem Z0f (p q:Nat):∀ (f:List Tk) (a:Nat),q≤a→slI f a p q=[]
 | [],_,_=>rfl
 | x::f,a,h=>by rw [slI,V4k x a p q h,Z0f p q f _ yY];rfl
theorem V4j (x:Tk) (a p q:Nat) (hp:p≤a) (hw:1≤wdI x) (h:pcI x a p q=[]):q≤a:=by
 unfold pcI at h;unfold wdI at hw;by_cases hx:x.k=1
 ·rw [aE yY] at h;rw [aK hx] at hw;by_cases h2:max p a - a < min q (a+x.t.size) - a
  ·rw [aK h2] at h;simp at h
  ·omega
 ·rw [aK hx] at h;by_cases h2:p≤a∧a < q
  ·rw [aK h2] at h;simp at h
  ·omega
theorem V5o (p q:Nat):∀ (f:List Tk) (a:Nat) (y:Tk),p≤a→(∀ x∈f,1≤wdI x)→(slI f a p q).head? =some y→∃ x,f.head? =some x∧y.k=x.k
 | [],a,y,_,_,h=>by simp [slI] at h
 | x::f,a,y,hp,hw,h=>by
   rw [slI] at h;cases hc:pcI x a p q with
   | nil=>
     have:=V4j x a p q hp (hw x yW) hc;rw [hc,Z0f p q f _ yY] at h;simp at h
   | cons z r=>
     rw [hc] at h;simp at h;exact ⟨x,rfl,by rw [←h];exact (Y8r x a p q z (by rw [hc];simp)).1⟩
theorem X0i (p q:Nat):∀ (f:List Tk) (a:Nat),Normal f→Normal (slI f a p q)
 | [],_,_=>trivial
 | x::f,a,h=>by
   have ih:=X0i p q f (a+wdI x) h.2;rw [slI];have hk:=Y8r x a p q;have hl:=Z5z x a p q;cases hp:pcI x a p q with
   | nil=>exact ih
   | cons z r=>
     have hr:r=[]:=by
      rw [hp] at hl;simp at hl;exact hl
     subst hr;obtain ⟨k1,k2,k3⟩:=hk z (by rw [hp];simp);refine ⟨fun hz=>?_,ih⟩;have ha:x.k=1:=(by rw [←k1];exact hz);obtain ⟨_,n2,n3⟩:=h.1 ha;refine ⟨?_,by rw [k2];exact n2,fun y hy=>?_⟩
     ·unfold wdI at k3;rw [aK hz] at k3;omega
     ·obtain ⟨x',hx',hb⟩:=V5o p q f (a+wdI x) y (by
       unfold pcI at hp;rw [aE yY] at hp;unfold wdI;rw [aK ha];split at hp
       ·omega
       ·simp at hp) (R3 f h.2) hy
      rw [hb];exact n3 x' hx'
def Q0d:List fY:=[⟨#[110]⟩,⟨#[110,97,109,101]⟩,⟨#[120,49]⟩]
def Q5i:List fY:=[⟨#[98,114]⟩,⟨#[105,109,103,32,97]⟩]
def Q7g:List fY:=[⟨#[98]⟩,⟨#[105]⟩,⟨#[97,32,104,61,49]⟩]
theorem X3u (l:List fY) (k:Nat) (h:∀ x∈l,x.size≤5):(l.getD k ⟨#[]⟩).size≤5:=by
 by_cases hk:k < l.length
 ·rw [bH,aF hk];exact h _ (aL hk)
 ·rw [bH,dF yY];decide
def J8 (s:fY):fY:=⟨(s.data.toList.takeWhile (fun c=>c != 32)).toArray⟩
theorem X8i (s:fY):(J8 s).size≤s.size:=by
 rw [aC,aC];show (s.data.toList.takeWhile _).toArray.toList.length≤_;exact (eY _).length_le
structure FS where
 f:List Tk
 op:List Tk
 id:Nat
 N:Nat
def Z0 (l:List UInt8):List UInt8:=l.takeWhile (fun c=>c != 32)
theorem Q9y (s:fY):(J8 s).data.toList=Z0 s.data.toList:=by simp [J8,Z0]
def Y6o (c:UInt8):Bool:=decide (32≤c.toNat∧c.toNat≤126) && !(c==60) && !(c==62) && !(c==123) && !(c==125)
def N9 (l:List UInt8):Bool:=decide (l.length≤64) && !(l.getLastD 47==47) && l.all Y6o && U3 (Z0 l) && (decide ((Z0 l).length=l.length) || decide ((Z0 l).length+1 < l.length))
def wP:List UInt8:=[112]
def wH:List UInt8:=[104]
def wLi:List UInt8:=[108,105]
def wTd:List UInt8:=[116,100]
def X4y:List UInt8:=[116,105,116,108,101]
def U4 (l:List UInt8):Bool:=l==wP || l==wH || l==wLi || l==wTd || l==X4y
def N5 (fmt:Int) (c:UInt8):List UInt8:=
 if fmt=1 then (if c=60 then [38,108,116,59] else if c=38 then [38,97,109,112,59] else if c=123 then [38,108,98,59] else [c])
 else if fmt=2 then (if c=10 then [92,110] else if c=9 then [92,116] else if c=13 then [92,114] else if c=92 then [92,92] else if c=123 then [92,123] else [c])
 else (if c=34 then [34,34] else if c=123 then [123,123] else [c])
def V6 (fmt:Int) (x:Tk):List UInt8:=
 if x.k=1 then x.t.data.toList.flatMap (N5 fmt)
 else if x.k=2 then 60::x.t.data.toList++[62]
 else if x.k=3 then 60::47::x.t.data.toList++[62]
 else if x.k=4 then 60::x.t.data.toList++[47,62]
 else 123::x.t.data.toList++[125]
def V3 (fmt:Int) (f:List Tk):List UInt8:=f.flatMap (V6 fmt)
theorem Y6x (fmt:Int) (f g:List Tk):V3 fmt (f++g)=V3 fmt f++V3 fmt g:=by simp [V3]
theorem V2e (fmt:Int) (x:Tk):V3 fmt (P8 x)=V6 fmt x:=by
 unfold P8;split
 ·rename_i hk;unfold V3 V6;rw [aK hk,List.flatMap_map];congr 1;funext c;show (if (1:Int)=1 then [c].flatMap (N5 fmt) else _)=_;rw [aK rfl];simp
 ·simp [V3]
theorem X1e (fmt:Int):∀ f:List Tk,V3 fmt (X9 f)=V3 fmt f
 | []=>rfl
 | x::f=>by rw [Q0h,Y6x,V2e,X1e fmt f];rfl
def X5l:List (List UInt8×UInt8):=[([38,108,116,59],60),([38,103,116,59],62),([38,97,109,112,59],38),([38,108,98,59],123),([38,114,98,59],125)]
def Z1j:List (UInt8×UInt8):=[(110,10),(116,9),(115,32),(114,13),(92,92),(123,123)]
inductive ElOk:Int→List UInt8→Option Tk→Prop
 | slot (fmt:Int) (n:List UInt8) (h:U3 n=true):ElOk fmt (123::n++[125]) (some ⟨5,ofL n,0⟩)
 | ch1 (c:UInt8) (h:c≠60∧c≠38∧c≠123):ElOk 1 [c] (some (chI c))
 | ref (r:List UInt8) (c:UInt8) (h:(r,c)∈X5l):ElOk 1 r (some (chI c))
 | opn (t:List UInt8) (d:Int) (h:N9 t=true) (hb:U4 (Z0 t)=false):ElOk 1 (60::t++[62]) (some ⟨2,ofL t,d⟩)
 | cls (t:List UInt8) (d:Int) (h:U3 t=true) (hb:U4 t=false):ElOk 1 (60::47::t++[62]) (some ⟨3,ofL t,d⟩)
 | emp (t:List UInt8) (d:Int) (h:N9 t=true) (hb:U4 (Z0 t)=false):ElOk 1 (60::t++[47,62]) (some ⟨4,ofL t,d⟩)
 | ch2 (c:UInt8) (h:c≠10∧c≠92∧c≠123):ElOk 2 [c] (some (chI c))
 | esc (e c:UInt8) (h:(e,c)∈Z1j):ElOk 2 [92,e] (some (chI c))
 | cont (b:List UInt8) (h:∀ c∈b,c=32∨c=9):ElOk 2 (92::10::b) none
 | ch3 (c:UInt8) (h:c≠34∧c≠123):ElOk 3 [c] (some (chI c))
 | two (c:UInt8) (h:c=34∨c=123):ElOk 3 [c,c] (some (chI c))
abbrev Els:=List (List UInt8×Option Tk)
def Q2 (ts:Els):List UInt8:=ts.flatMap (·.1)
def X0 (ts:Els):List Tk:=ts.filterMap (·.2)
def Q4c:Els→Nat→Nat→List Nat
 | [],_,_=>[]
 | (r,none)::ts,at_,b=>Q4c ts (at_+r.length) b
 | (r,some _)::ts,at_,b=>b::Q4c ts (at_+r.length) (at_+r.length)
def H9:Els→Nat→Nat→Nat
 | [],_,b=>b
 | (r,none)::ts,at_,b=>H9 ts (at_+r.length) b
 | (r,some _)::ts,at_,_=>H9 ts (at_+r.length) (at_+r.length)
def F5:Els→Prop
 | []=>True
 | [_]=>True
 | (r,x)::(r',y)::ts=>(x=none→r'.head? ≠some 32∧r'.head? ≠some 9)∧F5 ((r',y)::ts)
def NumOk:List Tk→Nat→List Tk→Prop
 | [],_,op=>op=[]
 | x::u,c,op=>
   if x.k=2 then x.d=((c+1:Nat):Int)∧NumOk u (c+1) (x::op)
   else if x.k=4 then x.d=((c+1:Nat):Int)∧NumOk u (c+1) op
   else if x.k=3 then ∃ y op',op=y::op'∧J8 y.t=x.t∧x.d=y.d∧NumOk u c op'
   else NumOk u c op
structure RawOk (fmt:Int) (ts:Els):Prop where
 els:∀ e∈ts,ElOk fmt e.1 e.2
 cont:F5 ts
 num:NumOk (X0 ts) 0 []
 len:(X0 ts).length≤500
def tsF (fmt:Int) (f:List Tk):Els:=(X9 f).map fun x=>(V6 fmt x,some x)
theorem X6j (fmt:Int) (f:List Tk):Q2 (tsF fmt f)=V3 fmt f:=by
 rw [←X1e];unfold Q2 tsF V3;rw [List.flatMap_map]
theorem V8h (fmt:Int) (f:List Tk):X0 (tsF fmt f)=X9 f:=by
 unfold X0 tsF;rw [List.filterMap_map];induction X9 f with
 | nil=>rfl
 | cons x l ih=>exact congrArg (x::·) ih
theorem Q2a:∀ ts:Els,(∀ e∈ts,e.2≠none)→F5 ts
 | [],_=>trivial
 | [_],_=>trivial
 | (r,x)::(r',y)::ts,h=>⟨fun hx=>absurd hx (h (r,x) yW),Q2a ((r',y)::ts) (fun e he=>h e (dQ _ he))⟩
def V8 (x:Tk):Prop:=x.k=1∨(x.k=5∧U3 x.t.data.toList=true∧x.d=0)
theorem U0r (fmt:Int) (hf:fmt=1∨fmt=2∨fmt=3) (c:UInt8):ElOk fmt (N5 fmt c) (some (chI c)):=by
 rcases hf with rfl | rfl | rfl
 ·unfold N5;rw [aK rfl];by_cases h1:c=60
  ·rw [aK h1,h1];exact ElOk.ref _ _ yX
  ·rw [aE h1];by_cases h2:c=38
   ·rw [aK h2,h2];exact ElOk.ref _ _ yX
   ·rw [aE h2];by_cases h3:c=123
    ·rw [aK h3,h3];exact ElOk.ref _ _ yX
    ·rw [aE h3];exact ElOk.ch1 c ⟨h1,h2,h3⟩
 ·unfold N5;rw [aE yX,aK rfl];by_cases h1:c=10
  ·rw [aK h1,h1];exact ElOk.esc _ _ yX
  ·rw [aE h1];by_cases h2:c=9
   ·rw [aK h2,h2];exact ElOk.esc _ _ yX
   ·rw [aE h2];by_cases h3:c=13
    ·rw [aK h3,h3];exact ElOk.esc _ _ yX
    ·rw [aE h3];by_cases h4:c=92
     ·rw [aK h4,h4];exact ElOk.esc _ _ yX
     ·rw [aE h4];by_cases h5:c=123
      ·rw [aK h5,h5];exact ElOk.esc _ _ yX
      ·rw [aE h5];exact ElOk.ch2 c ⟨h1,h4,h5⟩
 ·unfold N5;rw [aE yX,aE yX];by_cases h1:c=34
  ·rw [aK h1,h1];exact ElOk.two _ (Or.inl rfl)
  ·rw [aE h1];by_cases h2:c=123
   ·rw [aK h2,h2];exact ElOk.two _ (Or.inr rfl)
   ·rw [aE h2];exact ElOk.ch3 c ⟨h1,h2⟩
theorem X5z (fmt:Int) (c:UInt8):V6 fmt (chI c)=N5 fmt c:=by
 unfold V6 chI;rw [aK rfl];simp
def N7 (x:Tk):Prop:=x.k=2∨x.k=3∨x.k=4
def WfI (x:Tk):Prop:=x.k=1∨(x.k=5∧U3 x.t.data.toList=true∧x.d=0)∨((x.k=2∨x.k=4)∧N9 x.t.data.toList=true∧1≤x.d∧x.d≤999)∨(x.k=3∧U3 x.t.data.toList=true∧1≤x.d∧x.d≤999)
def Y3h (y x:Tk):Prop:=N7 y→N7 x→y.d=x.d→x.k=3∧y.k=2∧J8 y.t=x.t
structure ValF (f:List Tk):Prop where
 len:f.length≤512
 pos:X3 f≤1024
 nrm:Normal f
 wf:∀ x∈f,WfI x
 fit:f.Pairwise Y3h
def Q5e (f:List Tk):Prop:=∀ x∈f,N7 x→U4 (Z0 x.t.data.toList)=false
theorem Z9k (f:List Tk) (hn:Normal f) (h:∀ x∈f,V8 x) (hl:X3 f≤500):ValF f:=by
 have h1:=Q7d f (R3 f hn);refine ⟨yY,yY,hn,fun x hx=>?_,?_⟩
 ·rcases h x hx with h | h
  ·exact Or.inl h
  ·exact Or.inr (Or.inl h)
 ·refine List.pairwise_of_forall_mem_list fun y hy x hx=>?_;intro h1 _ _;exfalso;unfold N7 at h1;rcases h y hy with h | h<;>omega
theorem Y0t (f:List Tk) (h:∀ x∈f,V8 x):Q5e f:=fun x hx ht=>by
 exfalso;unfold N7 at ht;rcases h x hx with h | h<;>omega
theorem Z2p (out:List Tk) (x:Tk) (h:∀ y∈out,V8 y) (hx:V8 x):∀ y∈X4 out x,V8 y:=by
 intro z hz;by_cases hk:x.k=1
 ·by_cases h2:x.t.size=0
  ·rw [O2 out x hk h2] at hz;exact h z hz
  ·rcases bS out with rfl | ⟨o,y,rfl⟩
   ·rw [U2 x hk h2] at hz;rw [aJ.1 hz];exact Or.inl rfl
   ·rw [bN] at h hz;by_cases hy:y.k=1
    ·rw [K5 o y x hk h2 hy] at hz;rcases aS.1 hz with hz | hz
     ·exact h z (aS.2 (.inl hz))
     ·rw [aJ.1 hz];exact Or.inl rfl
    ·rw [E8 o y x hk h2 hy] at hz;rcases aS.1 hz with hz | hz
     ·exact h z hz
     ·rw [aJ.1 hz];exact Or.inl rfl
 ·rw [D9 out x hk] at hz;rcases aS.1 hz with hz | hz
  ·exact h z hz
  ·rw [aJ.1 hz];exact hx
theorem Z2o (f:List Tk) (h:∀ y∈f,V8 y):∀ y∈Q4 f,V8 y:=by
 suffices hh:∀ (g out:List Tk),(∀ y∈g,V8 y)→(∀ y∈out,V8 y)→∀ y∈g.foldl X4 out,V8 y from hh f [] h (fun y hy=>by simp at hy)
 intro g;induction g with
 | nil=>intro out _ h2;exact h2
 | cons x g ih=>intro out h1 h2;exact ih _ (fun y hy=>h1 y (by simp [hy])) (Z2p out x h2 (h1 x yW))
/-! ### Documents -/
structure Pt where
 un:Bool
 key:fY
 raw:fY
structure Un where
 sk:List UInt8
 key:List UInt8
 ts:Els
def P9:List Un→List UInt8→List Pt
 | [],tl=>[⟨false,ofL [],ofL tl⟩]
 | u::us,tl=>⟨false,ofL [],ofL u.sk⟩::⟨true,ofL u.key,ofL (Q2 u.ts)⟩::P9 us tl
def O0:List Un→List UInt8→List UInt8
 | [],tl=>tl
 | u::us,tl=>u.sk++Q2 u.ts++O0 us tl
theorem Q2k:∀ (us:List Un) (tl:List UInt8),((P9 us tl).map fun p=>p.raw.data.toList).flatten=O0 us tl
 | [],tl=>by simp [P9,O0,ofL]
 | u::us,tl=>by
   rw [P9,cA,cA,List.flatten_cons,List.flatten_cons,Q2k us tl,O0,aZ];simp [ofL]
def U5 (tags:Bool) (L:List Int) (c:Int) (t:fY) (op:List Tk) (id M:Nat):Tk×List Tk×Nat×Nat:=
 if c=0∨c=1 then (⟨5,Q0d.getD (Q8 L M 3).toNat ⟨#[]⟩,0⟩,op,id,M+1)
 else if c=2∧tags=true then (⟨4,Q5i.getD (Q8 L M 2).toNat ⟨#[]⟩,(id+1:Nat)⟩,op,id+1,M+1)
 else if (c=3∨c=4)∧tags=true then (⟨2,Q7g.getD (Q8 L M 3).toNat ⟨#[]⟩,(id+1:Nat)⟩,op++[⟨2,Q7g.getD (Q8 L M 3).toNat ⟨#[]⟩,(id+1:Nat)⟩],id+1,M+1)
 else if (c=5∨c=6)∧0 < op.length then (⟨3,J8 (op.getLastD ⟨0,⟨#[]⟩,0⟩).t,(op.getLastD ⟨0,⟨#[]⟩,0⟩).d⟩,op.dropLast,id,M)
 else (⟨1,t,0⟩,op,id,M)
def O8 (tags:Bool) (L:List Int) (s:FS):FS:=
 let ln:=J3 L s.N 3
 let x:=U5 tags L (Q8 L ln.2 8) ln.1 s.op s.id (ln.2+1)
 ⟨Q4 (s.f++[x.1]),x.2.1,x.2.2.1,x.2.2.2⟩
def D7 (tags:Bool) (L:List Int):Nat→FS→FS
 | 0,s=>s
 | i+1,s=>D7 tags L i (O8 tags L s)
def K2 (op:List Tk):List Tk:=op.reverse.map fun y=>⟨3,J8 y.t,y.d⟩
def U8 (tags:Bool) (L:List Int) (N:Nat) (n:Int):List Tk×Nat:=
 let s:=D7 tags L (Q8 L N (n+1)).toNat ⟨[],[],0,N+1⟩
 (s.f++K2 s.op,s.N)
structure FGK (tags:Bool) (s:FS) (r:Nat):Prop where
 len:s.f.length≤r
 bytes:X2 s.f≤18 * r
 oplen:s.op.length≤r
 opsz:∀ x∈s.op,x.t.size≤5
 id:s.id≤r
 normal:Normal s.f
 plain:tags=false→(∀ x∈s.f,V8 x)∧s.op=[]
theorem Z0h (k:Nat) (h:k < 3):U3 (Q0d.getD k ⟨#[]⟩).data.toList=true:=by
 rcases (show k=0∨k=1∨k=2 by omega) with rfl | rfl | rfl<;>decide
theorem X7v (tags:Bool) (L:List Int) (c:Int) (t:fY) (op:List Tk) (id M r:Nat) (ht:t.size≤18) (h1:op.length≤r) (h2:∀ x∈op,x.t.size≤5) (h3:id≤r) (hp:tags=false→op=[]):
 ∀ x op' id' M',U5 tags L c t op id M=(x,op',id',M')→x.t.size≤18∧op'.length≤r+1∧(∀ x∈op',x.t.size≤5)∧id'≤r+1∧M'≤M+1∧(tags=false→V8 x∧op'=[]):=by
 intro x op' id' M' h;unfold U5 at h;have hs:=X3u Q0d (Q8 L M 3).toNat yX;have he:=X3u Q5i (Q8 L M 2).toNat yX;have ho:=X3u Q7g (Q8 L M 3).toNat yX;have hb:=X5 L M 3 yX;split at h
 ·cases h;exact ⟨aP hs yX,yY,h2,yY,yY,fun hf=>⟨Or.inr ⟨rfl,Z0h _ yY,rfl⟩,hp hf⟩⟩
 split at h
 ·rename_i hc;cases h;exact ⟨aP he yX,yY,h2,yY,yY,fun hf=>by rw [hf] at hc;cases hc.2⟩
 split at h
 ·rename_i hc;cases h
  refine ⟨aP ho yX,by simp;omega,fun y hy=>?_,yY,yY,fun hf=>by rw [hf] at hc;cases hc.2⟩;rcases aS.1 hy with hy | hy
  ·exact h2 y hy
  ·rw [aJ.1 hy];exact ho
 split at h
 ·rename_i hc;cases h
  refine ⟨?_,by rw [List.length_dropLast];omega,fun y hy=>h2 y (List.dropLast_subset _ hy),yY,yY,fun hf=>by have:=hp hf;rw [this] at hc;simp at hc⟩;refine aP (X8i _) ?_;cases hl:op.getLast? with
  | none=>rw [fH,hl];decide
  | some y=>
    rw [fH,hl,Option.getD_some];exact aP (h2 y (List.mem_of_getLast? hl)) yX
 ·cases h;exact ⟨ht,yY,h2,yY,yY,fun hf=>⟨Or.inl rfl,hp hf⟩⟩
theorem FGK.step (tags:Bool) (L:List Int) (s:FS) (r:Nat) (h:FGK tags s r):FGK tags (O8 tags L s) (r+1)∧(O8 tags L s).N≤s.N+9:=by
 obtain ⟨f,op,id,N⟩:=s;obtain ⟨h1,h2,h3,h4,h5,h8,h9⟩:=h;simp only at h1 h2 h3 h4 h5 h8 h9;have hl:=Q4k L N 3 yX;unfold O8;simp only
 generalize hln:J3 L N 3=ln at hl;obtain ⟨t,M⟩:=ln;simp only at hl ⊢;generalize hx:U5 tags L (Q8 L M 8) t op id (M+1)=x;obtain ⟨x,op',id',M'⟩:=x;have ht:t.size≤18:=hl.1;have hM:M≤N+7:=hl.2;obtain ⟨q1,q3,q4,q5,q6,q7⟩:=X7v tags L _ t op id (M+1) r ht h3 h4 h5 (fun hf=>(h9 hf).2) x op' id' M' hx;refine ⟨⟨?_,?_,q3,q4,q5,N1 _,fun hf=>⟨?_,(q7 hf).2⟩⟩,?_⟩
 ·have:=N0 (f++[x]);rw [aA,bZ] at this;show (Q4 (f++[x])).length≤r+1;omega
 ·show X2 (Q4 (f++[x]))≤18 * (r+1);rw [Q1j,J7,F6];omega
 ·refine Z2o _ fun y hy=>?_;rcases aS.1 hy with hy | hy
  ·exact (h9 hf).1 y hy
  ·rw [aJ.1 hy];exact (q7 hf).1
 ·show M'≤N+9;omega
theorem Q5m (tags:Bool) (L:List Int):∀ i s r,FGK tags s r→FGK tags (D7 tags L i s) (r+i)∧(D7 tags L i s).N≤s.N+9 * i
 | 0,_,_,h=>⟨h,yQ⟩
 | i+1,s,r,h=>by
   obtain ⟨g1,g2⟩:=FGK.step tags L s r h;obtain ⟨g3,g4⟩:=Q5m tags L i _ (r+1) g1;refine ⟨?_,?_⟩
   ·rw [show r+1+i=r+(i+1) by omega] at g3;exact g3
   ·show (D7 tags L i (O8 tags L s)).N≤_;omega
theorem Q4e (tags:Bool) (N:Nat):FGK tags ⟨[],[],0,N⟩ 0:=
 ⟨by simp,by simp [X2],by simp,by simp,by simp,trivial,fun _=>⟨fun x hx=>by simp at hx,rfl⟩⟩
theorem Q8z:∀ f:List Tk,X3 f≤X2 f+f.length
 | []=>yQ
 | x::f=>by
   have h2:=Q8z f;have e:X2 (x::f)=x.t.size+X2 f:=by
    have:=J7 [x] f;rw [F6] at this;exact this
   rw [X3,aG,e];have h3:wdI x≤x.t.size+1:=by
    unfold wdI;split<;>omega
   omega
theorem X5d (L:List Int) (N n:Nat) (hn:n≤8):Normal (U8 false L N n).1∧(∀ x∈(U8 false L N n).1,V8 x)∧(U8 false L N n).1.length≤8∧X3 (U8 false L N n).1≤152:=by
 have hb:=X5 L N ((n:Int)+1) yY;obtain ⟨h,_⟩:=Q5m false L (Q8 L N ((n:Int)+1)).toNat ⟨[],[],0,N+1⟩ 0 (Q4e false (N+1));have hp:=h.plain rfl;have hl:=h.len;have hc:=h.bytes;have ha:=h.normal;have e:(U8 false L N n).1=(D7 false L (Q8 L N ((n:Int)+1)).toNat ⟨[],[],0,N+1⟩).f:=by
  show _++K2 _=_;rw [hp.2];exact aX _
 rw [e];have:=Q8z (D7 false L (Q8 L N ((n:Int)+1)).toNat ⟨[],[],0,N+1⟩).f;exact ⟨ha,hp.1,yY,yY⟩
def Y3f (t:fY) (z:Nat):fY:=[⟨#[114,111,116]⟩,⟨#[100,97,115,32,65,117,116,111]⟩,⟨#[]⟩,(⟨#[101,105,110,32]⟩:fY)++t,t].getD z ⟨#[]⟩
theorem X0n (t:fY) (z:Nat):(Y3f t z).size≤t.size+8:=by
 unfold Y3f;rcases z with _ | _ | _ | _ | _ | z
 ·show 3≤_;omega
 ·show 8≤_;omega
 ·show 0≤_;omega
 ·show ((⟨#[101,105,110,32]⟩:fY)++t).size≤_;rw [bD];show 4+_≤_;omega
 ·show t.size≤_;omega
 ·show 0≤_;omega
def K1 (L:List Int):List Tk→Nat→List Tk×Nat
 | [],N=>([],N)
 | x::r,N=>
   if x.k=1 then (⟨1,Y3f x.t (Q8 L N 5).toNat,x.d⟩::(K1 L r (N+1)).1,(K1 L r (N+1)).2)
   else if Q8 L N 3=0 then (⟨1,(J3 L (N+1) 2).1,0⟩::x::(K1 L r (J3 L (N+1) 2).2).1,(K1 L r (J3 L (N+1) 2).2).2)
   else (x::(K1 L r (N+1)).1,(K1 L r (N+1)).2)
theorem X9x (L:List Int):∀ (a b:List Tk) (N:Nat),K1 L (a++b) N=((K1 L a N).1++(K1 L b (K1 L a N).2).1,(K1 L b (K1 L a N).2).2)
 | [],b,N=>rfl
 | x::a,b,N=>by
   rw [aR,K1,K1];split
   ·rw [X9x L a b];rfl
   ·split<;>(rw [X9x L a b];rfl)
theorem X2z (L:List Int):∀ (a:List Tk) (N:Nat),(K1 L a N).1.length≤2 * a.length∧X2 (K1 L a N).1≤X2 a+12 * a.length∧(K1 L a N).2≤N+6 * a.length
 | [],N=>⟨yQ,yQ,yQ⟩
 | x::a,N=>by
   have e:∀ (y:Tk) (u:List Tk),X2 (y::u)=y.t.size+X2 u:=fun y u=>by simp [X2]
   have hw:=X0n x.t (Q8 L N 5).toNat;obtain ⟨h1,h2⟩:=Q4k L (N+1) 2 yX;have ha:6 * (2:Int).toNat=12:=rfl;have h4:2 * (2:Int).toNat=4:=rfl;rw [K1];split
   ·obtain ⟨i1,i2,i3⟩:=X2z L a (N+1);simp only [aG,e];omega
   ·split
    ·obtain ⟨i1,i2,i3⟩:=X2z L a (J3 L (N+1) 2).2;simp only [aG,e];omega
    ·obtain ⟨i1,i2,i3⟩:=X2z L a (N+1);simp only [aG,e];omega
theorem X8p (u:List Tk) (x:Tk):Q4 (Q4 u++[x])=Q4 (u++[x]):=by
 rw [M9,M9,B9 _ (N1 u)]
theorem X7a:∀ (u:List Tk) (k:Nat),X2 (u.take k)≤X2 u
 | [],k=>by simp
 | x::u,0=>by simp [X2]
 | x::u,k+1=>by
   have:=X7a u k;simp [X2] at this ⊢;exact this
theorem Y1f:∀ (u:List Tk) (k:Nat) (h:k < u.length),u[k].t.size≤X2 u
 | x::u,0,_=>by simp [X2]
 | x::u,k+1,h=>by
   have:=Y1f u k (by simpa using h);simp [X2] at this ⊢;omega
def Q3e (c:UInt8):Bool:=decide (Q6i (c.toNat:Int)=2)
def sqI (x:Tk):List (Bool×Bool):=if x.k=1 then x.t.data.toList.map (fun c=>(!Q3e c,Q3e c)) else if x.k=5 then [(true,false)] else [(false,false)]
def sqF (f:List Tk):List (Bool×Bool):=f.flatMap sqI
def frI (R:List (Bool×Bool)) (x:Nat):Nat:=x+((R.drop x).takeWhile (·.2)).length
def bkI (R:List (Bool×Bool)) (y:Nat):Nat:=y - ((R.take y).reverse.takeWhile (·.2)).length
def sgF (R:List (Bool×Bool)) (p q:Nat):List (Nat×Nat):=if ((R.take q).drop p).any (·.1)=true then [(frI R p,bkI R q)] else []
def Q9g (R:List (Bool×Bool)):Nat→List Nat→List (Nat×Nat)
 | _,[]=>[]
 | p,q::cs=>sgF R p q++Q9g R q cs
theorem X2r (f g:List Tk):sqF (f++g)=sqF f++sqF g:=by simp [sqF]
theorem Q8w (x:Tk):sqF [x]=sqI x:=by simp [sqF]
theorem Z6w (x:Tk):(sqI x).length=wdI x:=by
 unfold sqI wdI;split
 ·rw [bA];simp
 ·split<;>rfl
theorem Q8v:∀ f:List Tk,(sqF f).length=X3 f
 | []=>rfl
 | x::f=>by
   rw [show x::f=[x]++f from rfl,X2r,Q8w,aA,Z6w,Q8v f,Q1i];simp [X3]
theorem U2i (x:Tk) (a p q:Nat):sqF (pcI x a p q)=((sqI x).take (q - a)).drop (p - a):=by
 unfold pcI;by_cases hx:x.k=1
 ·rw [aE yY];have e:sqI x=x.t.data.toList.map (fun c=>(!Q3e c,Q3e c)):=(by unfold sqI;rw [aK hx]);have hl:x.t.data.toList.length=x.t.size:=yW;rw [e];by_cases h:max p a - a < min q (a+x.t.size) - a
  ·rw [aK h,Q8w];unfold sqI;rw [aK rfl];show (x.t.extract (max p a - a) (min q (a+x.t.size) - a)).data.toList.map _=_;rw [cX,dG,←List.map_take,←List.map_drop];congr 1;rw [cU,eT];rw [show p - a=max p a - a by omega];by_cases h2:q≤a+x.t.size
   ·rw [show min q (a+x.t.size) - a=q - a by omega]
   ·rw [show min q (a+x.t.size) - a=x.t.size by omega];rw [bP (by rw [bM,hl];omega),bP (by rw [bM,hl];omega)]
  ·rw [aE h];rw [dI (by rw [bG,bA,hl];omega)];rfl
 ·rw [aK hx];obtain ⟨c,hc⟩:∃ c,sqI x=[c]:=by
   unfold sqI;rw [aE hx];split<;>exact ⟨_,rfl⟩
  by_cases h:p≤a∧a < q
  ·rw [aK h,Q8w,hc,show q - a=(q - a - 1)+1 by omega,show p - a=0 by omega];simp
  ·rw [aE h,hc];by_cases h2:a < q
   ·rw [show p - a=(p - a - 1)+1 by omega,show q - a=(q - a - 1)+1 by omega];simp [sqF]
   ·rw [show q - a=0 by omega];simp [sqF]
theorem Z3j (p q:Nat):∀ (f:List Tk) (a:Nat),sqF (slI f a p q)=((sqF f).take (q - a)).drop (p - a)
 | [],a=>by simp [slI,sqF]
 | x::f,a=>by
   rw [slI,X2r,U2i,Z3j p q f,show x::f=[x]++f from rfl,X2r [x] f,Q8w,Y3r,Z6w]
theorem V7h (x:Tk):(byI x).any (fun c=>!Q3e c)=(sqI x).any (·.1):=by
 unfold byI sqI;split
 ·rw [List.any_map];rfl
 ·split
  ·rfl
  ·rfl
theorem Y4u:∀ f:List Tk,(plI f).any (fun c=>!Q3e c)=(sqF f).any (·.1)
 | []=>rfl
 | x::f=>by
   rw [show x::f=[x]++f from rfl,Q8p,X2r,List.any_append,List.any_append,Y4u f,Q8w,←V7h];congr 2;simp [plI]
theorem X3a {l:List UInt8} {x y:Nat} (h:V0z l x y):x < y↔l.any (fun c=>!Q3e c)=true:=by
 constructor
 ·intro hxy;rcases h with ⟨rfl,rfl,_⟩ | ⟨h1,h2,h3,_⟩
  ·omega
  ·have hx:x < l.length:=yY;have h9:=h3 _ (aF hx);rw [List.any_eq_true];refine ⟨l[x],aL hx,?_⟩;unfold Q3e;simp [h9]
 ·intro ha;rw [List.any_eq_true] at ha;obtain ⟨c,hc,h9⟩:=ha;unfold Q3e at h9;rcases h with ⟨rfl,rfl,h3⟩ | ⟨h1,_⟩
  ·exfalso;obtain ⟨j,hj⟩:=fT.1 hc;have:=h3 j c hj;simp [this] at h9
  ·exact h1
theorem U2h (x:Tk):∀ c∈sqI x,c.1=true→c.2=false:=by
 unfold sqI;intro c hc h;split at hc
 ·obtain ⟨b,_,rfl⟩:=cF.1 hc;simpa using h
 ·split at hc
  ·rw [aJ.1 hc]
  ·rw [aJ.1 hc]
theorem V5s (f:List Tk):∀ c∈sqF f,c.1=true→c.2=false:=by
 intro c hc;obtain ⟨x,_,hx⟩:=dA.1 hc;exact U2h x c hx
/-! ### The ends of a segment -/
theorem Y7o (R:List (Bool×Bool)) (x:Nat) (h:x < R.length) (hs:R[x].2=true):frI R x=frI R (x+1):=by
 unfold frI;rw [aQ h,dT,aK hs,aG];omega
theorem X1m (R:List (Bool×Bool)) (x:Nat) (h:x < R.length) (hs:R[x].2=false):frI R x=x:=by
 unfold frI;rw [aQ h,dT,aE (by simp [hs])];rfl
theorem Y6e (R:List (Bool×Bool)) (y:Nat) (h:y < R.length) (hs:R[y].2=true):bkI R (y+1)=bkI R y:=by
 unfold bkI;rw [aH h,List.reverse_append,List.reverse_singleton,dV,dT,aK hs,aG];omega
theorem X0v (R:List (Bool×Bool)) (y:Nat) (h:y < R.length) (hs:R[y].2=false):bkI R (y+1)=y+1:=by
 unfold bkI;rw [aH h,List.reverse_append,List.reverse_singleton,dV,dT,aE (by simp [hs])];rfl
theorem V2x (R:List (Bool×Bool)) (x:Nat):x≤frI R x:=by unfold frI;omega
theorem V1j (R:List (Bool×Bool)) (y:Nat):bkI R y≤y:=by unfold bkI;omega
theorem Z1p (R:List (Bool×Bool)) (x j:Nat) (hx:x≤j) (hj:j < R.length) (hs:R[j].2=false):frI R x≤j:=by
 obtain ⟨d,rfl⟩:∃ d,j=x+d:=⟨j - x,yY⟩;induction d generalizing x with
 | zero=>rw [cV] at *;rw [X1m R x hj (by simpa using hs)];exact yQ
 | succ d ih=>
   have ha:x < R.length:=yY;by_cases h2:R[x].2=true
   ·rw [Y7o R x ha h2];have e:x+1+d=x+(d+1):=yY;have:=ih (x+1) yY yY (by simp only [e];exact hs);omega
   ·rw [X1m R x ha (by simpa using h2)];omega
theorem Z0w (R:List (Bool×Bool)) (y j:Nat) (hy:j < y) (hyl:y≤R.length) (hs:(R[j]'yY).2=false):j < bkI R y:=by
 obtain ⟨d,rfl⟩:∃ d,y=j+1+d:=⟨y - j - 1,yY⟩;induction d with
 | zero=>rw [cV,X0v R j yY hs];omega
 | succ d ih=>
   have ha:j+1+d < R.length:=yY;by_cases h2:R[j+1+d].2=true
   ·rw [show j+1+(d+1)=j+1+d+1 by omega,Y6e R _ ha h2];exact ih yY yY hs
   ·rw [show j+1+(d+1)=j+1+d+1 by omega,X0v R _ ha (by simpa using h2)];omega
theorem Y7n (R:List (Bool×Bool)) (x j:Nat) (h1:x≤j) (h2:j < frI R x):∃ h:j < R.length,R[j].2=true:=by
 by_cases hj:j < R.length
 ·refine ⟨hj,?_⟩;cases h:R[j].2 with
  | true=>rfl
  | false=>have:=Z1p R x j h1 hj h;omega
 ·exfalso;unfold frI at h2;have:=(List.takeWhile_sublist (fun c:Bool×Bool=>c.2) (l:=R.drop x)).length_le;rw [bM] at this;omega
theorem Y6d (R:List (Bool×Bool)) (y j:Nat) (hyl:y≤R.length) (h1:bkI R y≤j) (h2:j < y):(R[j]'yY).2=true:=by
 cases h:(R[j]'yY).2 with
 | true=>rfl
 | false=>have:=Z0w R y j h2 hyl h;omega
theorem Z4f (R:List (Bool×Bool)) (p q:Nat) (hR:∀ c∈R,c.1=true→c.2=false) (ha:((R.take q).drop p).any (·.1)=true):∃ j,∃ h:j < R.length,p≤j∧j < q∧R[j].1=true∧R[j].2=false:=by
 rw [List.any_eq_true] at ha;obtain ⟨c,hc,h1⟩:=ha;obtain ⟨i,hi⟩:=fT.1 hc;rw [List.getElem?_drop,List.getElem?_take] at hi;split at hi
 ·obtain ⟨hl,hx⟩:=aM.1 hi;refine ⟨p+i,hl,yY,by assumption,by rw [hx];exact h1,?_⟩;exact hR _ (aL hl) (by rw [hx];exact h1)
 ·cases hi
theorem V9b (R:List (Bool×Bool)) (p q j:Nat) (hj:j < R.length) (h1:p≤j) (h2:j < q) (h3:R[j].1=true):((R.take q).drop p).any (·.1)=true:=by
 rw [List.any_eq_true];refine ⟨R[j],?_,h3⟩;refine fT.2 ⟨j - p,?_⟩;rw [List.getElem?_drop,List.getElem?_take,aK yY,show p+(j - p)=j by omega];exact aF hj
theorem V2w (R:List (Bool×Bool)) (x j:Nat) (hx:x≤j) (hj:j < R.length) (hs:R[j].2=false):∃ k,frI R x=k∧∃ h:k < R.length,R[k].2=false:=by
 obtain ⟨d,rfl⟩:∃ d,j=x+d:=⟨j - x,yY⟩;induction d generalizing x with
 | zero=>exact ⟨x,X1m R x yY (by simpa using hs),yY,by simpa using hs⟩
 | succ d ih=>
   have ha:x < R.length:=yY;by_cases h2:R[x].2=true
   ·rw [Y7o R x ha h2];have e:x+1+d=x+(d+1):=yY;exact ih (x+1) yY yY (by simp only [e];exact hs)
   ·exact ⟨x,X1m R x ha (by simpa using h2),ha,by simpa using h2⟩
theorem V1i (R:List (Bool×Bool)) (y j:Nat) (hy:j < y) (hyl:y≤R.length) (hs:(R[j]'yY).2=false):∃ k,bkI R y=k+1∧∃ h:k < R.length,R[k].2=false:=by
 obtain ⟨d,rfl⟩:∃ d,y=j+1+d:=⟨y - j - 1,yY⟩;induction d with
 | zero=>exact ⟨j,by rw [cV];exact X0v R j yY hs,yY,hs⟩
 | succ d ih=>
   have ha:j+1+d < R.length:=yY;by_cases h2:R[j+1+d].2=true
   ·rw [show j+1+(d+1)=j+1+d+1 by omega,Y6e R _ ha h2];exact ih yY yY hs
   ·exact ⟨j+1+d,by rw [show j+1+(d+1)=j+1+d+1 by omega];exact X0v R _ ha (by simpa using h2),ha,by simpa using h2⟩
/-! ### The cuts -/
def AscF:Nat→List Nat→Nat→Prop
 | p,[],n=>p=n
 | p,c::cs,n=>p≤c∧AscF c cs n
theorem AscF.le:∀ {cs:List Nat} {p n:Nat},AscF p cs n→p≤n
 | [],_,_,h=>fP h
 | c::cs,p,n,h=>aP h.1 (AscF.le h.2)
theorem AscF.at_:∀ {cs:List Nat} {p n:Nat} (k:Nat) (hk:k < cs.length),AscF p cs n→(p::cs).getD k 0≤cs[k]∧cs[k]≤n
 | c::cs,p,n,0,_,h=>⟨by simpa using h.1,by simpa using AscF.le h.2⟩
 | c::cs,p,n,k+1,hk,h=>by
   have:=AscF.at_ (cs:=cs) (p:=c) k (by simpa using hk) h.2;simpa using this
theorem Y2s (R:List (Bool×Bool)):∀ (cs:List Nat) (p k:Nat) (hk:k < cs.length),Q9g R p (cs.take (k+1))=Q9g R p (cs.take k)++sgF R ((p::cs).getD k 0) cs[k]
 | c::cs,p,0,_=>by simp [Q9g]
 | c::cs,p,k+1,hk=>by
   have h:=Y2s R cs c k (by simpa using hk);rw [fI,Q9g,h,fI,Q9g,aZ];simp
theorem V9t (R:List (Bool×Bool)) (p q:Nat):(sgF R p q).length≤1:=by unfold sgF;split<;>simp
theorem Y9m (R:List (Bool×Bool)):∀ (cs:List Nat) (p:Nat),(Q9g R p cs).length≤cs.length
 | [],_=>yQ
 | c::cs,p=>by
   rw [Q9g,aA,aG];have:=Y9m R cs c;have:=V9t R p c;omega
theorem V1q:∀ ps:List (Bool×Bool),clP ps≤ps.length
 | []=>yQ
 | x::ps=>by
   rw [clP,aG];have:=V1q ps;split<;>omega
theorem Y2h:∀ (ps:List (Bool×Bool)) (o:Nat),K8 ps o≤ps.length
 | ps,0=>by cases ps<;>exact V1q _
 | [],_+1=>yQ
 | x::ps,o+1=>by
   rw [K8,aG];have:=Y2h ps (if x.1=true then o else o+1);omega
theorem X5k (ps:List (Bool×Bool)):K8 ps 0=clP ps:=by cases ps<;>rfl
theorem X3l:∀ (ps:List (Bool×Bool)) (o:Nat),o≤Q5g ps→clP ps≤K8 ps o
 | [],o,_=>by simp [clP]
 | x::ps,0,_=>by rw [X5k];exact yQ
 | x::ps,o+1,h=>by
   rw [Y1m] at h;rw [K8,clP];split
   ·by_cases hx:x.1=true
    ·rw [aK hx] at h ⊢;have:=X3l ps o yY;omega
    ·rw [aE hx] at h ⊢;have:=X3l ps (o+1) yY;omega
   ·omega
theorem Q7k:∀ (ps:List (Bool×Bool)) (a b:Nat),a≤b→b≤Q5g ps→K8 ps a≤K8 ps b
 | ps,0,b,_,hb=>by rw [X5k];exact X3l ps b hb
 | [],a+1,b,h,hb=>by simp [Q5g] at hb;omega
 | x::ps,a+1,0,h,_=>yY
 | x::ps,a+1,b+1,h,hb=>by
   rw [Y1m] at hb;rw [K8,K8];by_cases hx:x.1=true
   ·rw [aK hx] at hb;rw [aK hx,aK hx];have:=Q7k ps a b yY yY;omega
   ·rw [aE hx] at hb;rw [aE hx,aE hx];have:=Q7k ps (a+1) (b+1) yY yY;omega
def Q4d (f:List Tk) (bl:List Nat):List Nat:=bl.map (K8 (O9 f))++[X3 f]
theorem Y6v (f:List Tk):∀ (bl:List Nat) (a:Nat),(a::bl).Pairwise (·≤·)→(∀ b∈a::bl,b≤(plI f).length)→AscF (K8 (O9 f) a) (Q4d f bl) (X3 f)
 | [],a,_,_=>⟨by have:=Y2h (O9 f) a;rw [Q1l] at this;exact this,rfl⟩
 | b::bl,a,h,hb=>by
   refine ⟨?_,?_⟩
   ·refine Q7k _ _ _ ?_ ?_
    ·exact (dP.1 h).1 b yW
    ·rw [X7d];exact hb b yW
   ·exact Y6v f bl b (dP.1 h).2 (fun c hc=>hb c (by simp [hc]))
theorem AscF.zero {cs:List Nat} {p n:Nat} (h:AscF p cs n) (hc:cs≠[]):AscF 0 cs n:=by
 cases cs with
 | nil=>exact absurd rfl hc
 | cons c cs=>exact ⟨aO _,h.2⟩
/-! ### What the segments cover -/
def V0x (R:List (Bool×Bool)):Nat→List (Nat×Nat)→Prop
 | a0,[]=>∀ j,∀ h:j < R.length,a0≤j→R[j].1=false
 | a0,r::l=>a0≤r.1∧r.1 < r.2∧r.2≤R.length∧(∀ j,∀ h:j < R.length,a0≤j→j < r.1→R[j].1=false)∧(∃ h:r.1 < R.length,R[r.1].2=false)∧(∃ h:r.2 - 1 < R.length,R[r.2 - 1].2=false)∧(∃ j,∃ h:j < R.length,r.1≤j∧j < r.2∧R[j].1=true)∧V0x R r.2 l
theorem Y5e (R:List (Bool×Bool)) (hR:∀ c∈R,c.1=true→c.2=false):∀ (cs:List Nat) (a0 p:Nat),AscF p cs R.length→a0≤p→(∀ j,∀ h:j < R.length,a0≤j→j < p→R[j].1=false)→V0x R a0 (Q9g R p cs)
 | [],a0,p,hA,h0,hg=>fun j h hj=>hg j h hj (by have:p=R.length:=hA;omega)
 | q::cs,a0,p,hA,h0,hg=>by
   have hq:=hA.2.le;have hd:=hA.1;rw [Q9g];unfold sgF;by_cases ha:((R.take q).drop p).any (·.1)=true
   ·rw [aK ha,dV];obtain ⟨j,hj,h1,h2,h3,h4⟩:=Z4f R p q hR ha;have e1:=V2x R p;have e2:=Z1p R p j h1 hj h4;have e3:=Z0w R q j h2 hq h4;have e4:=V1j R q;refine ⟨by show a0≤frI R p;omega,by show frI R p < bkI R q;omega,by show bkI R q≤_;omega,fun i hi i1 i2=>?_,?_,?_,⟨j,hj,e2,e3,h3⟩,?_⟩
    ·by_cases hip:i < p
     ·exact hg i hi i1 hip
     ·obtain ⟨_,hs⟩:=Y7n R p i yY i2;cases h9:R[i].1 with
      | false=>rfl
      | true=>rw [hR _ (aL hi) h9] at hs;cases hs
    ·obtain ⟨k,hk,hb,hc⟩:=V2w R p j h1 hj h4;show ∃ h:frI R p < R.length,R[frI R p].2=false;rw [hk];exact ⟨hb,hc⟩
    ·obtain ⟨k,hk,hb,hc⟩:=V1i R q j h2 hq h4;show ∃ h:bkI R q - 1 < R.length,R[bkI R q - 1].2=false;rw [hk];exact ⟨hb,hc⟩
    ·refine Y5e R hR cs (bkI R q) q hA.2 e4 (fun i hi i1 i2=>?_);have hs:=Y6d R q i hq i1 i2;cases h9:R[i].1 with
     | false=>rfl
     | true=>rw [hR _ (aL hi) h9] at hs;cases hs
   ·rw [aE ha,bJ];refine Y5e R hR cs a0 q hA.2 yY (fun i hi i1 i2=>?_);by_cases hip:i < p
    ·exact hg i hi i1 hip
    ·cases h9:R[i].1 with
     | false=>rfl
     | true=>exact absurd (V9b R p q i hi yY i2 h9) ha
def bnF (rs:List Ru) (s:fY):List Nat:=if 1024 < s.size then [] else (List.range s.size).filter fun k=>decide (0 < k) && U6 rs s k
theorem Z0y (rs:List Ru) (s:fY):S5 rs s=(bnF rs s).map fun (k:Nat)=>(k:Int):=by
 unfold S5 bnF;split<;>rfl
theorem V7c (rs:List Ru) (s:fY):(0::bnF rs s).Pairwise (·≤·):=by
 refine dP.2 ⟨fun _ _=>aO _,?_⟩;unfold bnF;split
 ·exact List.Pairwise.nil
 ·exact ((List.pairwise_lt_range (n:=s.size)).filter _).imp fun h=>cS h
theorem V1l (rs:List Ru) (s:fY):∀ b∈bnF rs s,b < s.size:=by
 unfold bnF;intro b hb;split at hb
 ·simp at hb
 ·exact List.mem_range.1 (List.mem_filter.1 hb).1
theorem V7d (rs:List Ru) (s:fY):(bnF rs s).length≤s.size:=by
 unfold bnF;split
 ·simp
 ·exact aP (List.length_filter_le _ _) yW
def E5 (rs:List Ru) (f:List Tk):List (Nat×Nat):=Q9g (sqF f) 0 (Q4d f (bnF rs (plS f)))
theorem Z4q (rs:List Ru) (f:List Tk):AscF 0 (Q4d f (bnF rs (plS f))) (X3 f):=by
 have hs:=Q7j f;have h:=Y6v f (bnF rs (plS f)) 0 (V7c _ _) (fun b hb=>by
  rcases aU.1 hb with rfl | hb
  ·exact aO _
  ·have:=V1l _ _ b hb;omega)
 exact h.zero (by unfold Q4d;simp)
theorem V1x (f:List Tk) (bn:List Nat):(Q4d f bn).length=bn.length+1:=by unfold Q4d;simp
theorem V7k (f:List Tk) (bn:List Nat) (k:Nat) (h:k < bn.length):(Q4d f bn)[k]? =some (K8 (O9 f) bn[k]):=by
 unfold Q4d;rw [dJ (by simpa using h),cE,aF h];rfl
theorem V1w (f:List Tk) (bn:List Nat):(Q4d f bn)[bn.length]? =some (X3 f):=by
 unfold Q4d;rw [bF yW];simp
theorem Z2l (f:List Tk) (b:Nat) (h:b≤(plI f).length):X8y f (b:Int)=(K8 (O9 f) b:Nat):=by
 unfold X8y;rw [aE yY,cH]
theorem V9u (R:List (Bool×Bool)) (p q:Nat) (hR:∀ c∈R,c.1=true→c.2=false) (hq:q≤R.length) (ha:((R.take q).drop p).any (·.1)=true):sgF R p q=[(frI R p,bkI R q)]∧p≤frI R p∧frI R p < bkI R q∧bkI R q≤q∧(∃ h:frI R p < R.length,R[frI R p].2=false)∧(∃ h:bkI R q - 1 < R.length,R[bkI R q - 1].2=false):=by
 obtain ⟨j,hj,h1,h2,h3,h4⟩:=Z4f R p q hR ha;have e1:=V2x R p;have e2:=Z1p R p j h1 hj h4;have e3:=Z0w R q j h2 hq h4;have e4:=V1j R q;refine ⟨by unfold sgF;rw [aK ha],e1,yY,e4,?_,?_⟩
 ·obtain ⟨k,hk,hb,hc⟩:=V2w R p j h1 hj h4;rw [hk];exact ⟨hb,hc⟩
 ·obtain ⟨k,hk,hb,hc⟩:=V1i R q j h2 hq h4;rw [hk];exact ⟨hb,hc⟩
theorem U2e (R:List (Bool×Bool)) (p q:Nat) (ha:((R.take q).drop p).any (·.1)≠true):sgF R p q=[]:=by unfold sgF;rw [aE ha]
theorem V2y (R:List (Bool×Bool)) (x j:Nat) (h1:x≤j) (h2:j < frI R x):(R.map (·.2))[j]? =some true:=by
 obtain ⟨h,hs⟩:=Y7n R x j h1 h2;rw [cE,aF h];simp [hs]
theorem V1k (R:List (Bool×Bool)) (y j:Nat) (hyl:y≤R.length) (h1:bkI R y≤j) (h2:j < y):(R.map (·.2))[j]? =some true:=by
 have hs:=Y6d R y j hyl h1 h2;rw [cE,aF yY];simp [hs]
structure SegAt (S:List Bool) (p q x y:Nat):Prop where
 px:p≤x
 xy:x < y
 yq:y≤q
 lead:∀ j,p≤j→j < x→S[j]? =some true
 atx:S[x]? =some false
 tail:∀ j,y≤j→j < q→S[j]? =some true
 aty:S[y - 1]? =some false
theorem U3y (f:List Tk) (p q:Nat) (hq:q≤X3 f) (ha:(plI (slI f 0 p q)).any (fun c=>!Q3e c)=true):∃ x y,sgF (sqF f) p q=[(x,y)]∧SegAt ((sqF f).map (·.2)) p q x y:=by
 rw [Y4u,Z3j,dH,dH] at ha;have hb:q≤(sqF f).length:=(by rw [Q8v];exact hq);obtain ⟨h0,h1,h2,h3,⟨h4,h5⟩,⟨h6,h7⟩⟩:=V9u (sqF f) p q (V5s f) hb ha;refine ⟨_,_,h0,h1,h2,h3,fun j a b=>V2y _ p j a b,?_,fun j a b=>V1k _ q j hb a b,?_⟩
 ·rw [cE,aF h4,Option.map_some,h5]
 ·rw [cE,aF h6,Option.map_some,h7]
theorem U3z (f:List Tk) (p q:Nat) (ha:(plI (slI f 0 p q)).any (fun c=>!Q3e c)≠true):sgF (sqF f) p q=[]:=by
 rw [Y4u,Z3j,dH,dH] at ha;exact U2e _ _ _ ha
theorem V3g (l rest:List UInt8) (c:UInt8) (h:∀ b∈l,b≠c):Lib.indexByte (l++c::rest) c=(l.length:Int):=by
 induction l with
 | nil=>rw [bJ,Lib.indexByte,aK yW];rfl
 | cons b l ih=>
   have hb:(b==c)=false:=(by simpa using h b yW);have e:=ih (fun x hx=>h x (by simp [hx]));rw [aR,Lib.indexByte,aE (by simp [hb]),e,aE (by rw [cM];omega),aG];omega
theorem M4 (p r:List UInt8):Lib.hasPrefix (p++r) p=true:=by
 unfold Lib.hasPrefix;rw [eI];exact List.prefix_append p r
theorem Q1m (c d:UInt8) (s p:List UInt8) (h:c≠d):Lib.hasPrefix (c::s) (d::p)=false:=by
 unfold Lib.hasPrefix;rw [List.isPrefixOf];have:(d==c)=false:=(by simpa using fun e:d=c=>h e.symm);rw [this,Bool.false_and]
theorem Z0k (l p:List UInt8) (c d:UInt8):Lib.hasSuffix (l++[c]) [d]=(d==c):=by
 unfold Lib.hasSuffix;rw [List.isSuffixOf];simp [List.isPrefixOf]
theorem L3 (l:List UInt8) (h:U3 l=true):∃ c r,l=c::r∧S6 c=true∧r.length≤23∧r.all Q0c=true:=by
 cases l with
 | nil=>simp [U3] at h
 | cons c r=>
   simp [U3] at h;exact ⟨c,r,rfl,h.1.2,yY,by simpa using h.2⟩
theorem X8n (l:List UInt8) (h:U3 l=true):∀ b∈l,(97≤b.toNat∧b.toNat≤122)∨(48≤b.toNat∧b.toNat≤57)∨b.toNat=45:=by
 obtain ⟨c,r,rfl,h1,_,h3⟩:=L3 l h;intro b hb;rcases aU.1 hb with rfl | hb
 ·exact Or.inl (by simpa [S6] using h1)
 ·have:=List.all_eq_true.1 h3 b hb;simpa [Q0c] using this
theorem I4 (l:List UInt8) (h:U3 l=true) (c:UInt8) (hc:c=125∨c=62∨c=47∨c=60∨c=123∨c=32):∀ b∈l,b≠c:=by
 intro b hb e;have hh:=X8n l h b hb;rw [e] at hh;rcases hc with rfl | rfl | rfl | rfl | rfl | rfl<;>revert hh<;>decide
theorem J0 (l:List UInt8) (h:N9 l=true):l.length≤64∧l.getLastD 47≠47∧(∀ b∈l,Y6o b=true)∧U3 (Z0 l)=true∧((Z0 l).length=l.length∨(Z0 l).length+1 < l.length):=by
 unfold N9 at h;simp only [dC,fL,cG,fR,aI] at h;obtain ⟨⟨⟨⟨h1,h2⟩,h3⟩,h4⟩,h5⟩:=h;exact ⟨h1,h2,fun b hb=>List.all_eq_true.1 h3 b hb,h4,h5⟩
theorem X5x (b:UInt8) (h:Y6o b=true):b≠60∧b≠62∧b≠123∧b≠125:=by
 unfold Y6o at h;simp only [dC,fR,aI] at h;exact ⟨h.1.1.1.2,h.1.1.2,h.1.2,h.2⟩
theorem Q1c (l:List UInt8) (h:N9 l=true):(∀ b∈l,b≠62)∧(∀ b∈l,b≠60):=
 ⟨fun b hb=>(X5x b ((J0 l h).2.2.1 b hb)).2.1,fun b hb=>(X5x b ((J0 l h).2.2.1 b hb)).1⟩
theorem X2u (l:List UInt8):∃ r,l=Z0 l++r:=⟨l.dropWhile (fun c=>c != 32),(List.takeWhile_append_dropWhile).symm⟩
theorem G3 (l:List UInt8) (h:N9 l=true):∃ c r,l=c::r∧S6 c=true:=by
 obtain ⟨_,_,_,h4,_⟩:=J0 l h;obtain ⟨c,r,hc,hh,_⟩:=L3 _ h4;obtain ⟨r2,h2⟩:=X2u l;rw [hc] at h2;exact ⟨c,r++r2,h2,hh⟩
theorem Q8e (l:List UInt8) (h:N9 l=true):∃ r c,l=r++[c]∧c≠47:=by
 obtain ⟨_,h2,_⟩:=J0 l h;rcases bS l with rfl | ⟨r,c,rfl⟩
 ·exact absurd rfl h2
 ·rw [bN] at h2 ⊢;exact ⟨r,c,rfl,by simpa using h2⟩
theorem T8 (c:UInt8) (h:S6 c=true) (d:UInt8) (hd:d=47∨d=123∨d=33):c≠d:=by
 intro e;rw [e] at h;rcases hd with rfl | rfl | rfl<;>revert h<;>decide
theorem Y5o (p:UInt8→Bool):∀ l:List UInt8,(∀ b∈l,p b=true)→l.takeWhile p=l
 | [],_=>rfl
 | c::l,h=>by rw [dT,aK (h c yW),Y5o p l (fun b hb=>h b (by simp [hb]))]
theorem X4q (l:List UInt8) (h:U3 l=true):Z0 l=l:=by
 refine Y5o _ l fun b hb=>?_;have:=I4 l h 32 yW b hb;simpa using this
theorem X9r (n rest:List UInt8) (h:U3 n=true):Lib.indexByte (123::n++125::rest) 125=((n.length+1:Nat):Int):=by
 have e:=V3g (123::n) rest 125 (fun b hb=>by
  rcases aU.1 hb with rfl | hb
  ·decide
  ·exact I4 n h 125 yW b hb)
 exact e
theorem Y5j (t rest:List UInt8) (h:∀ b∈t,b≠62):Lib.indexByte (60::t++62::rest) 62=((t.length+1:Nat):Int):=by
 have e:=V3g (60::t) rest 62 (fun b hb=>by
  rcases aU.1 hb with rfl | hb
  ·decide
  ·exact h b hb)
 exact e
def BSt (u its:List Tk) (tx:fY):Prop:=Y3i its∧Q4 u=its++(if tx.size=0 then [] else [⟨1,tx,0⟩])
theorem BSt.nil:BSt [] [] ⟨#[]⟩:=⟨fun y hy=>by simp at hy,rfl⟩
theorem Y8j (l:List Tk) (x:Tk) (h:x.k≠1):Y3i (l++[x]):=fun y hy=>by
 rw [List.getLast?_append] at hy;simp at hy;rw [←hy];exact h
theorem BSt.ch {u its:List Tk} {tx:fY} (h:BSt u its tx) (c:UInt8):BSt (u++[chI c]) its (tx++⟨#[c]⟩):=by
 refine ⟨h.1,?_⟩;have hs:(tx++⟨#[c]⟩).size≠0:=(by rw [bD];show tx.size+1≠0;omega);rw [M9,h.2,aE hs];by_cases h0:tx.size=0
 ·rw [aK h0,aX,Q0t h0,Q5j];exact Q7w its ⟨#[c]⟩ 0 h.1 (by show (1:Nat)≠0;decide)
 ·rw [aE h0];exact K5 its ⟨1,tx,0⟩ (chI c) rfl (by show (1:Nat)≠0;decide) rfl
theorem BSt.item {u its:List Tk} {tx:fY} (h:BSt u its tx) (x:Tk) (hx:x.k≠1):BSt (u++[x]) ((its++(if tx.size=0 then [] else [⟨1,tx,0⟩]))++[x]) ⟨#[]⟩:=by
 refine ⟨Y8j _ _ hx,?_⟩;rw [M9,h.2,D9 _ _ hx];exact (aX _).symm
theorem BSt.len {u its:List Tk} {tx:fY} (h:BSt u its tx):its.length+(if tx.size=0 then 0 else 1)≤u.length:=by
 have h1:=N0 u;rw [h.2,aA] at h1;split at h1
 ·rename_i h0;rw [aK h0];exact h1
 ·rename_i h0;rw [aE h0];exact h1
theorem BSt.text {u its:List Tk} {tx:fY} (h:BSt u its tx):tx.size≤X3 u:=by
 have h1:=Q8r u;have h2:=congrArg List.length h1;rw [Q1l,Q1l,h.2,Q1i] at h2;split at h2
 ·omega
 ·have:X3 [(⟨1,tx,0⟩:Tk)]=tx.size:=by
   show wdI ⟨1,tx,0⟩+0=_;unfold wdI;rw [aK rfl];rfl
  omega
/-! ### Cuts -/
theorem F9 (a b:Els):Q2 (a++b)=Q2 a++Q2 b:=by simp [Q2]
theorem M0 (a b:Els):X0 (a++b)=X0 a++X0 b:=by simp [X0]
theorem Q6p:∀ (a b:Els) (p e:Nat),Q4c (a++b) p e=Q4c a p e++Q4c b (p+(Q2 a).length) (H9 a p e)
 | [],b,p,e=>by simp [Q4c,H9,Q2]
 | (r,none)::a,b,p,e=>by
   rw [aR,Q4c,Q6p a b,Q4c,H9,show Q2 ((r,none)::a)=r++Q2 a from rfl,aA,dO]
 | (r,some x)::a,b,p,e=>by
   rw [aR,Q4c,Q6p a b,Q4c,H9,show Q2 ((r,some x)::a)=r++Q2 a from rfl,aA,dO,aR]
theorem X1f:∀ (a b:Els) (p e:Nat),H9 (a++b) p e=H9 b (p+(Q2 a).length) (H9 a p e)
 | [],b,p,e=>by simp [H9,Q2]
 | (r,none)::a,b,p,e=>by
   rw [aR,H9,X1f a b,H9,show Q2 ((r,none)::a)=r++Q2 a from rfl,aA,dO]
 | (r,some x)::a,b,p,e=>by
   rw [aR,H9,X1f a b,H9,show Q2 ((r,some x)::a)=r++Q2 a from rfl,aA,dO]
theorem X0y:∀ (a:Els) (p e:Nat),(Q4c a p e).length=(X0 a).length
 | [],_,_=>rfl
 | (r,none)::a,p,e=>by rw [Q4c,X0y a];rfl
 | (r,some x)::a,p,e=>by rw [Q4c,aG,X0y a];rfl
theorem V4v (ts:Els) (k:Nat) (h:k < ts.length):Q2 (ts.take (k+1))=Q2 (ts.take k)++ts[k].1:=by
 rw [aH h,F9];simp [Q2]
theorem Y2l (ts:Els) (k:Nat) (h:k < ts.length):Q2 ts=Q2 (ts.take k)++(ts[k].1++Q2 (ts.drop (k+1))):=by
 have e:ts=ts.take k++ts.drop k:=(bR k ts).symm;have e2:ts.drop k=ts[k]::ts.drop (k+1):=aQ h;have h1:Q2 ts=Q2 (ts.take k)++Q2 (ts.drop k):=by
  rw [←F9,←e]
 rw [h1,e2];rfl
/-! ### Numbers of tags -/
def B6:List Tk→Nat→List Tk→Nat×List Tk
 | [],c,op=>(c,op)
 | x::u,c,op=>if x.k=2 then B6 u (c+1) (x::op) else if x.k=4 then B6 u (c+1) op else if x.k=3 then B6 u c (op.drop 1) else B6 u c op
theorem Q4n:∀ (u v:List Tk) (c:Nat) (op:List Tk),B6 (u++v) c op=B6 v (B6 u c op).1 (B6 u c op).2
 | [],_,_,_=>rfl
 | x::u,v,c,op=>by
   rw [aR,B6,B6];split
   ·exact Q4n u v _ _
   ·split
    ·exact Q4n u v _ _
    ·split
     ·exact Q4n u v _ _
     ·exact Q4n u v _ _
theorem Q0m:∀ (u v:List Tk) (c:Nat) (op:List Tk),NumOk (u++v) c op→NumOk v (B6 u c op).1 (B6 u c op).2
 | [],_,_,_,h=>h
 | x::u,v,c,op,h=>by
   rw [aR] at h;unfold NumOk at h;rw [B6];split at h
   ·rename_i h2;rw [aK h2];exact Q0m u v _ _ h.2
   ·rename_i h2;rw [aE h2];split at h
    ·rename_i h4;rw [aK h4];exact Q0m u v _ _ h.2
    ·rename_i h4;rw [aE h4];split at h
     ·rename_i h3;rw [aK h3];obtain ⟨y,op',rfl,_,_,h⟩:=h;exact Q0m u v _ _ h
     ·rename_i h3;rw [aE h3];exact Q0m u v _ _ h
theorem Q1k:∀ (u:List Tk) (c:Nat) (op:List Tk),(B6 u c op).2.length≤op.length+u.length∧(B6 u c op).1≤c+u.length
 | [],c,op=>⟨yQ,yQ⟩
 | x::u,c,op=>by
   rw [B6,aG];split
   ·have:=Q1k u (c+1) (x::op);rw [aG] at this;omega
   ·split
    ·have:=Q1k u (c+1) op;omega
    ·split
     ·have:=Q1k u c (op.drop 1);rw [bM] at this;omega
     ·have:=Q1k u c op;omega
theorem Y8p (u:List Tk) (h:NumOk u 0 []):(B6 u 0 []).2=[]:=by
 have:=Q0m u [] 0 [] (by rw [aX];exact h);exact this
def P1 (us:List Un):List Pt:=us.flatMap fun u=>[⟨false,ofL [],ofL u.sk⟩,⟨true,ofL u.key,ofL (Q2 u.ts)⟩]
def Z4 (us:List Un):List UInt8:=us.flatMap fun u=>u.sk++Q2 u.ts
theorem V4r (a b:List Un):P1 (a++b)=P1 a++P1 b:=by simp [P1]
theorem Q7m (a b:List Un):Z4 (a++b)=Z4 a++Z4 b:=by simp [Z4]
theorem Q5t:∀ (us:List Un) (tl:List UInt8),P9 us tl=P1 us++[⟨false,ofL [],ofL tl⟩]
 | [],tl=>rfl
 | u::us,tl=>by rw [P9,Q5t us tl];rfl
theorem Q6q:∀ (us:List Un) (tl:List UInt8),O0 us tl=Z4 us++tl
 | [],tl=>rfl
 | u::us,tl=>by
   rw [O0,Q6q us tl,show Z4 (u::us)=(u.sk++Q2 u.ts)++Z4 us from rfl];simp
theorem C6 (us:List Un):(P1 us).length=2 * us.length:=by
 induction us with
 | nil=>rfl
 | cons u us ih=>rw [show P1 (u::us)=[⟨false,ofL [],ofL u.sk⟩,⟨true,ofL u.key,ofL (Q2 u.ts)⟩]++P1 us from rfl,aA,ih,aG];simp;omega
/-! ### Resource files: lines, each with its end -/
inductive RL where
 | skip (l:List UInt8)
 | unit (key:List UInt8) (ts:Els)
def E3:RL→List UInt8
 | .skip l=>l++[10]
 | .unit key ts=>key++(61::(Q2 ts++[10]))
def Q1h (c:UInt8):Bool:=decide ((97≤c.toNat∧c.toNat≤122)∨(48≤c.toNat∧c.toNat≤57)∨c.toNat=46∨c.toNat=95∨c.toNat=45)
def Q3g (c:UInt8):Bool:=c==32 || c==9
def Q6g (l:List UInt8):Bool:=match l.dropWhile Q3g with
 | []=>true
 | c::_=>c==35
def Y0i:RL→Prop
 | .skip l=>(∀ c∈l,c≠10)∧Q6g l=true
 | .unit key ts=>1≤key.length∧key.length≤64∧(∀ c∈key,Q1h c=true)∧RawOk 2 ts
def O6 (st:List Un×List UInt8):RL→List Un×List UInt8
 | .skip l=>(st.1,st.2++(l++[10]))
 | .unit key ts=>(st.1++[⟨st.2++(key++[61]),key,ts⟩],[10])
def Y4 (ls:List RL):List Un×List UInt8:=ls.foldl O6 ([],[])
def Z1 (ls:List RL):List (List UInt8):=ls.filterMap fun x=>match x with
 | .skip _=>none
 | .unit k _=>some k
theorem X4w:∀ (ls:List RL) (st:List Un×List UInt8),Z4 (ls.foldl O6 st).1++(ls.foldl O6 st).2=Z4 st.1++st.2++ls.flatMap E3
 | [],st=>by simp
 | x::ls,st=>by
   rw [bQ,X4w ls,dM];cases x with
   | skip l=>
     show Z4 st.1++(st.2++(l++[10]))++_=_++(l++[10]++_);simp
   | unit key ts=>
     show Z4 (st.1++[⟨st.2++(key++[61]),key,ts⟩])++[10]++_=_++(key++(61::(Q2 ts++[10]))++_);rw [Q7m];simp [Z4]
theorem X0l (ls:List RL):O0 (Y4 ls).1 (Y4 ls).2=ls.flatMap E3:=by
 rw [Q6q];have h:=X4w ls ([],[]);rw [show Z4 ([]:List Un)=[] from rfl,bJ,bJ] at h;exact h
def Z5:Els→Nat→Els
 | _,0=>[]
 | [],_+1=>[]
 | (r,none)::ts,p+1=>(r,none)::Z5 ts (p+1)
 | (r,some x)::ts,p+1=>(r,some x)::Z5 ts p
def U7:Els→Nat→Els
 | ts,0=>ts
 | [],_+1=>[]
 | (_,none)::ts,p+1=>U7 ts (p+1)
 | (_,some _)::ts,p+1=>U7 ts p
theorem O4:∀ (ts:Els) (p:Nat),Z5 ts p++U7 ts p=ts
 | ts,0=>by cases ts<;>rfl
 | [],_+1=>rfl
 | (r,none)::ts,p+1=>by rw [Z5,U7,aR,O4 ts (p+1)]
 | (r,some x)::ts,p+1=>by rw [Z5,U7,aR,O4 ts p]
theorem Q8k:∀ (ts:Els) (p:Nat),X0 (Z5 ts p)=(X0 ts).take p
 | ts,0=>by cases ts<;>simp [Z5,X0]
 | [],_+1=>rfl
 | (r,none)::ts,p+1=>by rw [Z5];exact Q8k ts (p+1)
 | (r,some x)::ts,p+1=>by
   rw [Z5,show X0 ((r,some x)::Z5 ts p)=x::X0 (Z5 ts p) from rfl,Q8k ts p,show X0 ((r,some x)::ts)=x::X0 ts from rfl,fI]
theorem Q2c:∀ (ts:Els) (p:Nat),X0 (U7 ts p)=(X0 ts).drop p
 | ts,0=>by cases ts<;>rfl
 | [],_+1=>rfl
 | (r,none)::ts,p+1=>by rw [U7];exact Q2c ts (p+1)
 | (r,some x)::ts,p+1=>by
   rw [U7,Q2c ts p,show X0 ((r,some x)::ts)=x::X0 ts from rfl,List.drop_succ_cons]
theorem Q0g:∀ (ts:Els) (a b:Nat),U7 (U7 ts a) b=U7 ts (a+b)
 | ts,0,b=>by
   rw [bI];cases ts<;>rfl
 | [],a+1,b=>by
   rw [show a+1+b=(a+b)+1 by omega];cases b<;>rfl
 | (r,none)::ts,a+1,b=>by
   rw [U7,Q0g ts (a+1) b,show a+1+b=(a+b)+1 by omega,U7]
 | (r,some x)::ts,a+1,b=>by
   rw [U7,Q0g ts a b,show a+1+b=(a+b)+1 by omega,U7]
def Z0u (ts:Els):List Nat:=Q4c ts 0 0++[H9 ts 0 0]
theorem Y3s:∀ (ts:Els) (p at_ b:Nat),p≤(X0 ts).length→(∀ q,p=q+1→True)→(Q4c ts at_ b++[H9 ts at_ b])[p]? =some (if p=0 then b else at_+(Q2 (Z5 ts p)).length)
 | [],p,at_,b,h,_=>by
   have:p=0:=(by simpa [X0] using h);subst this;rfl
 | (r,none)::ts,0,at_,b,h,_=>by
   rw [Q4c,H9];exact Y3s ts 0 _ b (aO _) (fun _ _=>trivial)
 | (r,none)::ts,p+1,at_,b,h,_=>by
   rw [Q4c,H9,Y3s ts (p+1) (at_+r.length) b h (fun _ _=>trivial),aE yY,aE yY,Z5,show Q2 ((r,none)::Z5 ts (p+1))=r++Q2 (Z5 ts (p+1)) from rfl,aA,dO]
 | (r,some x)::ts,0,at_,b,h,_=>rfl
 | (r,some x)::ts,p+1,at_,b,h,_=>by
   rw [Q4c,H9,aR,bU,Y3s ts p (at_+r.length) (at_+r.length) (by simpa [X0] using h) (fun _ _=>trivial),aE (show ¬ p+1=0 by omega),Z5,show Q2 ((r,some x)::Z5 ts p)=r++Q2 (Z5 ts p) from rfl,aA];by_cases hp:p=0
   ·subst hp;rw [aK rfl,show Z5 ts 0=[] by cases ts<;>rfl];simp [Q2]
   ·rw [aE hp,dO]
theorem Z4e (ts:Els) (p:Nat) (h:p≤(X0 ts).length):(Z0u ts)[p]? =some (Q2 (Z5 ts p)).length:=by
 have e:=Y3s ts p 0 0 h (fun _ _=>trivial);unfold Z0u;rw [e];by_cases hp:p=0
 ·subst hp;rw [aK rfl,show Z5 ts 0=[] by cases ts<;>rfl];rfl
 ·rw [aE hp,bI]
def G6 (ts:Els):Nat→List (Nat×Nat)→List Els→Els
 | at_,r::rl,t::tg=>Z5 (U7 ts at_) (r.1 - at_)++t++G6 ts r.2 rl tg
 | at_,_,_=>U7 ts at_
theorem F4 (ts:Els) (p:Nat):Q2 ts=Q2 (Z5 ts p)++Q2 (U7 ts p):=by rw [←F9,O4]
theorem Q1q:∀ (ts:Els) (a b:Nat),Z5 ts (a+b)=Z5 ts a++Z5 (U7 ts a) b
 | ts,0,b=>by
   rw [bI];cases ts<;>rfl
 | [],a+1,b=>by
   rw [show a+1+b=(a+b)+1 by omega];cases b<;>rfl
 | (r,none)::ts,a+1,b=>by
   rw [show a+1+b=(a+b)+1 by omega,Z5,Z5,U7,aR,←Q1q ts (a+1) b,show a+1+b=a+b+1 by omega]
 | (r,some x)::ts,a+1,b=>by
   rw [show a+1+b=(a+b)+1 by omega,Z5,Z5,U7,aR,←Q1q ts a b]
theorem V9h (ts:Els) (a b:Nat) (h:a≤b):((Q2 ts).take (Q2 (Z5 ts b)).length).drop (Q2 (Z5 ts a)).length=Q2 (Z5 (U7 ts a) (b - a)):=by
 obtain ⟨d,rfl⟩:∃ d,b=a+d:=⟨b - a,yY⟩;rw [eR];rw [F4 ts (a+d),eH];rw [Q1q,F9,dR]
theorem V4u (ts:Els) (a:Nat):(Q2 ts).drop (Q2 (Z5 ts a)).length=Q2 (U7 ts a):=by
 rw [F4 ts a,dR]
instance (x:Tk):Decidable (N7 x):=by unfold N7;exact inferInstance
def numsG:List Tk→List Int→List Int
 | [],seen=>seen
 | x::u,seen=>if N7 x∧x.d∉seen then numsG u (seen++[x.d]) else numsG u seen
def Q1v (n:Nat):List Int:=(List.range n).map fun (k:Nat)=>((k+1:Nat):Int)
theorem Y1k (n:Nat):Q1v (n+1)=Q1v n++[((n+1:Nat):Int)]:=by simp [Q1v,List.range_succ]
theorem X7c (n:Nat) (d:Int):d∈Q1v n↔1≤d∧d≤n:=by
 unfold Q1v;rw [cF];constructor
 ·rintro ⟨k,hk,rfl⟩;have:=List.mem_range.1 hk;omega
 ·intro h;exact ⟨d.toNat - 1,List.mem_range.2 yY,yY⟩
theorem Q1b (n:Nat):(Q1v n).length=n:=by simp [Q1v]
theorem R1:∀ (u:List Tk) (c:Nat) (op:List Tk),NumOk u c op→(∀ y∈op,1≤y.d∧y.d≤(c:Int))→numsG u (Q1v c)=Q1v (B6 u c op).1∧(∀ x∈u,N7 x→1≤x.d∧x.d≤((B6 u c op).1:Int))∧c≤(B6 u c op).1
 | [],c,op,_,_=>⟨rfl,fun x hx=>by simp at hx,yQ⟩
 | x::u,c,op,h,ho=>by
   unfold NumOk at h;rw [B6,numsG];split at h
   ·rename_i h2;rw [aK h2,aK ⟨Or.inl h2,fun hm=>by have:=(X7c c x.d).1 hm;rw [h.1] at this;omega⟩,h.1,←Y1k];obtain ⟨e1,e2,e3⟩:=R1 u (c+1) (x::op) h.2 (fun y hy=>by
     rcases aU.1 hy with rfl | hy
     ·rw [h.1];omega
     ·have:=ho y hy;omega)
    refine ⟨e1,fun z hz ht=>?_,yY⟩;rcases aU.1 hz with rfl | hz
    ·have:=h.1;omega
    ·exact e2 z hz ht
   ·rename_i h2;rw [aE h2];split at h
    ·rename_i h4;rw [aK h4,aK ⟨Or.inr (Or.inr h4),fun hm=>by have:=(X7c c x.d).1 hm;rw [h.1] at this;omega⟩,h.1,←Y1k];obtain ⟨e1,e2,e3⟩:=R1 u (c+1) op h.2 (fun y hy=>by have:=ho y hy;omega);refine ⟨e1,fun z hz ht=>?_,yY⟩;rcases aU.1 hz with rfl | hz
     ·have:=h.1;omega
     ·exact e2 z hz ht
    ·rename_i h4;rw [aE h4];split at h
     ·rename_i h3;rw [aK h3];obtain ⟨y,op',rfl,hn,hd,h⟩:=h;have hy:=ho y yW;rw [aE (fun hh=>hh.2 ((X7c c x.d).2 (by rw [hd];exact hy)))];obtain ⟨e1,e2,e3⟩:=R1 u c op' h (fun z hz=>ho z (by simp [hz]));refine ⟨e1,fun z hz ht=>?_,e3⟩;rcases aU.1 hz with rfl | hz
      ·have e4:(B6 u c (List.drop 1 (y::op'))).1=(B6 u c op').1:=rfl;have:=hd;omega
      ·exact e2 z hz ht
     ·rename_i h3;rw [aE h3];have ha:¬ N7 x:=fun ht=>by rcases ht with a | a | a<;>contradiction
      rw [aE (fun hh=>ha hh.1)];obtain ⟨e1,e2,e3⟩:=R1 u c op h ho;refine ⟨e1,fun z hz ht=>?_,e3⟩;rcases aU.1 hz with rfl | hz
      ·exact absurd ht ha
      ·exact e2 z hz ht
theorem L4:∀ (u v:List Tk) (s:List Int),numsG (u++v) s=numsG v (numsG u s)
 | [],_,_=>rfl
 | x::u,v,s=>by
   rw [aR,numsG,numsG];split
   ·exact L4 u v _
   ·exact L4 u v _
theorem Q2z (x:Tk) (s:List Int) (hk:x.k=1):numsG [x] s=s:=by
 rw [numsG,aE (fun h=>by have:=h.1;unfold N7 at this;omega)];rfl
theorem Z2d (out:List Tk) (x:Tk) (s:List Int):numsG (X4 out x) s=numsG (out++[x]) s:=by
 by_cases hk:x.k=1
 ·rw [L4,Q2z x _ hk];by_cases h2:x.t.size=0
  ·rw [O2 out x hk h2]
  ·rcases bS out with rfl | ⟨o,y,rfl⟩
   ·rw [U2 x hk h2];exact Q2z _ _ rfl
   ·rw [bN];by_cases hy:y.k=1
    ·rw [K5 o y x hk h2 hy,L4,L4,Q2z y _ hy];exact Q2z _ _ rfl
    ·rw [E8 o y x hk h2 hy,L4];exact Q2z _ _ rfl
 ·rw [D9 out x hk]
theorem X8r:∀ (f out:List Tk) (s:List Int),numsG (f.foldl X4 out) s=numsG (out++f) s
 | [],out,s=>by simp
 | x::f,out,s=>by
   rw [bQ,X8r f,L4,Z2d,←L4];simp
theorem Z2c (f:List Tk) (s:List Int):numsG (Q4 f) s=numsG f s:=by
 have:=X8r f [] s;simpa [Q4] using this
def Q3c (u:List Tk):Nat→List (Nat×Nat)→List (List Tk)→List Tk
 | at_,r::rl,t::tg=>(u.take r.1).drop at_++X9 t++Q3c u r.2 rl tg
 | at_,_,_=>u.drop at_
theorem Q8j (fmt:Int) (ts:Els):∀ (rl:List (Nat×Nat)) (tg:List (List Tk)) (at_:Nat),X0 (G6 ts at_ rl (tg.map (tsF fmt)))=Q3c (X0 ts) at_ rl tg
 | [],tg,at_=>by
   cases tg<;>exact Q2c ts at_
 | r::rl,[],at_=>Q2c ts at_
 | r::rl,t::tg,at_=>by
   rw [cA,G6,M0,M0,Q8j fmt ts rl tg,Q8k,Q2c,V8h,Q3c,eT]
def NumTo:List Tk→Nat→List Tk→Nat→List Tk→Prop
 | [],c,op,c',op'=>c=c'∧op=op'
 | x::u,c,op,c',op'=>
   if x.k=2 then x.d=((c+1:Nat):Int)∧NumTo u (c+1) (x::op) c' op'
   else if x.k=4 then x.d=((c+1:Nat):Int)∧NumTo u (c+1) op c' op'
   else if x.k=3 then ∃ y r,op=y::r∧J8 y.t=x.t∧x.d=y.d∧NumTo u c r c' op'
   else NumTo u c op c' op'
theorem NumTo.ok:∀ {u:List Tk} {c:Nat} {op:List Tk} {c':Nat},NumTo u c op c' []→NumOk u c op
 | [],_,_,_,h=>h.2
 | x::u,c,op,c',h=>by
   unfold NumTo at h;unfold NumOk;split at h
   ·rename_i h2;rw [aK h2];exact ⟨h.1,NumTo.ok h.2⟩
   ·rename_i h2;rw [aE h2];split at h
    ·rename_i h4;rw [aK h4];exact ⟨h.1,NumTo.ok h.2⟩
    ·rename_i h4;rw [aE h4];split at h
     ·rename_i h3;rw [aK h3];obtain ⟨y,r,a,b,d,h⟩:=h;exact ⟨y,r,a,b,d,NumTo.ok h⟩
     ·rename_i h3;rw [aE h3];exact NumTo.ok h
theorem NumTo.app:∀ {u v:List Tk} {c:Nat} {op:List Tk} {c1:Nat} {op1:List Tk} {c2:Nat} {op2:List Tk},NumTo u c op c1 op1→NumTo v c1 op1 c2 op2→NumTo (u++v) c op c2 op2
 | [],v,_,_,_,_,_,_,h,g=>by
   rw [bJ];obtain ⟨rfl,rfl⟩:=h;exact g
 | x::u,v,c,op,c1,op1,c2,op2,h,g=>by
   rw [aR];unfold NumTo at h ⊢;split at h
   ·rename_i h2;rw [aK h2];exact ⟨h.1,NumTo.app h.2 g⟩
   ·rename_i h2;rw [aE h2];split at h
    ·rename_i h4;rw [aK h4];exact ⟨h.1,NumTo.app h.2 g⟩
    ·rename_i h4;rw [aE h4];split at h
     ·rename_i h3;rw [aK h3];obtain ⟨y,r,a,b,d,h⟩:=h;exact ⟨y,r,a,b,d,NumTo.app h g⟩
     ·rename_i h3;rw [aE h3];exact NumTo.app h g
def P6 (u:List Tk):List Tk:=u.filter fun x=>decide (N7 x)
theorem NumTo.tags:∀ {u:List Tk} {c:Nat} {op:List Tk} {c':Nat} {op':List Tk},NumTo u c op c' op'↔NumTo (P6 u) c op c' op'
 | [],_,_,_,_=>Iff.rfl
 | x::u,c,op,c',op'=>by
   by_cases ht:N7 x
   ·have e:P6 (x::u)=x::P6 u:=(by unfold P6;rw [fE,aK (by simpa using ht)]);rw [e];unfold NumTo;split
    ·exact and_congr_right fun _=>NumTo.tags
    ·split
     ·exact and_congr_right fun _=>NumTo.tags
     ·split
      ·constructor
       ·rintro ⟨y,r,a,b,d,h⟩;exact ⟨y,r,a,b,d,NumTo.tags.1 h⟩
       ·rintro ⟨y,r,a,b,d,h⟩;exact ⟨y,r,a,b,d,NumTo.tags.2 h⟩
      ·exact NumTo.tags
   ·have e:P6 (x::u)=P6 u:=(by unfold P6;rw [fE,aE (by simpa using ht)]);rw [e];unfold N7 at ht;have h2:¬ x.k=2:=fun h=>ht (Or.inl h);have h3:¬ x.k=3:=fun h=>ht (Or.inr (Or.inl h));have h4:¬ x.k=4:=fun h=>ht (Or.inr (Or.inr h));rw [NumTo,aE h2,aE h4,aE h3];exact NumTo.tags
theorem NumOk.tags:∀ {u:List Tk} {c:Nat} {op:List Tk},NumOk u c op↔NumOk (P6 u) c op
 | [],_,_=>Iff.rfl
 | x::u,c,op=>by
   by_cases ht:N7 x
   ·have e:P6 (x::u)=x::P6 u:=(by unfold P6;rw [fE,aK (by simpa using ht)]);rw [e];unfold NumOk;split
    ·exact and_congr_right fun _=>NumOk.tags
    ·split
     ·exact and_congr_right fun _=>NumOk.tags
     ·split
      ·constructor
       ·rintro ⟨y,r,a,b,d,h⟩;exact ⟨y,r,a,b,d,NumOk.tags.1 h⟩
       ·rintro ⟨y,r,a,b,d,h⟩;exact ⟨y,r,a,b,d,NumOk.tags.2 h⟩
      ·exact NumOk.tags
   ·have e:P6 (x::u)=P6 u:=(by unfold P6;rw [fE,aE (by simpa using ht)]);rw [e];unfold N7 at ht;have h2:¬ x.k=2:=fun h=>ht (Or.inl h);have h3:¬ x.k=3:=fun h=>ht (Or.inr (Or.inl h));have h4:¬ x.k=4:=fun h=>ht (Or.inr (Or.inr h));rw [NumOk,aE h2,aE h4,aE h3];exact NumOk.tags
theorem Q2m (u v:List Tk):P6 (u++v)=P6 u++P6 v:=by simp [P6]
theorem Q3f (x:Tk) (h:x.k=1):P6 [x]=[]:=by
 unfold P6;rw [fE,aE (by rw [decide_eq_true_iff];unfold N7;omega)];rfl
theorem Z3r (out:List Tk) (x:Tk):P6 (X4 out x)=P6 (out++[x]):=by
 by_cases hk:x.k=1
 ·rw [Q2m,Q3f x hk,aX];by_cases h2:x.t.size=0
  ·rw [O2 out x hk h2]
  ·rcases bS out with rfl | ⟨o,y,rfl⟩
   ·rw [U2 x hk h2];exact Q3f _ rfl
   ·rw [bN];by_cases hy:y.k=1
    ·rw [K5 o y x hk h2 hy,Q2m,Q2m,Q3f y hy,Q3f _ rfl]
    ·rw [E8 o y x hk h2 hy,Q2m,Q3f _ rfl,aX]
 ·rw [D9 out x hk]
theorem X9w:∀ (f out:List Tk),P6 (f.foldl X4 out)=P6 (out++f)
 | [],out=>by simp
 | x::f,out=>by rw [bQ,X9w f,Q2m,Z3r,←Q2m];simp
theorem X0k (f:List Tk):P6 (Q4 f)=P6 f:=by
 have:=X9w f [];simpa [Q4] using this
theorem V0r (f:List Tk):P6 (X9 f)=P6 f:=by
 rw [←X0k (X9 f),X4e,X0k]
theorem Z9d (f:List Tk) (h:NumOk f 0 []):NumOk (X9 f) 0 []:=by
 rw [NumOk.tags,V0r,←NumOk.tags];exact h
/-! ### Made fragments -/
def P2 (x:Tk):Prop:=x.k=1∨(x.k=5∧U3 x.t.data.toList=true∧x.d=0)∨((x.k=2∨x.k=4)∧N9 x.t.data.toList=true∧U4 (Z0 x.t.data.toList)=false)∨(x.k=3∧U3 x.t.data.toList=true∧U4 x.t.data.toList=false)
def Z0r (y:Tk):Prop:=y.k=2∧N9 y.t.data.toList=true∧U4 (Z0 y.t.data.toList)=false
theorem Y1p (t:fY) (h:N9 t.data.toList=true) (hb:U4 (Z0 t.data.toList)=false):U3 (J8 t).data.toList=true∧U4 (J8 t).data.toList=false:=by
 rw [Q9y];exact ⟨(J0 _ h).2.2.2.1,hb⟩
theorem V4c (k:Nat) (h:k < 3):N9 (Q7g.getD k ⟨#[]⟩).data.toList=true∧U4 (Z0 (Q7g.getD k ⟨#[]⟩).data.toList)=false:=by
 rcases (show k=0∨k=1∨k=2 by omega) with rfl | rfl | rfl<;>decide
theorem Z7t (k:Nat) (h:k < 2):N9 (Q5i.getD k ⟨#[]⟩).data.toList=true∧U4 (Z0 (Q5i.getD k ⟨#[]⟩).data.toList)=false:=by
 rcases (show k=0∨k=1 by omega) with rfl | rfl<;>decide
theorem Z8l (out:List Tk) (x:Tk) (h:∀ y∈out,P2 y) (hx:P2 x):∀ y∈X4 out x,P2 y:=by
 intro z hz;by_cases hk:x.k=1
 ·by_cases h2:x.t.size=0
  ·rw [O2 out x hk h2] at hz;exact h z hz
  ·rcases bS out with rfl | ⟨o,y,rfl⟩
   ·rw [U2 x hk h2] at hz;rw [aJ.1 hz];exact Or.inl rfl
   ·rw [bN] at h hz;by_cases hy:y.k=1
    ·rw [K5 o y x hk h2 hy] at hz;rcases aS.1 hz with hz | hz
     ·exact h z (aS.2 (.inl hz))
     ·rw [aJ.1 hz];exact Or.inl rfl
    ·rw [E8 o y x hk h2 hy] at hz;rcases aS.1 hz with hz | hz
     ·exact h z hz
     ·rw [aJ.1 hz];exact Or.inl rfl
 ·rw [D9 out x hk] at hz;rcases aS.1 hz with hz | hz
  ·exact h z hz
  ·rw [aJ.1 hz];exact hx
theorem Z8k (f:List Tk) (h:∀ y∈f,P2 y):∀ y∈Q4 f,P2 y:=by
 suffices hh:∀ (g out:List Tk),(∀ y∈g,P2 y)→(∀ y∈out,P2 y)→∀ y∈g.foldl X4 out,P2 y from hh f [] h (fun y hy=>by simp at hy)
 intro g;induction g with
 | nil=>intro out _ h2;exact h2
 | cons x g ih=>intro out h1 h2;exact ih _ (fun y hy=>h1 y (by simp [hy])) (Z8l out x h2 (h1 x yW))
structure FGN (s:FS):Prop where
 items:∀ x∈s.f,P2 x
 opens : ∀ y ∈ s.op, Z0r y
 num:NumTo s.f 0 [] s.id s.op.reverse
theorem Z8i (tags:Bool) (L:List Int) (c:Int) (t:fY) (op:List Tk) (id M:Nat) (ho:∀ y∈op,Z0r y):
 ∀ x op' id' M',U5 tags L c t op id M=(x,op',id',M')→P2 x∧(∀ y∈op',Z0r y)∧NumTo [x] id op.reverse id' op'.reverse:=by
 intro x op' id' M' h;unfold U5 at h;have hb:=X5 L M 3 yX;have ha:=X5 L M 2 yX;split at h
 ·cases h
  refine ⟨Or.inr (Or.inl ⟨rfl,Z0h _ yY,rfl⟩),ho,?_⟩;unfold NumTo;rw [aE (by show ¬ (5:Int)=2;decide),aE (by show ¬ (5:Int)=4;decide),aE (by show ¬ (5:Int)=3;decide)];exact ⟨rfl,rfl⟩
 split at h
 ·cases h
  have:=Z7t (Q8 L M 2).toNat yY;refine ⟨Or.inr (Or.inr (Or.inl ⟨Or.inr rfl,this.1,this.2⟩)),ho,?_⟩;unfold NumTo;rw [aE (by show ¬ (4:Int)=2;decide),aK rfl];exact ⟨rfl,rfl,rfl⟩
 split at h
 ·cases h
  have:=V4c (Q8 L M 3).toNat yY;refine ⟨Or.inr (Or.inr (Or.inl ⟨Or.inl rfl,this.1,this.2⟩)),fun y hy=>?_,?_⟩
  ·rcases aS.1 hy with hy | hy
   ·exact ho y hy
   ·rw [aJ.1 hy];exact ⟨rfl,this.1,this.2⟩
  ·unfold NumTo;rw [aK rfl];refine ⟨rfl,rfl,?_⟩;simp
 split at h
 ·rename_i hc;cases h
  rcases bS op with rfl | ⟨o,y,rfl⟩
  ·simp at hc
  ·rw [bN] at ho ⊢;have hy:=ho y yW;have e1:(o++[y]).getLastD ⟨0,⟨#[]⟩,0⟩=y:=(by simp [fH]);have e2:(o++[y]).dropLast=o:=yW;rw [e1,e2];have:=Y1p y.t hy.2.1 hy.2.2;refine ⟨Or.inr (Or.inr (Or.inr ⟨rfl,this.1,this.2⟩)),fun z hz=>ho z (by simp [hz]),?_⟩;unfold NumTo;rw [aE (by show ¬ (3:Int)=2;decide),aE (by show ¬ (3:Int)=4;decide),aK rfl];exact ⟨y,o.reverse,by simp,rfl,rfl,rfl,rfl⟩
 ·cases h
  refine ⟨Or.inl rfl,ho,?_⟩;unfold NumTo;rw [aE (by show ¬ (1:Int)=2;decide),aE (by show ¬ (1:Int)=4;decide),aE (by show ¬ (1:Int)=3;decide)];exact ⟨rfl,rfl⟩
theorem FGN.step (tags:Bool) (L:List Int) (s:FS) (h:FGN s):FGN (O8 tags L s):=by
 obtain ⟨f,op,id,N⟩:=s;obtain ⟨h1,h2,h3⟩:=h;simp only at h1 h2 h3;unfold O8;simp only
 generalize J3 L N 3=ln;obtain ⟨t,M⟩:=ln;simp only
 generalize hx:U5 tags L (Q8 L M 8) t op id (M+1)=x;obtain ⟨x,op',id',M'⟩:=x;obtain ⟨q1,q2,q3⟩:=Z8i tags L _ t op id (M+1) h2 x op' id' M' hx;refine ⟨Z8k _ fun y hy=>?_,q2,?_⟩
 ·rcases aS.1 hy with hy | hy
  ·exact h1 y hy
  ·rw [aJ.1 hy];exact q1
 ·show NumTo (Q4 (f++[x])) 0 [] id' op'.reverse;rw [NumTo.tags,X0k,←NumTo.tags];exact NumTo.app h3 q3
theorem X5c (tags:Bool) (L:List Int):∀ i s,FGN s→FGN (D7 tags L i s)
 | 0,_,h=>h
 | i+1,s,h=>X5c tags L i _ (FGN.step tags L s h)
theorem Y1j:∀ (op:List Tk) (c:Nat),NumTo (op.map fun y=>(⟨3,J8 y.t,y.d⟩:Tk)) c op c []
 | [],_=>⟨rfl,rfl⟩
 | y::op,c=>by
   rw [cA];unfold NumTo;rw [aE (by show ¬ (3:Int)=2;decide),aE (by show ¬ (3:Int)=4;decide),aK rfl];exact ⟨y,op,rfl,rfl,rfl,Y1j op c⟩
theorem X0x:∀ (f g:List Tk),Normal f→(∀ x∈g,x.k≠1)→Normal (f++g)
 | f,[],h,_=>by rw [aX];exact h
 | f,x::g,h,hg=>by
   have e:f++x::g=(f++[x])++g:=yW;rw [e];exact X0x _ g (Normal.snoc_other f x h (hg x yW)) (fun y hy=>hg y (by simp [hy]))
theorem Q6w (tags:Bool) (L:List Int) (N n:Nat) (hn:n≤8):Normal (U8 tags L N n).1∧(∀ x∈(U8 tags L N n).1,P2 x)∧NumOk (U8 tags L N n).1 0 []∧(U8 tags L N n).1.length≤16∧X3 (U8 tags L N n).1≤160∧(U8 tags L N n).2≤N+1+9 * 8:=by
 have hb:=X5 L N ((n:Int)+1) yY;obtain ⟨h,hN⟩:=Q5m tags L (Q8 L N ((n:Int)+1)).toNat ⟨[],[],0,N+1⟩ 0 (Q4e tags (N+1));have hg:=X5c tags L (Q8 L N ((n:Int)+1)).toNat ⟨[],[],0,N+1⟩ ⟨fun x hx=>by simp at hx,fun x hx=>by simp at hx,⟨rfl,rfl⟩⟩;have hl:=h.len;have hd:=h.bytes;have hf:=h.oplen;have e:U8 tags L N n=((D7 tags L (Q8 L N ((n:Int)+1)).toNat ⟨[],[],0,N+1⟩).f++K2 (D7 tags L (Q8 L N ((n:Int)+1)).toNat ⟨[],[],0,N+1⟩).op,(D7 tags L (Q8 L N ((n:Int)+1)).toNat ⟨[],[],0,N+1⟩).N):=rfl;rw [e];simp only at hN;have hh:=(Q8 L N ((n:Int)+1)).toNat;generalize hs:D7 tags L (Q8 L N ((n:Int)+1)).toNat ⟨[],[],0,N+1⟩=s at h hN hg hl hd hf;have hc:(K2 s.op).length=s.op.length:=(by unfold K2;simp);have ha:∀ x∈K2 s.op,x.k=3:=fun x hx=>by
  unfold K2 at hx;obtain ⟨y,_,rfl⟩:=cF.1 hx;rfl
 have he:X3 (K2 s.op)=(K2 s.op).length:=by
  have:∀ l:List Tk,(∀ x∈l,x.k=3)→X3 l=l.length:=fun l=>by
   induction l with
   | nil=>intro _;rfl
   | cons x l ih=>
     intro h;rw [X3,ih (fun y hy=>h y (by simp [hy])),aG];have:wdI x=1:=(by unfold wdI;rw [aE (by have:=h x yW;omega)]);omega
  exact this _ ha
 refine ⟨X0x _ _ h.normal (fun x hx=>by have:=ha x hx;omega),fun x hx=>?_,?_,?_,?_,?_⟩
 ·rcases aS.1 hx with hx | hx
  ·exact hg.items x hx
  ·unfold K2 at hx;obtain ⟨y,hy,rfl⟩:=cF.1 hx;have ho:=hg.opens y (by simpa using hy);have:=Y1p y.t ho.2.1 ho.2.2;exact Or.inr (Or.inr (Or.inr ⟨rfl,this.1,this.2⟩))
 ·exact NumTo.ok (hg.num.app (Y1j s.op.reverse s.id))
 ·show (s.f++K2 s.op).length≤16;rw [aA,hc];omega
 ·show X3 (s.f++K2 s.op)≤160;have:=Q8z s.f;rw [Q1i,he,hc];omega
 ·show s.N≤_;omega
/-! ### Tables -/
inductive Fl where
 | bare (l:List UInt8)
 | quo (l:List UInt8)
def Q4r:Fl→List UInt8
 | .bare l=>l
 | .quo l=>34::l++[34]
def Q6l:Fl→Prop
 | .bare l=>∀ c∈l,c≠34∧c≠44∧c≠10
 | .quo l=>∀ c∈l,c≠34
def G0 (fs:List Fl):List UInt8:=fs.flatMap fun f=>Q4r f++[44]
def T4 (fs:List Fl):List UInt8:=fs.flatMap fun f=>44::Q4r f
structure Rc where
 pre:List Fl
 key:List UInt8
 ts:Els
 post:List Fl
def Q7o (r:Rc):List UInt8:=G0 r.pre++(34::(Q2 r.ts++(34::T4 r.post)))
def O7 (st:List Un×List UInt8) (r:Rc):List Un×List UInt8:=(st.1++[⟨st.2++(10::(G0 r.pre++[34])),r.key,r.ts⟩],34::T4 r.post)
def C7:List UInt8:=[116,101,120,116]
def I6 (a b:List Fl):List UInt8:=G0 a++(C7++T4 b)
def Z6 (a b:List Fl) (rs:List Rc):List Un×List UInt8:=rs.foldl O7 ([],I6 a b)
theorem X4x:∀ (rs:List Rc) (st:List Un×List UInt8),Z4 (rs.foldl O7 st).1++(rs.foldl O7 st).2=Z4 st.1++st.2++rs.flatMap fun r=>10::Q7o r
 | [],st=>by simp
 | r::rs,st=>by
   rw [bQ,X4x rs,dM];show Z4 (st.1++[_])++(34::T4 r.post)++_=_;rw [Q7m];simp [Z4,Q7o]
theorem X0m (a b:List Fl) (rs:List Rc):O0 (Z6 a b rs).1 (Z6 a b rs).2=I6 a b++rs.flatMap fun r=>10::Q7o r:=by
 rw [Q6q];have h:=X4x rs ([],I6 a b);rw [show Z4 ([]:List Un)=[] from rfl,bJ] at h;exact h
/-! ### Markup -/
inductive MK where
 | byte (c:UInt8)
 | note
 | tag (t:List UInt8)
 | blk (t key:List UInt8) (ts:Els)
def Y8m:List UInt8:=[60,33,45,45,32,60,112,62,32,45,45,62]
def G9 (t:List UInt8):List UInt8:=60::47::(Z0 t++[62])
def Y5:MK→List UInt8
 | .byte c=>[c]
 | .note=>Y8m
 | .tag t=>60::t++[62]
 | .blk t _ ts=>60::t++(62::(Q2 ts++G9 t))
def V6r (t:List UInt8):Prop:=(N9 t=true∧U4 (Z0 t)=false)∨∃ u,t=u++[47]∧N9 u=true∧U4 (Z0 u)=false
def Y0h:MK→Prop
 | .byte c=>c≠60
 | .note=>True
 | .tag t=>V6r t
 | .blk t _ ts=>N9 t=true∧U4 (Z0 t)=true∧RawOk 1 ts
def G1 (st:List Un×List UInt8):MK→List Un×List UInt8
 | .blk t key ts=>(st.1++[⟨st.2++(60::t++[62]),key,ts⟩],G9 t)
 | x=>(st.1,st.2++Y5 x)
def Y8 (ms:List MK):List Un×List UInt8:=ms.foldl G1 ([],[])
theorem X4v:∀ (ms:List MK) (st:List Un×List UInt8),Z4 (ms.foldl G1 st).1++(ms.foldl G1 st).2=Z4 st.1++st.2++ms.flatMap Y5
 | [],st=>by simp
 | x::ms,st=>by
   rw [bQ,X4v ms,dM];cases x with
   | blk t key ts=>
     show Z4 (st.1++[_])++G9 t++_=_++(60::t++(62::(Q2 ts++G9 t))++_);rw [Q7m];simp [Z4]
   | byte c=>show Z4 st.1++(st.2++Y5 (.byte c))++_=_;simp
   | note=>show Z4 st.1++(st.2++Y5 .note)++_=_;simp
   | tag t=>show Z4 st.1++(st.2++Y5 (.tag t))++_=_;simp
theorem Q6a (ms:List MK):O0 (Y8 ms).1 (Y8 ms).2=ms.flatMap Y5:=by
 rw [Q6q];have h:=X4v ms ([],[]);rw [show Z4 ([]:List Un)=[] from rfl,bJ,bJ] at h;exact h
theorem Y7r (l sub:List UInt8):-1≤Lib.index l sub:=by
 induction l with
 | nil=>rw [Lib.index];split<;>omega
 | cons b l ih=>rw [Lib.index];split;omega;split<;>omega
theorem X1o (sub s:List UInt8) (n:Nat) (hs:Lib.index s sub=(n:Int)):∀ (r:List UInt8),(∀ i,i < r.length→sub.isPrefixOf ((r++s).drop i)=false)→Lib.index (r++s) sub=((r.length+n:Nat):Int)
 | [],_=>by rw [bJ,hs];simp
 | c::r,h=>by
   have h0:=h 0 yW;rw [cO] at h0;have ih:=X1o sub s n hs r (fun i hi=>by
    have:=h (i+1) yV;rwa [aR,List.drop_succ_cons] at this)
   rw [aR] at h0 ⊢;rw [Lib.index,aE (by simp [h0]),ih,aE (by rw [cM];omega),aG];omega
theorem L5 (c d:UInt8) (p s:List UInt8) (h:c≠d):List.isPrefixOf (c::p) (d::s)=false:=by
 rw [List.isPrefixOf];have:(c==d)=false:=(by simpa using h);rw [this,Bool.false_and]
theorem X2b (a:UInt8) (p s:List UInt8):List.isPrefixOf (a::p) (a::s)=List.isPrefixOf p s:=by
 rw [List.isPrefixOf];simp
theorem Y8w:∀ (n m s:List UInt8),(∀ b∈n,b≠62)→(∀ b∈m,b≠62)→List.isPrefixOf (n++[62]) (m++62::s)=true→n=m
 | [],[],_,_,_,_=>rfl
 | [],c::m,s,_,hm,h=>by
   exfalso;rw [bJ,aR,L5 62 c [] _ (fun e=>hm c yW e.symm)] at h;cases h
 | c::n,[],s,hn,_,h=>by
   exfalso;rw [bJ,aR,L5 c 62 _ _ (hn c yW)] at h;cases h
 | c::n,d::m,s,hn,hm,h=>by
   rw [aR,aR] at h;by_cases e:c=d
   ·subst e;rw [X2b] at h;rw [Y8w n m s (fun b hb=>hn b (by simp [hb])) (fun b hb=>hm b (by simp [hb])) h]
   ·rw [L5 c d _ _ e] at h;cases h
theorem Y4c (r s:List UInt8) (i:Nat) (hi:i < r.length):∃ q,(r++s).drop i=r[i]::q:=by
 refine ⟨(r++s).drop (i+1),?_⟩;rw [aQ yV,cI hi]
theorem V4a (nm r s:List UInt8) (i:Nat) (hi:i < r.length) (h:r[i]≠60):List.isPrefixOf (60::47::(nm++[62])) ((r++s).drop i)=false:=by
 obtain ⟨q,hq⟩:=Y4c r s i hi;rw [hq];exact L5 _ _ _ _ (fun e=>h e.symm)
theorem Z2b (nm r s:List UInt8) (h:∀ b∈r,b≠60):∀ i,i < r.length→List.isPrefixOf (60::47::(nm++[62])) ((r++s).drop i)=false:=fun i hi=>V4a nm r s i hi (h _ (aL hi))
theorem Y4o (nm r s:List UInt8) (h0:List.isPrefixOf (60::47::(nm++[62])) (60::r++s)=false) (h:∀ b∈r,b≠60):∀ i,i < (60::r).length→List.isPrefixOf (60::47::(nm++[62])) ((60::r++s).drop i)=false:=by
 intro i hi;cases i with
 | zero=>exact h0
 | succ i=>
   rw [aR,List.drop_succ_cons];have ha:i < r.length:=(by simpa using hi);exact V4a nm r s i ha (h _ (aL ha))
theorem U3j (nm:List UInt8) (hnm:∀ b∈nm,b≠62) (hbl:U4 nm=true) (r:List UInt8) (x:Option Tk) (s:List UInt8) (h:ElOk 1 r x):∀ i,i < r.length→List.isPrefixOf (60::47::(nm++[62])) ((r++s).drop i)=false:=by
 generalize hf:(1:Int)=fmt at h;cases h with
 | slot _ n hn=>
   refine Z2b nm _ s fun b hb=>?_;rw [aS,aU] at hb;rcases hb with (rfl | hb) | hb
   ·decide
   ·exact I4 n hn 60 yW b hb
   ·rw [aJ.1 hb];decide
 | ch1 c hc=>exact Z2b nm _ s fun b hb=>by rw [aJ.1 hb];exact hc.1
 | ref r c hr=>
   refine Z2b nm _ s fun b hb=>?_;simp only [X5l,aU,cL,eL,eX] at hr;rcases hr with ⟨rfl,_⟩ | ⟨rfl,_⟩ | ⟨rfl,_⟩ | ⟨rfl,_⟩ | ⟨rfl,_⟩<;>revert b<;>decide
 | opn t d ht hb=>
   obtain ⟨c,q,rfl,hc⟩:=G3 t ht;refine Y4o nm ((c::q)++[62]) s ?_ fun b hb=>?_
   ·rw [aR,aR,aR,X2b,L5 _ _ _ _ (fun e=>T8 c hc 47 yW e.symm)]
   ·rw [aS] at hb;rcases hb with hb | hb
    ·exact (Q1c _ ht).2 b hb
    ·rw [aJ.1 hb];decide
 | emp t d ht hb=>
   obtain ⟨c,q,rfl,hc⟩:=G3 t ht;refine Y4o nm ((c::q)++[47,62]) s ?_ fun b hb=>?_
   ·rw [aR,aR,aR,X2b,L5 _ _ _ _ (fun e=>T8 c hc 47 yW e.symm)]
   ·rw [aS] at hb;rcases hb with hb | hb
    ·exact (Q1c _ ht).2 b hb
    ·simp at hb;rcases hb with rfl | rfl<;>decide
 | cls t d ht hb=>
   refine Y4o nm (47::t++[62]) s ?_ fun b hb=>?_
   ·cases hp:List.isPrefixOf (60::47::(nm++[62])) (60::(47::t++[62])++s) with
    | false=>rfl
    | true=>
      exfalso;rw [aR,X2b,aR,aR,X2b,aZ] at hp;have:=Y8w nm t s hnm (fun b hb=>I4 t ht 62 yW b hb) hp;rw [this,hb] at hbl;cases hbl
   ·rw [aS,aU] at hb;rcases hb with (rfl | hb) | hb
    ·decide
    ·exact I4 t ht 60 yW b hb
    ·rw [aJ.1 hb];decide
 | ch2 c hc=>cases hf
 | esc e c he=>cases hf
 | cont b hb=>cases hf
 | ch3 c hc=>cases hf
 | two c hc=>cases hf
theorem Y4d (nm:List UInt8) (hnm:∀ b∈nm,b≠62) (hbl:U4 nm=true) (rest:List UInt8):∀ (ts:Els),(∀ e∈ts,ElOk 1 e.1 e.2)→Lib.index (Q2 ts++(60::47::(nm++[62])++rest)) (60::47::(nm++[62]))=((Q2 ts).length:Int)
 | [],_=>by
   show Lib.index (60::(47::(nm++[62])++rest)) _=0;rw [Lib.index,aK];rw [eI];exact ⟨rest,rfl⟩
 | (r,x)::ts,h=>by
   have ih:=Y4d nm hnm hbl rest ts (fun e he=>h e (by simp [he]));have e:=X1o _ _ _ ih r (U3j nm hnm hbl r x _ (h (r,x) yW));rw [show Q2 ((r,x)::ts)=r++Q2 ts from rfl,aZ,e,aA]
def P7:List UInt8→Nat
 | []=>0
 | [c]=>if c=10 then 0 else if c=92 then 2 else 1
 | c::d::l=>if c=10 then 0 else if c=92 then 2+P7 l else 1+P7 (d::l)
theorem Y1v (l:List UInt8):P7 (10::l)=0:=by
 cases l with
 | nil=>rfl
 | cons d l=>rw [P7,aK rfl]
theorem Y7b (c:UInt8) (l:List UInt8) (h1:c≠10) (h2:c≠92):P7 (c::l)=1+P7 l:=by
 cases l with
 | nil=>
   show (if c=10 then 0 else if c=92 then 2 else 1)=1;rw [aE h1,aE h2]
 | cons d l=>rw [P7,aE h1,aE h2]
theorem X7n (d:UInt8) (l:List UInt8):P7 (92::d::l)=2+P7 l:=by rw [P7,aE yX,aK rfl]
theorem X1g:∀ (r l:List UInt8),(∀ c∈r,c≠10∧c≠92)→P7 (r++l)=r.length+P7 l
 | [],l,_=>by simp
 | c::r,l,h=>by
   rw [aR,Y7b c _ (h c yW).1 (h c yW).2,X1g r l (fun b hb=>h b (by simp [hb])),aG];omega
theorem Y4n (l:List UInt8) (h:U3 l=true) (c:UInt8) (hc:c=10∨c=92∨c=34):∀ b∈l,b≠c:=by
 intro b hb e;have hh:=X8n l h b hb;rw [e] at hh;rcases hc with rfl | rfl | rfl<;>revert hh<;>decide
theorem V7s (r:List UInt8) (x:Option Tk) (l:List UInt8) (h:ElOk 2 r x):P7 (r++l)=r.length+P7 l:=by
 generalize hf:(2:Int)=fmt at h;cases h with
 | slot _ n hn=>
   refine X1g _ l fun b hb=>?_;rw [aS,aU] at hb;rcases hb with (rfl | hb) | hb
   ·decide
   ·exact ⟨Y4n n hn 10 yW b hb,Y4n n hn 92 yW b hb⟩
   ·rw [aJ.1 hb];decide
 | ch2 c hc=>exact X1g [c] l fun b hb=>by rw [aJ.1 hb];exact ⟨hc.1,hc.2.1⟩
 | esc e c he=>exact X7n e l
 | cont b hb=>
   show P7 (92::10::(b++l))=_;rw [X7n,X1g b l (fun c hc=>by rcases hb c hc with rfl | rfl<;>decide),aG,aG];omega
 | ch1 c hc=>cases hf
 | ref r c hr=>cases hf
 | opn t d ht hb=>cases hf
 | cls t d ht hb=>cases hf
 | emp t d ht hb=>cases hf
 | ch3 c hc=>cases hf
 | two c hc=>cases hf
theorem X7m (l:List UInt8):∀ (ts:Els),(∀ e∈ts,ElOk 2 e.1 e.2)→P7 (Q2 ts++10::l)=(Q2 ts).length
 | [],_=>Y1v l
 | (r,x)::ts,h=>by
   rw [show Q2 ((r,x)::ts)=r++Q2 ts from rfl,aZ,V7s r x _ (h (r,x) yW),X7m l ts (fun e he=>h e (by simp [he])),aA]
def M6:List UInt8→Nat
 | []=>0
 | [c]=>if c=34 then 0 else 1
 | c::d::l=>if c=34 then (if d=34 then 2+M6 l else 0) else 1+M6 (d::l)
theorem Y6y (c:UInt8) (l:List UInt8) (h:c≠34):M6 (c::l)=1+M6 l:=by
 cases l with
 | nil=>
   show (if c=34 then 0 else 1)=1;rw [aE h]
 | cons d l=>rw [M6,aE h]
theorem Y7a (l:List UInt8):M6 (34::34::l)=2+M6 l:=by rw [M6,aK rfl,aK rfl]
theorem X3p (l:List UInt8) (h:l.head? ≠some 34):M6 (34::l)=0:=by
 cases l with
 | nil=>rfl
 | cons d l=>rw [M6,aK rfl,aE (fun e=>h (by rw [e];rfl))]
theorem Q6t:∀ (r l:List UInt8),(∀ c∈r,c≠34)→M6 (r++l)=r.length+M6 l
 | [],l,_=>by simp
 | c::r,l,h=>by
   rw [aR,Y6y c _ (h c yW),Q6t r l (fun b hb=>h b (by simp [hb])),aG];omega
theorem V7r (r:List UInt8) (x:Option Tk) (l:List UInt8) (h:ElOk 3 r x):M6 (r++l)=r.length+M6 l:=by
 generalize hf:(3:Int)=fmt at h;cases h with
 | slot _ n hn=>
   refine Q6t _ l fun b hb=>?_;rw [aS,aU] at hb;rcases hb with (rfl | hb) | hb
   ·decide
   ·exact Y4n n hn 34 yW b hb
   ·rw [aJ.1 hb];decide
 | ch3 c hc=>exact Q6t [c] l fun b hb=>by rw [aJ.1 hb];exact hc.1
 | two c hc=>
   rcases hc with rfl | rfl
   ·exact Y7a l
   ·exact Q6t [123,123] l fun b hb=>by
     simp at hb;rw [hb];decide
 | ch1 c hc=>cases hf
 | ref r c hr=>cases hf
 | opn t d ht hb=>cases hf
 | cls t d ht hb=>cases hf
 | emp t d ht hb=>cases hf
 | ch2 c hc=>cases hf
 | esc e c he=>cases hf
 | cont b hb=>cases hf
theorem Y6z (l:List UInt8) (hl:l.head? ≠some 34):∀ (ts:Els),(∀ e∈ts,ElOk 3 e.1 e.2)→M6 (Q2 ts++34::l)=(Q2 ts).length
 | [],_=>X3p l hl
 | (r,x)::ts,h=>by
   rw [show Q2 ((r,x)::ts)=r++Q2 ts from rfl,aZ,V7r r x _ (h (r,x) yW),Y6z l hl ts (fun e he=>h e (by simp [he])),aA]
def Y0k:List (List UInt8):=[[],[32],[9,32]]
def elS (fmt:Int) (L:List Int) (x:Tk) (N:Nat):Els×Nat:=
 if Q8 L N 3=0 then
  if fmt=1∧x.k=1∧x.t.data.toList=[62] then ([([38,103,116,59],some x)],N+1)
  else if fmt=1∧x.k=1∧x.t.data.toList=[125] then ([([38,114,98,59],some x)],N+1)
  else if fmt=2∧x.k=1∧x.t.data.toList=[32] then ([([92,115],some x)],N+1)
  else if fmt=2 then ([(92::10::Y0k.getD (Q8 L (N+1) 3).toNat [],none),(V6 fmt x,some x)],N+2)
  else ([(V6 fmt x,some x)],N+1)
 else ([(V6 fmt x,some x)],N+1)
def V1 (fmt:Int) (L:List Int):List Tk→Nat→Els×Nat
 | [],N=>([],N)
 | x::u,N=>((elS fmt L x N).1++(V1 fmt L u (elS fmt L x N).2).1,(V1 fmt L u (elS fmt L x N).2).2)
theorem V7n (fmt:Int) (L:List Int) (x:Tk) (N:Nat):X0 (elS fmt L x N).1=[x]:=by
 unfold elS;repeat (first | rfl | split)
theorem Q8t (fmt:Int) (L:List Int):∀ (u:List Tk) (N:Nat),X0 (V1 fmt L u N).1=u
 | [],_=>rfl
 | x::u,N=>by
   rw [V1,M0,V7n,Q8t fmt L u];rfl
theorem U3h (fmt:Int) (L:List Int) (x:Tk) (N:Nat):(elS fmt L x N).2≤N+2:=by
 unfold elS;repeat (first | (show N+1≤N+2;omega) | (show N+2≤N+2;omega) | split)
theorem Y4x (fmt:Int) (L:List Int):∀ (u:List Tk) (N:Nat),(V1 fmt L u N).2≤N+2 * u.length
 | [],N=>by show N≤N+2 * 0;omega
 | x::u,N=>by
   have h1:=U3h fmt L x N;have h2:=Y4x fmt L u (elS fmt L x N).2;rw [V1,aG];show (V1 fmt L u (elS fmt L x N).2).2≤_;omega
theorem Z1g (fmt:Int) (hf:fmt=1∨fmt=2∨fmt=3) (x:Tk) (ho:One x) (h:P2 x) (hp:fmt≠1→V8 x):ElOk fmt (V6 fmt x) (some x):=by
 obtain ⟨k,t,d⟩:=x;have slot:k=5→U3 t.data.toList=true→d=0→ElOk fmt (V6 fmt ⟨k,t,d⟩) (some ⟨k,t,d⟩):=fun h5 hn hd=>by
  subst h5 hd;have e:V6 fmt ⟨5,t,0⟩=123::t.data.toList++[125]:=by
   unfold V6;rw [aE (show ¬ (5:Int)=1 by decide),aE (show ¬ (5:Int)=2 by decide),aE (show ¬ (5:Int)=3 by decide),aE (show ¬ (5:Int)=4 by decide)]
  rw [e];have:=ElOk.slot fmt t.data.toList hn;rwa [X0a] at this
 have text:k=1→ElOk fmt (V6 fmt ⟨k,t,d⟩) (some ⟨k,t,d⟩):=fun h1=>by
  obtain ⟨c,hc⟩:=ho h1;rw [hc,X5z];exact U0r fmt hf c
 by_cases h1f:fmt=1
 ·subst h1f;rcases h with h1 | ⟨h5,hn,hd⟩ | ⟨hk,hc,hb⟩ | ⟨hk,hc,hb⟩
  ·exact text h1
  ·exact slot h5 hn hd
  ·simp only at hk hc hb;rcases hk with rfl | rfl
   ·have e:V6 1 ⟨2,t,d⟩=60::t.data.toList++[62]:=by
     unfold V6;rw [aE (show ¬ (2:Int)=1 by decide),aK rfl]
    rw [e];have:=ElOk.opn t.data.toList d hc hb;rwa [X0a] at this
   ·have e:V6 1 ⟨4,t,d⟩=60::t.data.toList++[47,62]:=by
     unfold V6;rw [aE (show ¬ (4:Int)=1 by decide),aE (show ¬ (4:Int)=2 by decide),aE (show ¬ (4:Int)=3 by decide),aK rfl]
    rw [e];have:=ElOk.emp t.data.toList d hc hb;rwa [X0a] at this
  ·simp only at hk hc hb;subst hk;have e:V6 1 ⟨3,t,d⟩=60::47::t.data.toList++[62]:=by
    unfold V6;rw [aE (show ¬ (3:Int)=1 by decide),aE (show ¬ (3:Int)=2 by decide),aK rfl]
   rw [e];have:=ElOk.cls t.data.toList d hc hb;rwa [X0a] at this
 ·rcases hp h1f with h1 | ⟨h5,hn,hd⟩
  ·exact text h1
  ·exact slot h5 hn hd
theorem V7a (k:Nat) (h:k < 3):∀ c∈Y0k.getD k [],c=32∨c=9:=by
 rcases (show k=0∨k=1∨k=2 by omega) with rfl | rfl | rfl<;>decide
theorem X3o (x:Tk) (ho:One x) (hp:V8 x) (h32:¬ (x.k=1∧x.t.data.toList=[32])):(V6 2 x).head? ≠some 32∧(V6 2 x).head? ≠some 9:=by
 rcases hp with h1 | ⟨h5,_,_⟩
 ·obtain ⟨c,rfl⟩:=ho h1;have hc:c≠32:=fun e=>h32 ⟨rfl,by rw [e];rfl⟩;rw [X5z];unfold N5;rw [aE yX,aK rfl];by_cases h10:c=10
  ·rw [aK h10];decide
  ·rw [aE h10];by_cases h9:c=9
   ·rw [aK h9];decide
   ·rw [aE h9];by_cases h13:c=13
    ·rw [aK h13];decide
    ·rw [aE h13];by_cases h92:c=92
     ·rw [aK h92];decide
     ·rw [aE h92];by_cases h123:c=123
      ·rw [aK h123];decide
      ·rw [aE h123];exact ⟨fun e=>hc (by simpa using e),fun e=>h9 (by simpa using e)⟩
 ·obtain ⟨k,t,d⟩:=x;simp only at h5;subst h5;have e:V6 2 ⟨5,t,d⟩=123::t.data.toList++[125]:=by
   unfold V6;rw [aE (show ¬ (5:Int)=1 by decide),aE (show ¬ (5:Int)=2 by decide),aE (show ¬ (5:Int)=3 by decide),aE (show ¬ (5:Int)=4 by decide)]
  rw [e];exact ⟨by simp,by simp⟩
theorem U1i (fmt:Int) (hf:fmt=1∨fmt=2∨fmt=3) (L:List Int) (x:Tk) (N:Nat) (ho:One x) (h:P2 x) (hp:fmt≠1→V8 x):(∀ e∈(elS fmt L x N).1,ElOk fmt e.1 e.2)∧F5 (elS fmt L x N).1∧∃ p r y,(elS fmt L x N).1=p++[(r,some y)]:=by
 have he:=Z1g fmt hf x ho h hp;have one:∀ r,ElOk fmt r (some x)→(∀ e∈[(r,some x)],ElOk fmt e.1 e.2)∧F5 [(r,some x)]∧∃ p r' y,[(r,some x)]=p++[(r',some y)]:=fun r hr=>⟨fun e he=>by rw [aJ.1 he];exact hr,trivial,[],r,x,rfl⟩;unfold elS;split
 ·split
  ·rename_i hx;obtain ⟨c,rfl⟩:=ho hx.2.1;have:c=62:=(by have:=hx.2.2;simpa [chI] using this);subst this;have ha:=hx.1;subst ha;exact one _ (ElOk.ref _ _ yX)
  ·split
   ·rename_i hx;obtain ⟨c,rfl⟩:=ho hx.2.1;have:c=125:=(by have:=hx.2.2;simpa [chI] using this);subst this;have ha:=hx.1;subst ha;exact one _ (ElOk.ref _ _ yX)
   ·split
    ·rename_i hx;obtain ⟨c,rfl⟩:=ho hx.2.1;have:c=32:=(by have:=hx.2.2;simpa [chI] using this);subst this;have ha:=hx.1;subst ha;exact one _ (ElOk.esc _ _ yX)
    ·rename_i h32;split
     ·rename_i hf2;subst hf2;have hb:=X5 L (N+1) 3 yX;refine ⟨fun e hc=>?_,⟨fun _=>X3o x ho (hp yX) (fun hh=>h32 ⟨rfl,hh⟩),trivial⟩,[_],_,x,rfl⟩;rcases aU.1 hc with rfl | hc
      ·exact ElOk.cont _ (V7a _ yY)
      ·rw [aJ.1 hc];exact he
     ·exact one _ he
 ·exact one _ he
theorem Q8d:∀ (a b:Els) (r:List UInt8) (y:Tk),F5 (a++[(r,some y)])→F5 b→F5 ((a++[(r,some y)])++b)
 | [],[],r,y,_,_=>trivial
 | [],(r',z)::b,r,y,_,hb=>⟨fun h=>(by cases h),hb⟩
 | [(r1,x1)],b,r,y,ha,hb=>by
   have h1:=Q8d [] b r y trivial hb;exact ⟨ha.1,h1⟩
 | (r1,x1)::(r2,x2)::a,b,r,y,ha,hb=>by
   have h1:=Q8d ((r2,x2)::a) b r y ha.2 hb;exact ⟨ha.1,h1⟩
theorem Y2n (fmt:Int) (hf:fmt=1∨fmt=2∨fmt=3) (L:List Int):∀ (u:List Tk) (N:Nat),(∀ x∈u,One x∧P2 x∧(fmt≠1→V8 x))→(∀ e∈(V1 fmt L u N).1,ElOk fmt e.1 e.2)∧F5 (V1 fmt L u N).1
 | [],_,_=>⟨fun e he=>by simp [V1] at he,trivial⟩
 | x::u,N,h=>by
   obtain ⟨h1,h2,h3⟩:=h x yW;obtain ⟨g1,g2,p,r,y,g3⟩:=U1i fmt hf L x N h1 h2 h3;obtain ⟨i1,i2⟩:=Y2n fmt hf L u (elS fmt L x N).2 (fun z hz=>h z (by simp [hz]));rw [V1];refine ⟨fun e he=>?_,?_⟩
   ·rcases aS.1 he with he | he
    ·exact g1 e he
    ·exact i1 e he
   ·show F5 ((elS fmt L x N).1++_);rw [g3] at g2 ⊢;exact Q8d p _ r y g2 i2
theorem V4w (fmt:Int) (hf:fmt=1∨fmt=2∨fmt=3) (L:List Int) (f:List Tk) (N:Nat) (h:∀ x∈f,P2 x∧(fmt≠1→V8 x)) (hn:NumOk (X9 f) 0 []) (hl:X3 f≤500):RawOk fmt (V1 fmt L (X9 f) N).1:=by
 have hu:∀ x∈X9 f,One x∧P2 x∧(fmt≠1→V8 x):=fun x hx=>by
  refine ⟨C8 f x hx,?_⟩;obtain ⟨y,hy,ha⟩:=dA.1 hx;unfold P8 at ha;split at ha
  ·obtain ⟨c,_,rfl⟩:=cF.1 ha;exact ⟨Or.inl rfl,fun _=>Or.inl rfl⟩
  ·rw [aJ.1 ha];exact h y hy
 obtain ⟨a,b⟩:=Y2n fmt hf L (X9 f) N hu;exact ⟨a,b,by rw [Q8t];exact hn,by rw [Q8t,D2];exact hl⟩
def J9 (fmt:Int) (L:List Int) (N:Nat):Els×Nat:=V1 fmt L (X9 (U8 (decide (fmt=1)) L N ((5:Nat):Int)).1) (U8 (decide (fmt=1)) L N ((5:Nat):Int)).2
def I9 (k:Nat):List UInt8:=[UInt8.ofNat (48+k)]
def Q3n:List (List UInt8):=[wP,wLi,X4y]
def Q3z:List (List UInt8):=[[],[32,99,61,34,49,34]]
def Q7y:List (List MK):=[[],[.byte 10],[.tag [104,114,47]]]
def X0d:List (List MK):=[[],[.tag [104,116,109,108]],[.note,.byte 120]]
def Q9x (L:List Int):Nat→Nat→List MK→Nat→List MK×Nat
 | 0,_,ms,N=>(ms,N)
 | i+1,k,ms,N=>
   let u:=J9 1 L N
   Q9x L i (k+1) (ms++(.blk (Q3n.getD (Q8 L u.2 3).toNat []++Q3z.getD (Q8 L (u.2+1) 2).toNat []) (I9 (k+1)) u.1::Q7y.getD (Q8 L (u.2+2) 3).toNat [])) (u.2+3)
def X0j:List (List RL):=[[],[.skip [35,120]],[.skip []]]
def Q9f:List (List RL):=[[],[.skip [35,32,99]],[.skip [],.skip [32]]]
def X4m (L:List Int):Nat→List RL→Nat→List RL×Nat
 | 0,ls,N=>(ls,N)
 | i+1,ls,N=>
   let u:=J9 2 L N
   X4m L i (ls++(.unit (107::I9 (i+1)) u.1::X0j.getD (Q8 L u.2 3).toNat [])) (u.2+1)
def hdA:List (List Fl):=[[],[.bare [105,100]],[.quo [97,44,98]]]
def hdB:List (List Fl):=[[],[],[.bare [99]]]
def rcA:List (List Fl):=[[],[.bare [55]],[.bare [120]]]
def rcB:List (List Fl):=[[],[],[.quo [121]]]
def X0h (L:List Int) (h:Nat):Nat→Nat→List Rc→Nat→List Rc×Nat
 | 0,_,rs,N=>(rs,N)
 | i+1,k,rs,N=>
   let u:=J9 3 L N
   X0h L h i (k+1) (rs++[⟨rcA.getD h [],I9 (k+1),u.1,rcB.getD h []⟩]) u.2
theorem W9 (fmt:Int) (hf:fmt=1∨fmt=2∨fmt=3) (L:List Int) (N:Nat):RawOk fmt (J9 fmt L N).1∧X0 (J9 fmt L N).1=X9 (U8 (decide (fmt=1)) L N ((5:Nat):Int)).1∧(J9 fmt L N).2≤N+500:=by
 obtain ⟨h1,h2,h3,h4,h5,h6⟩:=Q6w (decide (fmt=1)) L N 5 yX;have hp:fmt≠1→∀ x∈(U8 (decide (fmt=1)) L N ((5:Nat):Int)).1,V8 x:=fun ha=>by
  have e:decide (fmt=1)=false:=(by simpa using ha);rw [e];exact (X5d L N 5 yX).2.1
 have hn:=Y4x fmt L (X9 (U8 (decide (fmt=1)) L N ((5:Nat):Int)).1) (U8 (decide (fmt=1)) L N ((5:Nat):Int)).2;rw [D2] at hn;refine ⟨V4w fmt hf L _ _ (fun x hx=>⟨h2 x hx,fun ha=>hp ha x hx⟩) (Z9d _ h3) yY,Q8t fmt L _ _,?_⟩;unfold J9;omega
theorem X8m (k:Nat) (h:k < 3) (j:Nat) (hj:j < 2):N9 (Q3n.getD k []++Q3z.getD j [])=true∧U4 (Z0 (Q3n.getD k []++Q3z.getD j []))=true∧Z0 (Q3n.getD k []++Q3z.getD j [])=Q3n.getD k []:=by
 rcases (show k=0∨k=1∨k=2 by omega) with rfl | rfl | rfl<;>rcases (show j=0∨j=1 by omega) with rfl | rfl<;>decide
theorem U3p:V6r [104,114,47]:=Or.inr ⟨[104,114],rfl,yX,yX⟩
theorem V8e:V6r [104,116,109,108]:=Or.inl ⟨yX,yX⟩
theorem Y5i (k:Nat) (h:k < 3):∀ m∈Q7y.getD k [],Y0h m∧∀ t key ts,m≠.blk t key ts:=by
 intro m hm;rcases (show k=0∨k=1∨k=2 by omega) with rfl | rfl | rfl
 ·simp [Q7y] at hm
 ·have:m=.byte 10:=(by simpa [Q7y] using hm);subst this;exact ⟨by show (10:UInt8)≠60;decide,fun _ _ _ h=>by cases h⟩
 ·have:m=.tag [104,114,47]:=(by simpa [Q7y] using hm);subst this;exact ⟨U3p,fun _ _ _ h=>by cases h⟩
theorem Y4v (k:Nat) (h:k < 3):∀ m∈X0d.getD k [],Y0h m∧∀ t key ts,m≠.blk t key ts:=by
 intro m hm;rcases (show k=0∨k=1∨k=2 by omega) with rfl | rfl | rfl
 ·simp [X0d] at hm
 ·have:m=.tag [104,116,109,108]:=(by simpa [X0d] using hm);subst this;exact ⟨V8e,fun _ _ _ h=>by cases h⟩
 ·have:m=.note∨m=.byte 120:=(by simpa [X0d] using hm);rcases this with rfl | rfl
  ·exact ⟨trivial,fun _ _ _ h=>by cases h⟩
  ·exact ⟨by show (120:UInt8)≠60;decide,fun _ _ _ h=>by cases h⟩
theorem Z5v (L:List Int):∀ (i k:Nat) (ms:List MK) (N:Nat),(∀ m∈ms,Y0h m)→(∀ m∈(Q9x L i k ms N).1,Y0h m)∧(Q9x L i k ms N).2≤N+503 * i
 | 0,_,ms,N,h=>⟨h,yQ⟩
 | i+1,k,ms,N,h=>by
   obtain ⟨u1,_,u3⟩:=W9 1 (Or.inl rfl) L N;rw [Q9x];generalize J9 1 L N=u at u1 u3;have ha:=X5 L u.2 3 yX;have hb:=X5 L (u.2+1) 2 yX;have hc:=X5 L (u.2+2) 3 yX;obtain ⟨c1,c2,_⟩:=X8m (Q8 L u.2 3).toNat yY (Q8 L (u.2+1) 2).toNat yY;have hs:=Y5i (Q8 L (u.2+2) 3).toNat yY;obtain ⟨r1,r2⟩:=Z5v L i (k+1) (ms++(.blk (Q3n.getD (Q8 L u.2 3).toNat []++Q3z.getD (Q8 L (u.2+1) 2).toNat []) (I9 (k+1)) u.1::Q7y.getD (Q8 L (u.2+2) 3).toNat [])) (u.2+3) (fun m hm=>by
    rcases aS.1 hm with hm | hm
    ·exact h m hm
    ·rcases aU.1 hm with rfl | hm
     ·exact ⟨c1,c2,u1⟩
     ·exact (hs m hm).1)
   exact ⟨r1,aP r2 yY⟩
theorem Z6x (k:Nat) (h:k < 3):(∀ m∈X0j.getD k [],Y0i m)∧Z1 (X0j.getD k [])=[]:=by
 have sk:∀ l:List UInt8,(∀ c∈l,c≠10)→Q6g l=true→Y0i (.skip l):=fun l a b=>⟨a,b⟩;rcases (show k=0∨k=1∨k=2 by omega) with rfl | rfl | rfl
 ·exact ⟨fun m hm=>by simp [X0j] at hm,rfl⟩
 ·refine ⟨fun m hm=>?_,rfl⟩;have:m=.skip [35,120]:=(by simpa [X0j] using hm);rw [this];exact sk _ yX yX
 ·refine ⟨fun m hm=>?_,rfl⟩;have:m=.skip []:=(by simpa [X0j] using hm);rw [this];exact sk _ yX yX
theorem Z6c (k:Nat) (h:k < 3):(∀ m∈Q9f.getD k [],Y0i m)∧Z1 (Q9f.getD k [])=[]:=by
 have sk:∀ l:List UInt8,(∀ c∈l,c≠10)→Q6g l=true→Y0i (.skip l):=fun l a b=>⟨a,b⟩;rcases (show k=0∨k=1∨k=2 by omega) with rfl | rfl | rfl
 ·exact ⟨fun m hm=>by simp [Q9f] at hm,rfl⟩
 ·refine ⟨fun m hm=>?_,rfl⟩;have:m=.skip [35,32,99]:=(by simpa [Q9f] using hm);rw [this];exact sk _ yX yX
 ·refine ⟨fun m hm=>?_,rfl⟩;have:m=.skip []∨m=.skip [32]:=(by simpa [Q9f] using hm);rcases this with e | e
  ·rw [e];exact sk _ yX yX
  ·rw [e];exact sk _ yX yX
theorem I3 (a b:List RL):Z1 (a++b)=Z1 a++Z1 b:=by simp [Z1]
def X7z:Nat→List (List UInt8)
 | 0=>[]
 | i+1=>(107::I9 (i+1))::X7z i
theorem V8i (i:Nat) (h:i < 9):1≤(107::I9 (i+1)).length∧(107::I9 (i+1)).length≤64∧(∀ c∈107::I9 (i+1),Q1h c=true):=by
 rcases (show i=0∨i=1∨i=2∨i=3∨i=4∨i=5∨i=6∨i=7∨i=8 by omega) with rfl | rfl | rfl | rfl | rfl | rfl | rfl | rfl | rfl<;>decide
theorem Z6k (L:List Int):∀ (i:Nat) (ls:List RL) (N:Nat),i≤9→(∀ m∈ls,Y0i m)→(∀ m∈(X4m L i ls N).1,Y0i m)∧Z1 (X4m L i ls N).1=Z1 ls++X7z i∧(X4m L i ls N).2≤N+503 * i
 | 0,ls,N,_,h=>⟨h,(aX _).symm,yQ⟩
 | i+1,ls,N,hi,h=>by
   obtain ⟨u1,_,u3⟩:=W9 2 (Or.inr (Or.inl rfl)) L N;rw [X4m];generalize J9 2 L N=u at u1 u3;have ha:=X5 L u.2 3 yX;obtain ⟨s1,s2⟩:=Z6x (Q8 L u.2 3).toNat yY;obtain ⟨k1,k2,k3⟩:=V8i i yY;obtain ⟨r1,r2,r3⟩:=Z6k L i (ls++(.unit (107::I9 (i+1)) u.1::X0j.getD (Q8 L u.2 3).toNat [])) (u.2+1) yY (fun m hm=>by
    rcases aS.1 hm with hm | hm
    ·exact h m hm
    ·rcases aU.1 hm with rfl | hm
     ·exact ⟨k1,k2,k3,u1⟩
     ·exact s1 m hm)
   refine ⟨r1,?_,aP r3 yY⟩;rw [r2,I3];show Z1 ls++((107::I9 (i+1))::Z1 (X0j.getD _ []))++X7z i=_;rw [s2,X7z];simp
def U2u (h:Nat) (r:Rc):Prop:=r.pre=rcA.getD h []∧r.post=rcB.getD h []∧RawOk 3 r.ts
theorem Z6r (L:List Int) (h:Nat):∀ (i k:Nat) (rs:List Rc) (N:Nat),(∀ r∈rs,U2u h r)→(∀ r∈(X0h L h i k rs N).1,U2u h r)∧(X0h L h i k rs N).2≤N+503 * i
 | 0,_,rs,N,hr=>⟨hr,yQ⟩
 | i+1,k,rs,N,hr=>by
   obtain ⟨u1,_,u3⟩:=W9 3 (Or.inr (Or.inr rfl)) L N;rw [X0h];generalize J9 3 L N=u at u1 u3;obtain ⟨r1,r2⟩:=Z6r L h i (k+1) (rs++[⟨rcA.getD h [],I9 (k+1),u.1,rcB.getD h []⟩]) u.2 (fun r hm=>by
    rcases aS.1 hm with hm | hm
    ·exact hr r hm
    ·rw [aJ.1 hm];exact ⟨rfl,rfl,u1⟩)
   exact ⟨r1,aP r2 yY⟩
open Tryz
theorem M7 (s:fY) (w:World) (hs:s.size≤maxLen):
 Calls prog 114 #[.string s] w fun e w'=>e=.returned (.bool (U3 s.data.toList))∧w=w':=by
 unfold maxLen at hs;have hb:=aC s;by_cases h1:s.size < 1
 ·have hn:=X5g s.data.toList yY;have H:=zW hn;clear hn hb;go_enter func114,ntmps114
  go_wp2
  go_ret
  exact ⟨K0 H.o.symm,rfl⟩
 by_cases h2:24 < s.size
 ·have hn:=X8k s.data.toList yY;have H:=zW hn;clear hn hb;go_enter func114,ntmps114
  go_wp2
  go_ret
  exact ⟨K0 H.o.symm,rfl⟩
 have h0:0 < s.size:=yY;have hg:s.data.toList[0]=s[0]:=rfl;by_cases h3:S6 s[0]=true
 ·have hn:=X8l s.data.toList yY yY (by rw [hg];exact h3);have H:=zW hn;have h3':97≤s[0].toNat∧s[0].toNat≤122:=(by simpa [S6] using h3);obtain ⟨h4,h5⟩:=h3';clear hn h3 hg;have HZ:=zW hb;clear hb;go_enter func114,ntmps114
  go_wp2
  go_loop [3] (fun i=>∃ k:Nat,1≤k∧k≤s.size∧i=.int .i64 k∧yK (U3 s.data.toList=(s.data.toList.drop k).all Q0c)) (fun i=>s.size - (intOf i).toNat)
  case atStart=>exact ⟨1,yY,yY,rfl,H.o⟩
  case round=>
   obtain ⟨k,he,hk,rfl,HR⟩:=hrel;by_cases hlt:k < s.size
   ·have hl:k < s.data.toList.length:=(by rw [←aC];exact hlt);have ha:=HR.o.trans (Q9j _ _ hl);have hgk:s.data.toList[k]=s[k]:=rfl;rw [hgk] at ha;have HS:=zW ha;clear ha hgk HR H;have hc:s[k].toNat < 256:=s[k].toNat_lt;go_wp2
    all_goals (try simp only [cM,aI,dZ,bne_eq_false_iff_eq,ne_eq,fR,Bool.not_eq_false',Bool.not_eq_eq_eq_not,Bool.not_true,Bool.not_false,cG,cY,Int.not_lt,Int.not_le] at *)
    all_goals first
     | (refine ⟨⟨k + 1,yY,yY, by go_num, ?_⟩, by simp [intOf]; try omega⟩
        have hr:Q0c s[k]=true:=(by simp only [Q0c,cG];omega);have:=HS.o;rw [hr,Bool.true_and] at this;exact this)
     | (have hr : Q0c s[k] = false := by simp only [Q0c, cY]; omega
        have:=HS.o;rw [hr,Bool.false_and] at this;go_ret
        exact ⟨K0 this.symm,rfl⟩)
   ·have hl:¬ k < s.data.toList.length:=(by rw [←aC];exact hlt);have ha:=HR.o.trans (X0s _ _ hl);have HS:=zW ha;clear ha HR H hl;go_wp2
    go_ret
    exact ⟨K0 HS.o.symm,rfl⟩
 ·have hd:S6 s[0]=false:=(by simpa using h3);have hn:=X8j s.data.toList yY (by rw [hg];exact hd);have H:=zW hn;have h3':¬ (97≤s[0].toNat∧s[0].toNat≤122):=(by simpa [S6] using h3);clear hn h3 hd hg hb;have hc:s[0].toNat < 256:=s[0].toNat_lt;by_cases h4:s[0].toNat < 97
  ·go_enter func114,ntmps114
   go_wp2
   go_ret
   exact ⟨K0 H.o.symm,rfl⟩
  ·have h5:122 < s[0].toNat:=yY;clear h3';go_enter func114,ntmps114
   go_wp2
   go_ret
   exact ⟨K0 H.o.symm,rfl⟩
theorem Q3q (s:fY) (w:World) (hs:s.size≤maxLen):
 Calls prog 139 #[.string s] w fun e w'=>e=.returned (.bool (U3 s.data.toList))∧w=w':=by
 unfold maxLen at hs;have hb:=aC s;by_cases h1:s.size < 1
 ·have hn:=X5g s.data.toList yY;have H:=zW hn;clear hn hb;go_enter func139,ntmps139
  go_wp2
  go_ret
  exact ⟨K0 H.o.symm,rfl⟩
 by_cases h2:24 < s.size
 ·have hn:=X8k s.data.toList yY;have H:=zW hn;clear hn hb;go_enter func139,ntmps139
  go_wp2
  go_ret
  exact ⟨K0 H.o.symm,rfl⟩
 have HZ:=zW hb;clear hb;go_enter func139,ntmps139
 go_wp2
 go_loop [3] (fun i=>∃ k:Nat,k≤s.size∧i=.int .i64 k∧(1≤k→yK (U3 s.data.toList=(s.data.toList.drop k).all Q0c))) (fun i=>s.size - (intOf i).toNat)
 case atStart=>exact ⟨0,yY,rfl,fun h=>yY⟩
 case round=>
  obtain ⟨k,hk,rfl,HR⟩:=hrel;have hc:=zW HR;clear HR;by_cases hlt:k < s.size
  ·have hl:k < s.data.toList.length:=(by rw [←aC];exact hlt);have hgk:s.data.toList[k]=s[k]:=rfl;have hf:s[k].toNat < 256:=s[k].toNat_lt;by_cases hk0:1≤k
   ·have ha:=(hc.o hk0).o.trans (Q9j _ _ hl);rw [hgk] at ha;have HS:=zW ha;clear ha hgk;go_wp2
    all_goals (try simp only [cM,aI,dZ,bne_eq_false_iff_eq,ne_eq,fR,Bool.not_eq_false',Bool.not_eq_eq_eq_not,Bool.not_true,Bool.not_false,cG,cY,Int.not_lt,Int.not_le] at *)
    all_goals first
     | (refine ⟨⟨k + 1,yY, by go_num, fun _ => ?_⟩, by simp [intOf]; try omega⟩
        have hr:Q0c s[k]=true:=(by simp only [Q0c,cG];omega);have:=HS.o;rw [hr,Bool.true_and] at this;exact this)
     | (have hr : Q0c s[k] = false := by simp only [Q0c, cY]; omega
        have:=HS.o;rw [hr,Bool.false_and] at this;go_ret
        exact ⟨K0 this.symm,rfl⟩)
   ·obtain rfl:k=0:=yY;have hd:=fun (h:S6 s[0]=true)=>X8l s.data.toList hl (by rw [←HZ.o];omega) (by rw [hgk];exact h);have he:=fun (h:S6 s[0]=false)=>X8j s.data.toList hl (by rw [hgk];exact h);have H1:=zW hd;have H2:=zW he;clear hd he hgk;go_wp2
    all_goals (try simp only [cM,aI,dZ,bne_eq_false_iff_eq,ne_eq,fR,Bool.not_eq_false',Bool.not_eq_eq_eq_not,Bool.not_true,Bool.not_false,cG,cY,Int.not_lt,Int.not_le] at *)
    all_goals first
     | (refine ⟨⟨0 + 1,yY, by go_num, fun _ => ?_⟩, by simp [intOf]; try omega⟩
        have hr:S6 s[0]=true:=(by simp only [S6,cG];omega);exact H1.o hr)
     | (have hr : S6 s[0] = false := by simp only [S6, cY]; omega
        go_ret
        exact ⟨K0 (H2.o hr).symm,rfl⟩)
  ·have hl:¬ k < s.data.toList.length:=(by rw [←aC];exact hlt);have ha:=(hc.o yY).o.trans (X0s _ _ hl);have HS:=zW ha;clear ha hl;go_wp2
   go_ret
   exact ⟨K0 HS.o.symm,rfl⟩
theorem Z2n (x n:Int) (hn:1≤n) (hx:x < 0):-n < x.tmod n∧x.tmod n≤0∧(x.tmod n < 0→x % n=x.tmod n+n)∧(¬ x.tmod n < 0→x % n=x.tmod n):=by
 have h1:x.tmod n=-((-x) % n):=by
  have h:=Int.neg_tmod (-x) n;rw [Int.neg_neg] at h;rw [h,Int.tmod_eq_emod_of_nonneg yY]
 have h2:=Int.emod_nonneg (-x) (show n≠0 by omega);have h3:=Int.emod_lt_of_pos (-x) (show 0 < n by omega);have h4:x=x.tmod n+n * x.tdiv n:=(Int.tmod_add_mul_tdiv x n).symm;have h5:x % n=(x.tmod n) % n:=by
  conv=>lhs;rw [h4]
  exact Int.add_mul_emod_self_left ..
 refine ⟨yY,yY,fun hl=>?_,fun hl=>?_⟩
 ·rw [h5,←Int.add_emod_right,Int.emod_eq_of_lt yY yY]
 ·rw [h5,Int.emod_eq_of_lt yY yY]
theorem Y2i (x n:Int) (w:World) (hx:H7 x) (hn:1≤n) (hn2:n≤1000000):
 Calls prog 73 #[.int .i64 x,.int .i64 n] w fun e w'=>e=.returned (.int .i64 (x % n))∧w=w':=by
 obtain ⟨hc,hd⟩:=hx;by_cases h:x < 0
 ·obtain ⟨q1,q2,q3,q4⟩:=Z2n x n hn h;by_cases hr:x.tmod n < 0
  ·have e:=q3 hr;go_enter func73,ntmps73
   go_wp2
   go_ret
   exact ⟨X2l yY,rfl⟩
  ·have e:=q4 hr;go_enter func73,ntmps73
   go_wp2
   go_ret
   exact ⟨X2l yY,rfl⟩
 ·go_enter func73,ntmps73
  have hb:=Int.emod_nonneg x (show n≠0 by omega);have ha:=Int.emod_lt_of_pos x (show 0 < n by omega);go_wp2
  go_ret
  exact ⟨rfl,rfl⟩
structure But (g:Nat) (w w':World):Prop where
 os:w'.os=w.os
 tape:w'.tape=w.tape
 output:w'.output=w.output
 size:w.heap.size≤w'.heap.size
 block:∀ k,k < w.heap.size→k≠g→w'.heap[k]? =w.heap[k]?
theorem But.refl (g:Nat) (w:World):But g w w:=⟨rfl,rfl,rfl,yQ,fun _ _ _=>rfl⟩
theorem But.trans {g:Nat} {a b c:World} (h:But g a b) (k:But g b c):But g a c:=
 ⟨k.os.trans h.os,k.tape.trans h.tape,k.output.trans h.output,aP h.size k.size,fun i hi hn=>(k.block i (bC hi h.size) hn).trans (h.block i hi hn)⟩
theorem But.of_below {g:Nat} {w w':World} (h:Below w.heap.size w w'):But g w w':=⟨h.os,h.tape,h.output,h.size,fun k hk _=>h.block k hk⟩
theorem But.below {g B:Nat} {w w':World} (h:But g w w') (hB:B≤g) (hg:g≤w.heap.size):Below B w w':=⟨h.os,h.tape,h.output,h.size,fun k hk=>h.block k yY yY⟩
theorem But.alloc {g:Nat} {a w:World} (h:But g a w) (o:Obj):But g a (w.alloc o):=h.trans (.of_below ((aB _ _).alloc yQ o))
theorem But.drewN {g:Nat} {a w:World} (h:But g a w) (n:Nat):But g a (w.drewN n):=⟨h.os,h.tape,h.output,h.size,h.block⟩
theorem But.set {g:Nat} {a w:World} (h:But g a w) (o:Nat) (u:Value):But g a (w.setCell ⟨g,o,none⟩ u):=by
 refine h.trans ⟨rfl,rfl,rfl,by simp [World.setCell],fun k hk hn=>aV _ _ _ _ hn⟩
def Nums (w:World) (g:Nat) (L:List Int) (N:Nat):Prop:=∃ v W0,w.heap[g]? =some (.cells #[v,.int .i64 N] 29)∧RdE V7 1 W0 v L∧W0.heap.size≤g∧(∀ k,k < W0.heap.size→w.heap[k]? =W0.heap[k]?)∧(∀ x∈L,H7 x)
theorem Nums.lt {w:World} {g:Nat} {L:List Int} {N:Nat} (h:Nums w g L N):g < w.heap.size:=by
 obtain ⟨v,W0,h,_⟩:=h;exact (aN.1 h).1
theorem Nums.keep {w w':World} {g:Nat} {L:List Int} {N:Nat} (h:Nums w g L N) (hk:∀ k,k < w.heap.size→w'.heap[k]? =w.heap[k]?):Nums w' g L N:=by
 have hb:=h.lt;obtain ⟨v,W0,h1,h2,h3,h4,h5⟩:=h;exact ⟨v,W0,(hk g hb).trans h1,h2,h3,fun k ha=>(hk k yY).trans (h4 k ha),h5⟩
theorem Nums.below {w w':World} {g:Nat} {L:List Int} {N B:Nat} (h:Nums w g L N) (hb:Below B w w') (hB:w.heap.size≤B):Nums w' g L N:=h.keep fun k hk=>hb.block k yY
theorem Nums.alloc {w:World} {g:Nat} {L:List Int} {N:Nat} (h:Nums w g L N) (o:Obj):Nums (w.alloc o) g L N:=h.keep fun _ hk=>bE _ _ _ hk
def Z0q (g:Nat) (L:List Int) (N':Nat) (v:Value) (w:World) (e:Ending) (w':World):Prop:=e=.returned v∧But g w w'∧Nums w' g L N'
theorem Y6 {w:World} {g:Nat} {cs:Array Value} {t:TypeId} (h:w.heap[g]? =some (.cells cs t)) (j:Nat):w.frozen? ⟨g,j,none⟩=false:=by
 unfold World.frozen?;rw [h];simp
theorem Y2e {w W0:World} {g N:Nat} {L:List Int} {v:Value} (h1:w.heap[g]? =some (.cells #[v,.int .i64 N] 29)) (h2:RdE V7 1 W0 v L) (h3:W0.heap.size≤g) (h4:∀ k,k < W0.heap.size→w.heap[k]? =W0.heap[k]?) (h5:∀ x∈L,H7 x) (a:Nat):
 Nums ((w.drewN a).setCell ⟨g,1,none⟩ (.int .i64 ((N:Int)+1))) g L (N+1):=by
 refine ⟨v,W0,?_,h2,h3,fun k hk=>?_,h5⟩
 ·have hh:(w.drewN a).heap[g]? =w.heap[g]? :=rfl;show ((w.drewN a).heap.modify g _)[g]? =_;rw [Array.getElem?_modify,aK rfl,hh,h1];rfl
 ·rw [aV _ _ _ _ (by show k≠g;omega)];exact h4 k hk
theorem Z2 (L:List Int) (g N:Nat) (n:Int) (w:World) (h:Nums w g L N) (hN:N≤1000000000) (hn:1≤n) (hn2:n≤1000000):
 Calls prog 34 #[.pointer (some ⟨g,0,none⟩),.int .i64 n] w (Z0q g L (N+1) (.int .i64 (Q8 L N n)) w):=by
 have hd:=h.lt;obtain ⟨v,W0,h1,h2,h3,h4,h5⟩:=h;have hb:RdE V7 1 w v L:=h2.keep yY h4;obtain ⟨A,c,rfl,_,_⟩:=hb.shape;have q1:w.cell? ⟨g,0,none⟩=some (.slice A L.length c):=(by rw [bV _ _ 0 _ _ _ h1];rfl);have q2:w.cell? ⟨g,1,none⟩=some (.int .i64 N):=(by rw [bV _ _ 1 _ _ _ h1];rfl);by_cases hNL:N < L.length
 ·obtain ⟨b,o,rfl,hc,hx⟩:=RdE.cells hb yY;have q3:=hx N _ 0 _ (aF hNL) rfl;simp only [Nat.mul_one,cV] at q3;have ha:=h5 _ (aL hNL);have hv:yK (Q8 L N n=L[N] % n):=by
   show Q8 L N n=L[N] % n;unfold Q8;rw [bH,aF hNL];rfl
  generalize L[N]=x at q3 ha hv;have q4:w.frozen? ⟨g,1,none⟩=false:=Y6 h1 1;have HN:=Y2e h1 h2 h3 h4 h5;go_enter func34,ntmps34
  go_wp2_with fail
  go_quiet (fail)
  go_wp2_with fail
  go_quiet (fail)
  go_wp2_with (go_at_call 73;refine (Y2i x n _ ha hn hn2).mono ?_;rintro e w' ⟨rfl,rfl⟩)
  go_ret
  refine ⟨X2l hv.o.symm,?_,?_⟩
  ·exact But.set (But.drewN (But.refl g w) _) 1 _
  ·exact HN _
 ·have hv:yK (Q8 L N n=0 % n):=by
   show Q8 L N n=0 % n;unfold Q8;rw [bH,dF yY];rfl
  have q4:w.frozen? ⟨g,1,none⟩=false:=Y6 h1 1;have HN:=Y2e h1 h2 h3 h4 h5;go_enter func34,ntmps34
  go_wp2_with fail
  go_quiet (fail)
  go_wp2_with (go_at_call 73;refine (Y2i 0 n _ ⟨yY,yY⟩ hn hn2).mono ?_;rintro e w' ⟨rfl,rfl⟩)
  go_ret
  refine ⟨X2l hv.o.symm,?_,?_⟩
  ·exact But.set (But.drewN (But.refl g w) _) 1 _
  ·exact HN _
theorem Q2r (w:World) (g:Nat) (hg:w.heap.size=g) (xs:List fY) (t:TypeId) (k:Nat) (h:k < xs.length):(w.alloc (.cells (xs.map Value.string).toArray t)).cell? ⟨g,k,none⟩=some (.string (xs.getD k ⟨#[]⟩)):=by
 subst hg;have:=N4 w (xs.map Value.string) t k (.string (xs.getD k ⟨#[]⟩)) (by rw [cE,aF h,bH,aF h];rfl);rwa [eO,bI] at this
theorem Y3g (L:List Int) (g N:Nat) (w:World) (h:Nums w g L N) (hN:N≤1000000000):
 Calls prog 74 #[.pointer (some ⟨g,0,none⟩)] w (Z0q g L (N+1) (.string (G5 L N)) w):=by
 have H:=zW (h.alloc (.cells (Q5a.map Value.string).toArray 9));have hn:=X5 L N 24 yY;have HC:=Q2r w _ rfl Q5a 9 (Q8 L N 24).toNat (by show _ < 24;omega);have HW:yK (Q5a.getD (Q8 L N 24).toNat ⟨#[]⟩=G5 L N):=(by show Q5a.getD (Q8 L N 24).toNat ⟨#[]⟩=G5 L N;rfl);have HB:=zW (But.alloc (But.refl g w) (.cells (Q5a.map Value.string).toArray 9));have HX:=fun (X:World) (hb:But g (w.alloc (.cells (Q5a.map Value.string).toArray 9)) X)=>(dX (a:=⟨w.heap.size,(Q8 L N 24).toNat,none⟩) (hb.block w.heap.size yW (by have:=h.lt;omega))).trans HC;have ha:=zW HX;clear h HX HC;go_enter func74,ntmps74
 go_wp2_with fail
 refine (Z2 L g N 24 _ (by exact H.o) hN yX yX).mono ?_;rintro e w1 ⟨rfl,hb1,hn1⟩;have q:=ha.o w1 (by exact hb1);have hc:But g w w1:=HB.o.trans (by exact hb1);rw [HW.o] at q;generalize Q8 L N 24=z at hn q;have hz:((z.toNat:Nat):Int)=z:=yY;go_wp2_with fail
 go_ret
 exact ⟨rfl,hc,hn1⟩
theorem X4d (L:List Int) (g N:Nat) (n:Int) (w:World) (h:Nums w g L N) (hN:N≤100000000) (hn:0≤n) (hn2:n≤1000):
 Calls prog 35 #[.pointer (some ⟨g,0,none⟩),.int .i64 n] w (Z0q g L (J3 L N n).2 (.string (J3 L N n).1) w):=by
 have HT:yK (T9 L (Q8 L N (n+1)).toNat ⟨#[]⟩ (N+1)=J3 L N n):=(by show T9 L (Q8 L N (n+1)).toNat ⟨#[]⟩ (N+1)=J3 L N n;rfl);have hb:=X5 L N (n+1) yY;have hm:=zW (Z2 L g N (n+1) w h yY yY yY);generalize Q8 L N (n+1)=z at HT hb hm;generalize J3 L N n=tgt at HT;obtain ⟨m,rfl⟩:∃ m:Nat,z=(m:Int):=⟨z.toNat,yY⟩;rw [cH] at HT;clear h;go_enter func35,ntmps35
 go_wp2_with fail
 refine (hm.o).mono ?_;rintro e w1 ⟨rfl,hb1,hn1⟩;have hp:=zW hb1;have hq:=zW hn1;clear hb1 hn1;go_wp2_with fail
 go_loopw [5,6] (fun ov iv wr=>∃ (out:fY) (i N':Nat),ov=.string out∧iv=.int .i64 i∧i≤m∧N'+2 * i≤N+1+2 * m∧out.size+6 * i≤6 * m∧yK (But g w wr)∧yK (Nums wr g L N')∧yK (T9 L i out N'=tgt)) (fun _ iv _=>(intOf iv).toNat)
 case atStart=>exact ⟨⟨#[]⟩,m,N+1,rfl,rfl,yQ,yQ,by show 0+6 * m≤_;omega,hp.o,hq.o,HT.o⟩
 case round=>
  obtain ⟨out,i,N',rfl,rfl,hv,hu,hx,HB,HN,HG⟩:=hrel;cases i with
  | zero=>
    have he:=HG.o;rw [T9] at he;subst he;go_wp2_with fail
    go_ret
    exact ⟨rfl,HB.o,HN.o⟩
  | succ i=>
    have hw:(G5 L N').size≤5:=Y0e _;by_cases ho:0 < out.size
    ·have h3:=X5 L (N'+1) 3 yY;have hr:(out.toList==[])=false:=by
      rw [aI,Y7];intro h;have:=aC out;rw [h] at this;simp only [eB] at this;omega
     have hs:out.toList.isEmpty=false:=by
      rw [List.isEmpty_eq_false_iff];simpa using hr
     have hj:(out++⟨#[32]⟩++G5 L N').size≤out.size+6:=by
      rw [bD,bD];show out.size+1+(G5 L N').size≤_;omega
     have hc:(out++G5 L N').size≤out.size+6:=by
      rw [bD];omega
     have hf:=zW (Y3g L g N' wr HN.o yY);by_cases hz:0 < Q8 L (N'+1) 3
     ·have hd:yK (T9 L i (out++⟨#[32]⟩++G5 L N') (N'+2)=tgt):=by
       have:=HG.o;rw [T9,aK ho,aK hz] at this;exact this
      generalize G5 L N'=wd at hw hj hc hf hd;have ha:=fun w h=>Z2 L g (N'+1) 3 w h yY yY yY;have hi:=zW ha;generalize Q8 L (N'+1) 3=z3 at h3 hz hi ha;clear ha;go_wp2_with fail
      refine (hf.o).mono ?_;rintro e w2 ⟨rfl,hb2,hn2'⟩;have hg:=zW (HB.o.trans hb2);have hh:=zW hn2';clear hb2 hn2';go_wp2_with fail
      refine (hi.o w2 hh.o).mono ?_;rintro e w3 ⟨rfl,hb3,hn3⟩;have hk:=zW (hg.o.trans hb3);have hl:=zW hn3;clear hb3 hn3;go_wp2_with fail
      exact ⟨⟨_,i,N'+2,rfl,by go_num,yY,yY,yY,hk.o,hl.o,hd.o⟩,by simp [intOf];try omega⟩
     ·have hd:yK (T9 L i (out++G5 L N') (N'+2)=tgt):=by
       have:=HG.o;rw [T9,aK ho,aE hz] at this;exact this
      generalize G5 L N'=wd at hw hj hc hf hd;have ha:=fun w h=>Z2 L g (N'+1) 3 w h yY yY yY;have hi:=zW ha;generalize Q8 L (N'+1) 3=z3 at h3 hz hi ha;clear ha;go_wp2_with fail
      refine (hf.o).mono ?_;rintro e w2 ⟨rfl,hb2,hn2'⟩;have hg:=zW (HB.o.trans hb2);have hh:=zW hn2';clear hb2 hn2';go_wp2_with fail
      refine (hi.o w2 hh.o).mono ?_;rintro e w3 ⟨rfl,hb3,hn3⟩;have hk:=zW (hg.o.trans hb3);have hl:=zW hn3;clear hb3 hn3;go_wp2_with fail
      exact ⟨⟨_,i,N'+2,rfl,by go_num,yY,yY,yY,hk.o,hl.o,hd.o⟩,by simp [intOf];try omega⟩
    ·have hz:out.data.toList=[]:=cC (by rw [←aC];omega);have ht:out=⟨#[]⟩:=Q0f hz;subst ht;have hd:yK (T9 L i (⟨#[]⟩++G5 L N') (N'+1)=tgt):=by
      have:=HG.o;rw [T9,aE ho] at this;exact this
     have hc:((⟨#[]⟩:fY)++G5 L N').size≤6:=by
      rw [bD];show 0+_≤6;omega
     have hf:=zW (Y3g L g N' wr HN.o yY);have hos':6 * (i+1)≤6 * m:=(by have:(ByteArray.mk #[]).size=0:=rfl;omega);generalize G5 L N'=wd at hw hc hf hd;go_wp2_with fail
     refine (hf.o).mono ?_;rintro e w2 ⟨rfl,hb2,hn2'⟩;have hg:=zW (HB.o.trans hb2);have hh:=zW hn2';clear hb2 hn2';go_wp2_with fail
     exact ⟨⟨_,i,N'+1,rfl,by go_num,yY,yY,yY,hg.o,hh.o,hd.o⟩,by simp [intOf];try omega⟩
theorem OwnT.unsnoc {e:TypeId} {w:World} {B:Nat} {v:Value} {l:List Tk} {x:Tk} (h:OwnT e w B v (l++[x])):∃ g cap,v=.slice (some ⟨g,0,none⟩) (l.length+1) cap∧B≤g∧
 w.ownsRow B e 3 (.slice (some ⟨g,0,none⟩) (l.length+1) cap) (l.length+1) (l.flatMap tkC++tkC x):=by
 unfold OwnT OwnE at h;rw [aA,dE] at h;obtain ⟨g,c,hv,hb⟩:=X8t h yW;subst hv;exact ⟨g,c,rfl,hb,by simpa using h⟩
section
variable {e:TypeId} {w:World} {B g cap:Nat} {l:List Tk} {x:Tk}
theorem OwnT.lastCells (h:w.ownsRow B e 3 (.slice (some ⟨g,0,none⟩) (l.length+1) cap) (l.length+1) (l.flatMap tkC++tkC x)):
 w.cell? ⟨g,l.length * 3,none⟩=some (.int .i64 x.k)∧w.cell? ⟨g,l.length * 3+1,none⟩=some (.string x.t)∧w.cell? ⟨g,l.length * 3+2,none⟩=some (.int .i64 x.d):=by
 have hl:=I0 tkC 3 Q5 l;refine ⟨?_,?_,?_⟩
 ·rw [h.cellAt _ yY,bF yY,hl,cZ];rfl
 ·rw [h.cellAt _ yY,bF yY,hl,eR];rfl
 ·rw [h.cellAt _ yY,bF yY,hl,eR];rfl
theorem OwnT.lastSet (h:w.ownsRow B e 3 (.slice (some ⟨g,0,none⟩) (l.length+1) cap) (l.length+1) (l.flatMap tkC++tkC x)) (y:Tk):
 OwnT e (((w.setCell ⟨g,l.length * 3,none⟩ (.int .i64 y.k)).setCell ⟨g,l.length * 3+1,none⟩ (.string y.t)).setCell ⟨g,l.length * 3+2,none⟩ (.int .i64 y.d)) B (.slice (some ⟨g,0,none⟩) (l.length+1) cap) (l++[y]):=by
 have hl:=I0 tkC 3 Q5 l;have h1:=(h.stored (l.length * 3) (.int .i64 y.k)).1;have h2:=(h1.stored (l.length * 3+1) (.string y.t)).1;have h3:=(h2.stored (l.length * 3+2) (.int .i64 y.d)).1;refine OwnE.snoc ?_;rw [eZ _ _ yY,hl,cZ,eZ _ _ yY,hl,eR,eZ _ _ yY,hl,eR] at h3;exact h3
end
theorem V0b (f:List Tk) (v:Value) (w:World) (hf:RdT w v f) (hl:f.length≤100000) (hbt:X2 f≤1000000):
 Calls prog 33 #[v] w (N6 31 tkC 3 w (Q4 f)):=by
 obtain ⟨A,c,rfl,_,_⟩:=hf.shape;have HF:=zW hf;clear hf;go_enter func33,ntmps33
 go_wp2
 go_loopw [3,9] (fun ov i wr=>∃ k:Nat,k≤f.length∧i=.int .i64 k∧yK (OwnT 31 wr w.heap.size ov (Q4 (f.take k)))∧Below w.heap.size w wr) (fun _ i _=>f.length - (intOf i).toNat)
 case atStart=>exact ⟨0,yY,rfl,OwnE.nil,aB _ _⟩
 case round=>
  obtain ⟨k,hk,rfl,HO,hb⟩:=hrel;have ha:=hb.size;by_cases hkl:k < f.length
  ·obtain ⟨b,o,rfl,hn,q1,q2,q3⟩:=RdT.at_ HF.o k hkl;rw [←hb.cell (p:=⟨b,o+k * 3,none⟩) hn] at q1;rw [←hb.cell (p:=⟨b,o+k * 3+1,none⟩) hn] at q2;rw [←hb.cell (p:=⟨b,o+k * 3+2,none⟩) hn] at q3;have HT:=zW (Q9z f k hkl);have hi:(Q4 (f.take k)).length≤100000:=by
    have:=N0 (f.take k);rw [bG] at this;omega
   have hh:X2 (Q4 (f.take k))+f[k].t.size≤1000000:=by
    rw [Q1j];have:=Y6h f k hkl;omega
   generalize f[k]=x at q1 q2 q3 HT hh;obtain ⟨xk,xt,xd⟩:=x;simp only at q1 q2 q3 hh;generalize Q4 (f.take k)=out at HO HT hi hh;by_cases h1:xk=1
   ·subst h1;by_cases he:xt.size=0
    ·have hx:xt=⟨#[]⟩:=Q0f (cC (by rw [←aC];exact he));have HX:=zW (O2 out ⟨1,xt,xd⟩ rfl he);subst hx;obtain ⟨A',c',hv⟩:=Q0 HO.o;subst hv;go_wp2_with fail
     refine ⟨⟨k+1,yY,by go_num,?_,hb.alloc ha _⟩,by simp [intOf];try omega⟩;rw [HT.o,HX.o];exact aD HO.o _
    ·have ht:(xt.toList==[])=false:=by
      rw [aI,Y7];intro h;apply he;rw [aC,h];rfl
     have hu:xt.toList.isEmpty=false:=by
      rw [List.isEmpty_eq_false_iff];simpa using ht
     rcases bS out with rfl | ⟨o2,y,rfl⟩
     ·have HX:=zW (U2 ⟨1,xt,xd⟩ rfl he);obtain ⟨A',c',hv⟩:=Q0 HO.o;subst hv;clear he;go_wp2_with (at_builtin;go_must (refine Z7 rfl (.tmp 53) (.tmp 57) 24 31 rfl underlying24 _ 3 32 Z8 rfl yX w.heap.size _ 0 [] rfl (by exact aD (aD HO.o _) _) ⟨wr.heap.size+1,0,none⟩ 1 (tkC ⟨1,xt,0⟩) rfl rfl (by exact T6 _ _ yW _ _) (D4 _) yY yX yV ?_);intro g cap w1 hown1 hg1 hbel1 hgr1)
      refine ⟨⟨k+1,yY,by go_num,?_,hbel1 _ _ yQ (by exact (hb.alloc ha _).alloc yV _)⟩,by simp [intOf];try omega⟩;rw [HT.o,HX.o];exact hown1
     ·rw [bN] at HO HT hi hh;obtain ⟨yk,yt,yd⟩:=y;obtain ⟨g,cap,hv,hg,hc⟩:=OwnT.unsnoc HO.o;subst hv;obtain ⟨p1,p2,p3⟩:=OwnT.lastCells hc;have hw:o2.length+1≤100000:=(by simpa using hi);have hm:g < wr.heap.size:=World.block_lt_of_cell? _ _ p1;have p1':∀ ob,(wr.alloc ob).cell? ⟨g,o2.length * 3,none⟩=some (.int .i64 yk):=fun ob=>(World.cell?_alloc_lt _ _ _ hm).trans p1;by_cases hy:yk=1
      ·subst hy;have HX:=zW (K5 o2 ⟨1,yt,yd⟩ ⟨1,xt,xd⟩ rfl he rfl);have hC:yt.size+xt.size≤1000000:=by
        rw [J7,F6] at hh;simp only at hh;omega
       clear he hi hh;go_wp2_with fail
       have s1:=(World.cell?_alloc_lt wr (.cells #[.int .i64 1,.string xt,.int .i64 xd] 31) ⟨g,o2.length * 3,none⟩ hm).trans p1;have s2:=(World.cell?_alloc_lt wr (.cells #[.int .i64 1,.string xt,.int .i64 xd] 31) ⟨g,o2.length * 3+1,none⟩ hm).trans p2;have s3:=(World.cell?_alloc_lt wr (.cells #[.int .i64 1,.string xt,.int .i64 xd] 31) ⟨g,o2.length * 3+2,none⟩ hm).trans p3;have z1:(wr.alloc (.cells #[.int .i64 1,.string xt,.int .i64 xd] 31)).cell? ⟨wr.heap.size,1,none⟩=some (.string xt):=T6 wr _ rfl [.int .i64 1,.string xt,.int .i64 xd] 31 1 _ rfl;have hd:=aD hc (.cells #[.int .i64 1,.string xt,.int .i64 xd] 31);have fz:=fun j=>hd.frozenAt j;have hq:=hb.alloc ha (.cells #[.int .i64 1,.string xt,.int .i64 xd] 31);have hj:=zW hd;have hp:=zW hq;have hr:(wr.alloc (.cells #[.int .i64 1,.string xt,.int .i64 xd] 31)).heap.size=wr.heap.size+1:=yW;have hs:=zW hr;have ew:IntKind.i64.wrap ((o2.length:Int)+1 - 1)=(o2.length:Int):=(by rw [cQ];omega);clear p1 p2 p3 p1' hd hq hr q1 q2 q3 hc HO;generalize (wr.alloc (.cells #[.int .i64 1,.string xt,.int .i64 xd] 31))=W1 at s1 s2 s3 z1 fz hj hp hs ⊢;go_region
       go_wp2_with fail
       refine ⟨⟨k+1,yY,by go_num,?_,?_⟩,by simp [intOf];try omega⟩
       ·rw [HT.o,HX.o];exact OwnT.lastSet hj.o ⟨1,yt++xt,0⟩
       ·exact (((hp.o.setCell (p:=⟨g,o2.length * 3,none⟩) hg _).setCell (p:=⟨g,o2.length * 3+1,none⟩) hg _).setCell (p:=⟨g,o2.length * 3+2,none⟩) hg _).drew
      ·have HX:=zW (E8 o2 ⟨yk,yt,yd⟩ ⟨1,xt,xd⟩ rfl he hy);have hB:(yk==1)=false:=(by simpa using hy);have ho:(o2++[⟨yk,yt,yd⟩]:List Tk).length=o2.length+1:=yW;have hj:=zW hc;clear he hy hh hi hc;go_wp2_with (at_builtin;go_must (refine Z7 rfl (.tmp 53) (.tmp 57) 24 31 rfl underlying24 _ 3 32 Z8 rfl yX w.heap.size _ (o2.length+1) (o2.flatMap tkC++tkC ⟨yk,yt,yd⟩) rfl (by exact aD (aD hj.o _) _) ⟨wr.heap.size+1,0,none⟩ 1 (tkC ⟨1,xt,0⟩) rfl rfl (by exact T6 _ _ yW _ _) (D4 _) yY yX yV ?_);intro g2 cap2 w1 hown1 hg3 hbel1 hgr1)
       refine ⟨⟨k+1,yY,by go_num,?_,hbel1 _ _ yQ (by exact (hb.alloc ha _).alloc yV _)⟩,by simp [intOf];try omega⟩;rw [HT.o,HX.o];refine OwnE.snoc ?_;rw [ho,dE];simpa using hown1
   ·have HX:=zW (D9 out ⟨xk,xt,xd⟩ h1);have hz:(xk==1)=false:=(by simpa using h1);have hA:(xk != 1)=true:=(by simpa using h1);obtain ⟨A',c',hv⟩:=Q0 HO.o;subst hv;clear h1;go_wp2_with (at_builtin;go_must (refine Z7 rfl (.tmp 19) (.tmp 21) 24 31 rfl underlying24 _ 3 32 Z8 rfl yX w.heap.size _ _ _ rfl (by exact aD (aD HO.o _) _) ⟨wr.heap.size+1,0,none⟩ 1 (tkC ⟨xk,xt,xd⟩) rfl rfl (by exact T6 _ _ yW _ _) (D4 _) yY yX yV ?_);intro g cap w1 hown1 hg1 hbel1 hgr1)
    refine ⟨⟨k+1,yY,by go_num,?_,hbel1 _ _ yQ (by exact (hb.alloc ha _).alloc yV _)⟩,by simp [intOf];try omega⟩;rw [HT.o,HX.o];exact OwnE.snoc hown1
  ·obtain rfl:k=f.length:=yY;obtain ⟨A',c',hv⟩:=Q0 HO.o;subst hv;go_wp2_with fail
   go_ret
   refine ⟨_,rfl,?_,hb⟩;have he:=HO.o;rw [aW] at he ⊢;exact he
theorem Q1o (f g:List Tk) (v u:Value) (w:World) (hf:RdT w v f) (hg:RdT w u g) (hl:f.length+g.length≤100000) (hbt:X2 f+X2 g≤1000000):
 Calls prog 8 #[v,u] w (N6 31 tkC 3 w (Q4 (f++g))):=by
 obtain ⟨A,c,rfl,_,_⟩:=hf.shape;obtain ⟨A2,c2,rfl,_,_⟩:=hg.shape;have HF:=zW hf;have HG:=zW hg;clear hf hg;go_enter func8,ntmps8
 go_wp2_with (first
  | (at_builtin;refine V2 rfl (.const (.slice none 0 0)) (.tmp 5) 24 31 rfl underlying24 _ tkC 3 32 Z8 rfl yX Q5 D4 w.heap.size _ [] rfl (by exact OwnE.nil) _ f rfl (by exact HF.o) yV yX yQ ?_;intro v1 w1 hc ha hh;have hm:=zW hc;have he:=zW (ha w.heap.size w yQ (aB _ _));have ho:=he.o.size;clear hc ha hh)
  | (at_builtin;refine V2 rfl (.tmp 6) (.tmp 7) 24 31 rfl underlying24 _ tkC 3 32 Z8 rfl yX Q5 D4 w.heap.size _ f rfl (by exact hm.o) _ g rfl (by exact RdE.below HG.o he.o yQ) yY yX ho ?_;intro v2 w2 hd hb hi;have hn:=zW hd;have hj:=zW (hb w.heap.size w yQ he.o);have hk:=hj.o.size;clear hd hb hi)
  | (go_at_call 33;refine (V0b (f++g) _ _ (by exact OwnE.rd Q5 hn.o) (by rw [aA];exact hl) (by rw [J7];exact hbt)).mono ?_;rintro e w3 ⟨v3,rfl,hown3,hb3⟩))
 go_ret
 exact ⟨v3,rfl,Y3 hown3 hk,hj.o.trans (hb3.mono hk)⟩
def M8 (l:List UInt8):List UInt8:=l.takeWhile (fun c=>c != 32)
theorem Z9b (c:UInt8) (r:List UInt8) (h:c=32):M8 (c::r)=[]:=by
 subst h;rfl
theorem Z9a (c:UInt8) (r:List UInt8) (h:(c != 32)=true):M8 (c::r)=c::M8 r:=by
 rw [M8,dT,aK h];rfl
theorem B8 (s:fY) (w:World) (hs:s.size≤1000000):
 Calls prog 36 #[.string s] w fun e w'=>e=.returned (.string ⟨(M8 s.data.toList).toArray⟩)∧w=w':=by
 go_enter func36,ntmps36
 go_wp2
 go_loop [3] (fun i=>∃ k:Nat,k≤s.size∧i=.int .i64 k∧yK (M8 s.data.toList=s.data.toList.take k++M8 (s.data.toList.drop k))) (fun i=>s.size - (intOf i).toNat)
 case atStart=>exact ⟨0,yY,rfl,rfl⟩
 case round=>
  obtain ⟨k,hk,rfl,HR⟩:=hrel;by_cases hlt:k < s.size
  ·have hl:k < s.data.toList.length:=(by rw [←aC];exact hlt);have hd:s[k].toNat < 256:=s[k].toNat_lt;have HD:=zW (show s.data.toList.drop k=s[k]::s.data.toList.drop (k+1) from aQ hl);have HK:=zW (show s.data.toList.take (k+1)=s.data.toList.take k++[s[k]] from aH hl);by_cases hc:s[k].toNat=32
   ·have ht:((s[k].toNat:Int)==32)=true:=yV;have ha:s[k]=32:=cN.1 hc;have hb:=zW ha;clear hc ha;go_wp2_with fail
    go_ret
    have hj:=HR.o;rw [HD.o,Z9b _ _ hb.o,aX] at hj;refine ⟨Q5w ?_,rfl⟩;rw [hj];show Value.string (s.extract 0 k)=_;rw [Lib.extract_eq,cO,dH]
   ·have ht:((s[k].toNat:Int)==32)=false:=yV;have ha:(s[k] != 32)=true:=by
     rw [dZ];intro h;rw [h] at hc;exact hc rfl
    have hb:=zW ha;clear hc ha;go_wp2_with fail
    refine ⟨⟨k+1,yY,by go_num,?_⟩,by simp [intOf];try omega⟩;have hj:=HR.o;show _=_;rw [hj,HD.o,HK.o,aZ,Z9a _ _ hb.o];rfl
  ·have hz:s.data.toList.drop k=[]:=eD (by rw [←aC];omega);have he:s.data.toList.take k=s.data.toList:=bP (by rw [←aC];omega);go_wp2_with fail
   go_ret
   have hj:=HR.o;rw [hz,he] at hj;refine ⟨Q5w ?_,rfl⟩;rw [hj];show Value.string s=.string ⟨(s.data.toList++[]).toArray⟩;rw [aX,Lib.mk_data]
theorem RdT.one_at (w:World) (g:Nat) (hg:w.heap.size=g) (x:Tk) (t:TypeId):RdT (w.alloc (.cells (tkC x).toArray t)) (.slice (some ⟨g,0,none⟩) 1 1) [x]:=by
 subst hg;refine ⟨some ⟨w.heap.size,0,none⟩,1,rfl,by simp,(fun h=>by cases h),fun _=>⟨w.heap.size,0,rfl,by simp,fun i y j u hi hj=>?_⟩⟩;have ha:i=0:=by
  have:=(aM.1 hi).1;simpa using this
 subst ha;simp at hi;subst hi;have:=N4 w (tkC x) t j u hj;rw [eO] at this;simpa using this
theorem Nums.keepg {w w':World} {g:Nat} {L:List Int} {N:Nat} (h:Nums w g L N) (hk:∀ k,k≤g→w'.heap[k]? =w.heap[k]?):Nums w' g L N:=by
 obtain ⟨v,W0,h1,h2,h3,h4,h5⟩:=h;exact ⟨v,W0,(hk g yQ).trans h1,h2,h3,fun k ha=>(hk k yY).trans (h4 k ha),h5⟩
theorem T5 {w:World} {b:Nat} {v0 v1 v2:Value} {t:TypeId} (h:w.heap[b]? =some (.cells #[v0,v1,v2] t)):
 w.cell? ⟨b,0,none⟩=some v0∧w.cell? ⟨b,1,none⟩=some v1∧w.cell? ⟨b,2,none⟩=some v2∧w.frozen? ⟨b,0,none⟩=false∧w.frozen? ⟨b,1,none⟩=false∧w.frozen? ⟨b,2,none⟩=false:=
 ⟨by rw [bV _ _ 0 _ _ _ h];rfl,by rw [bV _ _ 1 _ _ _ h];rfl,by rw [bV _ _ 2 _ _ _ h];rfl,Y6 h 0,Y6 h 1,Y6 h 2⟩
theorem I8 {w w':World} {g:Nat} {xs:List fY} {t:TypeId} (z:Int) (h0:0≤z) (hz:z < xs.length) (hg:g < w.heap.size) (hb:But g (w.alloc (.cells (xs.map Value.string).toArray t)) w'):
 w'.cell? ⟨w.heap.size,z.toNat,none⟩=some (.string (xs.getD z.toNat ⟨#[]⟩)):=by
 rw [dX (w:=w.alloc (.cells (xs.map Value.string).toArray t)) (hb.block _ yW (by show w.heap.size≠g;omega))];exact Q2r w w.heap.size rfl xs t z.toNat yY
theorem D0 {w:World} {b:Nat} {cs:Array Value} {t:TypeId} (h:w.heap[b]? =some (.cells cs t)) (j:Nat) (u:Value):(w.setCell ⟨b,j,none⟩ u).heap[b]? =some (.cells (cs.setIfInBounds j u) t):=by
 show (w.heap.modify b _)[b]? =_;rw [Array.getElem?_modify,aK rfl,h];rfl
theorem V1m {w:World} {b:Nat} {v0 v1 v2:Value} {t:TypeId} (h:w.heap[b]? =some (.cells #[v0,v1,v2] t)) (u0 u1 u2:Value):
 (((w.setCell ⟨b,0,none⟩ u0).setCell ⟨b,1,none⟩ u1).setCell ⟨b,2,none⟩ u2).heap[b]? =some (.cells #[u0,u1,u2] t):=
 D0 (D0 (D0 h 0 u0) 1 u1) 2 u2
theorem Q5x {w:World} {b:Nat} (u0 u1 u2:Value) (k:Nat) (h:k≠b):(((w.setCell ⟨b,0,none⟩ u0).setCell ⟨b,1,none⟩ u1).setCell ⟨b,2,none⟩ u2).heap[k]? =w.heap[k]? :=by
 rw [aV _ _ _ _ h,aV _ _ _ _ h,aV _ _ _ _ h]
theorem Y2w {w:World} {b:Nat} (u0 u1 u2:Value):(((w.setCell ⟨b,0,none⟩ u0).setCell ⟨b,1,none⟩ u1).setCell ⟨b,2,none⟩ u2).heap.size=w.heap.size:=by simp [World.setCell]
def X5a (b:Nat) (v:Value):Prop:=∀ k,v.ownBlock=some k→k≠b
def Q3h (v u:Value):Prop:=∀ k,v.ownBlock=some k→u.ownBlock≠some k
structure FR (g b:Nat) (w:World) (fv:Value) (f:List Tk) (L:List Int) (ov:Value) (op:List Tk) (x:Tk) (M:Nat) (wx:World):Prop where
 own:OwnT 31 wx w.heap.size fv f
 ownO:OwnT 31 wx w.heap.size ov op
 apart:Q3h fv ov
 nf:X5a b fv
 no:X5a b ov
 box:wx.heap[b]? =some (.cells #[.int .i64 x.k,.string x.t,.int .i64 x.d] 31)
 but:But g w wx
 num:Nums wx g L M
 gB:g < w.heap.size
 bB:w.heap.size≤b
section
variable {g b:Nat} {w:World} {fv:Value} {f:List Tk} {L:List Int} {ov ov':Value} {op op':List Tk} {x:Tk} {M M':Nat} {wx w':World}
theorem FR.call (h:FR g b w fv f L ov op x M wx) (hb:But g wx w') (hn:Nums w' g L M'):FR g b w fv f L ov op x M' w':=by
 have hg:=h.gB;have ha:=h.bB;refine ⟨Q7 h.own fun k hk=>?_,Q7 h.ownO fun k hk=>?_,h.apart,h.nf,h.no,?_,h.but.trans hb,hn,hg,ha⟩
 ·have:=h.own.lt k hk;exact hb.block k this.2 yY
 ·have:=h.ownO.lt k hk;exact hb.block k this.2 yY
 ·rw [hb.block b (aN.1 h.box).1 yY];exact h.box
theorem FR.alloc (h:FR g b w fv f L ov op x M wx) (o:Obj):FR g b w fv f L ov op x M (wx.alloc o):=h.call ((But.refl _ _).alloc o) (h.num.alloc o)
theorem FR.drew (h:FR g b w fv f L ov op x M wx):FR g b w fv f L ov op x M wx.drew:=h.call ((But.refl g wx).drewN 1) (h.num.keepg fun _ _=>rfl)
theorem FR.set3 (h:FR g b w fv f L ov op x M wx) (y:Tk):FR g b w fv f L ov op y M (((wx.setCell ⟨b,0,none⟩ (.int .i64 y.k)).setCell ⟨b,1,none⟩ (.string y.t)).setCell ⟨b,2,none⟩ (.int .i64 y.d)):=by
 have hg:=h.gB;have ha:=h.bB;refine ⟨Q7 h.own fun k hk=>Q5x _ _ _ _ (h.nf k hk),Q7 h.ownO fun k hk=>Q5x _ _ _ _ (h.no k hk),h.apart,h.nf,h.no,V1m h.box _ _ _,?_,h.num.keepg fun k hk=>Q5x _ _ _ _ yY,hg,ha⟩;exact ⟨h.but.os,h.but.tape,h.but.output,by rw [Y2w];exact h.but.size,fun k hk hn=>(Q5x _ _ _ _ yY).trans (h.but.block k hk hn)⟩
theorem FR.push (h:FR g b w fv f L ov op x M wx) (hown:OwnT 31 w' w.heap.size ov' op') (hgr:wx.grownBy w' ov.ownBlock) (hat:ov'.ownBlock=ov.ownBlock∨ov'.ownBlock=some wx.heap.size):FR g b w fv f L ov' op' x M w':=by
 have hg:=h.gB;have ha:=h.bB;have hb:=(aN.1 h.box).1;have hc:=h.but.size;have hO:=h.ownO.lt;refine ⟨Q7 h.own fun k hk=>hgr.block k (h.own.lt k hk).2 (fun e=>h.apart k hk e.symm),hown,fun k hk e=>?_,h.nf,fun k hk=>?_,?_,?_,h.num.keepg fun k hk=>?_,hg,ha⟩
 ·rcases hat with hat | hat
  ·rw [hat] at e;exact h.apart k hk e
  ·rw [hat] at e;injection e with e;have:=(h.own.lt k hk).2;omega
 ·rcases hat with hat | hat
  ·rw [hat] at hk;exact h.no k hk
  ·rw [hat] at hk;injection hk with hk;omega
 ·rw [hgr.block b hb (fun e=>h.no b e.symm rfl)];exact h.box
 ·exact ⟨hgr.os.trans h.but.os,hgr.tape.trans h.but.tape,hgr.output.trans h.but.output,aP h.but.size hgr.size,fun k hk hn=>(hgr.block k yY (fun e=>by have:=(hO k e.symm).1;omega)).trans (h.but.block k hk hn)⟩
 ·exact hgr.block k yY (fun e=>by have:=(hO k e.symm).1;omega)
theorem FR.fresh (h:FR g b w fv f L ov op x M wx) (hb:Below wx.heap.size wx w') (hown:OwnT 31 w' wx.heap.size ov' op'):FR g b w fv f L ov' op' x M w':=by
 have hg:=h.gB;have ha:=h.bB;have hc:=(aN.1 h.box).1;have hd:=h.but.size;have hO:=hown.lt;refine ⟨Q7 h.own fun k hk=>hb.block k (h.own.lt k hk).2,Y3 hown hd,fun k hk e=>?_,h.nf,fun k hk=>?_,?_,?_,h.num.keepg fun k hk=>hb.block k yY,hg,ha⟩
 ·have:=(h.own.lt k hk).2;have:=(hO k e).1;omega
 ·have:=(hO k hk).1;omega
 ·rw [hb.block b hc];exact h.box
 ·exact ⟨hb.os.trans h.but.os,hb.tape.trans h.but.tape,hb.output.trans h.but.output,aP h.but.size hb.size,fun k hk hn=>(hb.block k yY).trans (h.but.block k hk hn)⟩
end
theorem Q7s (f:List Tk) (v:Value) (w:World) (h1:RdT w v f) (hl:X3 f≤1000000000000000000) (hfl:f.length≤1000000):
 Calls prog 91 #[v] w fun e w'=>e=.returned (.int .i64 (X3 f:Nat))∧w=w':=by
 obtain ⟨A,c,rfl,_,_⟩:=h1.shape;have H1:=zW h1;clear h1;go_enter func91,ntmps91
 go_wp2_with fail
 obtain ⟨wo,hd⟩:∃ wo,yK (wo=w):=⟨w,rfl⟩;go_loopg [3,4,7] f.length (fun gk nv iv jv wr=>∃ k n:Nat,nv=.int .i64 n∧jv=.int .i64 k∧k≤f.length∧yK (n=X3 (f.take k))∧wr=w∧f.length - k≤gk)
 case atStart=>exact ⟨0,0,rfl,rfl,aO _,by show _=_;rw [cW];rfl,rfl,yY⟩
 case round=>
  clear hd;obtain ⟨k,n,rfl,rfl,hk,HN,rfl,hgk⟩:=hrel;by_cases hkl:k < f.length
  ·have hg:(k:Int) < (f.length:Int):=yY;have hf:(0:Int)≤(k:Int):=yY;obtain ⟨b,o,rfl,he,q1,q2,q3⟩:=RdT.at_ H1.o k hkl;have hb:=Q5q f (k+1);have hc:=R2 f k hkl;rw [hc,←HN.o] at hb;have ha:yK (n+wdI f[k]=X3 (f.take (k+1))):=by
    show _=_;rw [hc,←HN.o]
   unfold wdI at ha hb;clear hc;generalize f[k]=x at q1 q2 q3 ha hb;obtain ⟨xk,xt,xd⟩:=x;simp only at q1 q2 q3 ha hb;by_cases hx:xk=1
   ·subst hx;simp only [if_true] at ha hb;have hh:xt.size≤1000000000000000000:=yY;go_wp2_with fail
    go_roundg (f.length - (k+1))
    case measure=>omega
    case rel=>exact ⟨k+1,n+xt.size,rfl,rfl,yY,ha.o,rfl,yY⟩
   ·rw [aE hx] at ha hb;have t1:(xk==1)=false:=(by simpa using hx);go_wp2_with fail
    go_roundg (f.length - (k+1))
    case measure=>omega
    case rel=>exact ⟨k+1,n+1,rfl,rfl,yY,ha.o,rfl,yY⟩
  ·obtain rfl:k=f.length:=yY;have e:n=X3 f:=(by rw [HN.o,aW]);go_wp2_with fail
   go_ret
   exact ⟨by rw [←e];rfl,rfl⟩
section
variable {P:Program} {ops:Array Oper} {w:World} {Q:Act→Prop} {a:Act} {o:Oper} {rest:List Oper}
theorem Y5r (hw:Region.wanted o (yielded ops a.tmps)=true) (v:Value) (hv:(execOp a.eval o).run P w=.ok (.value v) w) (h:wpStill P ops w Q rest (a.put o.dst v)):wpStill P ops w Q (o::rest) a:=
 wpStill_step fun K hK=>by
  rw [aK hw];unfold Oper.still;rw [hv,Oper.stillUpon_value];exact hK _ h
theorem Y5q (hw:Region.wanted o (yielded ops a.tmps)=false) (h:wpStill P ops w Q rest (a.put o.dst undef)):wpStill P ops w Q (o::rest) a:=
 wpStill_step fun K hK=>by
  rw [aE (by rw [hw];exact eK)];exact hK _ h
structure SW (P:Program) (ops:Array Oper) (w:World) (Q:Act→Prop) (rest:List Oper) (a:Act):Prop where
 o : wpStill P ops w Q rest a
theorem U4g (d:Option Tmp) (hd:o.dst=d) (hw:Region.wanted o (yielded ops a.tmps)=true) (v:Value) (hv:(execOp a.eval o).run P w=.ok (.value v) w) (h:SW P ops w Q rest (a.put d v)):SW P ops w Q (o::rest) a:=by
 subst hd;exact ⟨Y5r hw v hv h.o⟩
theorem U4f (d:Option Tmp) (hd:o.dst=d) (hw:Region.wanted o (yielded ops a.tmps)=false) (h:SW P ops w Q rest (a.put d undef)):SW P ops w Q (o::rest) a:=by
 subst hd;exact ⟨Y5q hw h.o⟩
theorem U4j (h:Q a):SW P ops w Q [] a:=⟨wpStill_nil h⟩
theorem V5x {id:Nat} {QE:Exit→Act→World→Prop} {l l1 l2:List Oper} (n:Nat) (hm:P.follows .mixedOrders=true) (hB:Region.lexTailB .any l.toArray n=true) (e1:l.take n=l1) (e2:l.drop n=l2)
 (h:SW P l.toArray w.drew (fun a'=>wpList P l.toArray QE l2 a' w.drew) l1 a):(Code.region id l.toArray true).wp P QE a w:=by
 subst e1 e2;exact wp_region_still_tail n hm hB h.o
theorem U2s {id:Nat} {QE:Exit→Act→World→Prop} {l:List Oper} (hm:P.follows .mixedOrders=true) (hB:Region.lexB .any l.toArray=true)
 (h:SW P l.toArray w.drew (fun a'=>QE .normal a' w.drew) l a):(Code.region id l.toArray true).wp P QE a w:=
 wp_region_still_lit hm hB h.o
theorem Z5e (x:Operand) (v:Value) (ho:o.op=.move x) (hx:a.eval x=v):(execOp a.eval o).run P w=.ok (.value v) w:=by
 unfold execOp;simp only [ho,hx];rfl
theorem Y1w (x:Operand) (v:Value) (ho:o.op=.assign x) (hx:a.eval x=v):(execOp a.eval o).run P w=.ok (.value v) w:=by
 unfold execOp;simp only [ho,hx];rfl
theorem V7u (c x y:Operand) (b:Bool) (vx vy:Value) (ho:o.op=.pick c x y) (hc:a.eval c=.bool b) (hx:a.eval x=vx) (hy:a.eval y=vy):(execOp a.eval o).run P w=.ok (.value (if b=true then vx else vy)) w:=by
 unfold execOp;simp only [ho,hx,hy,hc];rfl
theorem Y3y (t:TypeId) (x i:Operand) (vx vi v:Value) (ho:o.op=.indexAddr t x i) (hx:a.eval x=vx) (hi:a.eval i=vi) (hr:(Instr.indexAt t vx vi).run P w=.ok v w):(execOp a.eval o).run P w=.ok (.value v) w:=by
 unfold execOp;simp only [ho,hx,hi,dU,hr,dN,eW]
theorem Y3x (t:TypeId) (x:Operand) (f:Nat) (vx v:Value) (ho:o.op=.fieldAddr t x f) (hx:a.eval x=vx) (hr:(Instr.fieldAt t vx f).run P w=.ok v w):(execOp a.eval o).run P w=.ok (.value v) w:=by
 unfold execOp;simp only [ho,hx,dU,hr,dN,eW]
theorem L0 (t:TypeId) (x:Operand) (vx v:Value) (ho:o.op=.load t x) (hx:a.eval x=vx) (hr:(Instr.loadAt t vx).run P w=.ok v w):(execOp a.eval o).run P w=.ok (.value v) w:=by
 unfold execOp;simp only [ho,hx,dU,hr,dN,eW]
theorem V2k (t:TypeId) (x i:Operand) (vx vi v:Value) (ho:o.op=.index t x i) (hx:a.eval x=vx) (hi:a.eval i=vi) (hr:(Instr.index t vx vi).run P w=.ok v w):(execOp a.eval o).run P w=.ok (.value v) w:=by
 unfold execOp;simp only [ho,hx,hi,dU,hr,dN,eW]
theorem Y7d (op:BinOp) (t t2:TypeId) (x y:Operand) (vx vy v:Value) (ho:o.op=.binOp op t x y t2) (hx:a.eval x=vx) (hy:a.eval y=vy) (hr:(do eqGuard op t x y vx vy;Go.binOp op t vx vy:Sem Value).run P w=.ok v w):(execOp a.eval o).run P w=.ok (.value v) w:=by
 unfold execOp;simp only [ho,hx,hy];rw [dU,hr];rfl
theorem Y5t {QE:Exit→Act→World→Prop} {id:Nat} (n:Nat) (l0:Array Bool) (hn:ops.size=n) (hl:Array.replicate n false=l0) (hm:P.follows .mixedOrders=true)
 (h:wpAny P .any ops QE n l0 a w.drew):(Code.region id ops true).wp P QE a w:=by
 subst hn hl;exact wp_region_any hm h
theorem R8 {i:Nat} {oi:Oper} {rs:List Oper} (h:ops.toList.drop i=oi::rs):ops[i]? =some oi:=by
 rw [←fU];have:=congrArg (fun l=>l[0]?) h;simpa using this
theorem V6o {md:Region.Mode} {QE:Exit→Act→World→Prop} {i:Nat} {oi:Oper} (d:Option Tmp) {v:Value} {fuel:Nat} {listed:Array Bool} {rs:List Oper} (hi0:ops.toList.drop i=oi::rs) (hd:oi.dst=d)
 (hs:Region.noSelect ops=true) (hf:Region.free md ops listed i=true) (hr:(Region.ready md ops listed).contains i=true)
 (hQ:∀ c a w,QE (.panic c) (a.put oi.dst v) w→QE (.panic c) a w) (hw:Region.wanted oi (yielded ops a.tmps)=true) (hv:∀ w,(execOp a.eval oi).run P w=.ok (.value v) w)
 (h:wpAny P md ops QE fuel (listed.setIfInBounds i true) (a.put d v) w):wpAny P md ops QE (fuel+1) listed a w:=by
 subst hd;have hi:=R8 hi0;exact wpAny_take hi hs hf hr hQ (Or.inl ⟨hw,hv⟩) h
theorem G7 {md:Region.Mode} {QE:Exit→Act→World→Prop} (i:Nat) {oi:Oper} {fuel:Nat} {listed:Array Bool} {rs:List Oper} (hr:Region.ready md ops listed=[i]) (hi:ops.toList.drop i=oi::rs) (hw:Region.wanted oi (yielded ops a.tmps)=true)
 (h:Oper.wp P oi a w (wpAny P md ops QE fuel (listed.setIfInBounds i true)) QE):wpAny P md ops QE (fuel+1) listed a w:=
 wpAny_ready hr yW (fB (R8 hi) (fun K hK=>by rw [aK hw];exact fK hK h) AllReady.nil)
theorem Q5b {md:Region.Mode} {QE:Exit→Act→World→Prop} (i j:Nat) {oi oj:Oper} {fuel:Nat} {listed:Array Bool} {rs rs2:List Oper} (hr:Region.ready md ops listed=[i,j]) (hi:ops.toList.drop i=oi::rs) (hj:ops.toList.drop j=oj::rs2) (hwi:Region.wanted oi (yielded ops a.tmps)=true) (hwj:Region.wanted oj (yielded ops a.tmps)=true)
 (h1:Oper.wp P oi a w (wpAny P md ops QE fuel (listed.setIfInBounds i true)) QE) (h2:Oper.wp P oj a w (wpAny P md ops QE fuel (listed.setIfInBounds j true)) QE):wpAny P md ops QE (fuel+1) listed a w:=
 wpAny_ready hr yW (fB (R8 hi) (fun K hK=>by rw [aK hwi];exact fK hK h1) (fB (R8 hj) (fun K hK=>by rw [aK hwj];exact fK hK h2) AllReady.nil))
theorem Y0f {md:Region.Mode} {QE:Exit→Act→World→Prop} (i:Nat) (d:Option Tmp) {oi:Oper} {fuel:Nat} {listed:Array Bool} {rs:List Oper} (hr:Region.ready md ops listed=[i]) (hi:ops.toList.drop i=oi::rs) (hd:oi.dst=d) (hw:Region.wanted oi (yielded ops a.tmps)=true)
 (ty:TypeId) (x:Operand) (ho:oi.op=.load ty x) (b o:Nat) (hx:a.eval x=.pointer (some ⟨b,o,none⟩)) (cs:List Value) (dd:TypeDesc) (hc:w.rangeAt b o cs) (hu:P.underlying ty=some dd) (hdd:dd.isRow=true) (hsz:(P.info? ty).map (·.size)=some cs.length)
 (h:wpAny P md ops QE fuel (listed.setIfInBounds i true) (a.put d (.agg cs.toArray)) w):wpAny P md ops QE (fuel+1) listed a w:=by
 subst hd;exact G7 i hr hi hw (wp_load_mid ty x ho b o hx cs dd hc hu hdd hsz h)
theorem Z0p {md:Region.Mode} {QE:Exit→Act→World→Prop} (i j:Nat) (d e:Option Tmp) {oi oj:Oper} {fuel:Nat} {listed:Array Bool} {rs rs2:List Oper} (hr:Region.ready md ops listed=[i,j]) (hi:ops.toList.drop i=oi::rs) (hj:ops.toList.drop j=oj::rs2) (hd:oi.dst=d) (he:oj.dst=e)
 (hwi:Region.wanted oi (yielded ops a.tmps)=true) (hwj:Region.wanted oj (yielded ops a.tmps)=true)
 (ty:TypeId) (x:Operand) (ho:oi.op=.load ty x) (b o:Nat) (hx:a.eval x=.pointer (some ⟨b,o,none⟩)) (cs:List Value) (dd:TypeDesc) (hc:w.rangeAt b o cs) (hu:P.underlying ty=some dd) (hdd:dd.isRow=true) (hsz:(P.info? ty).map (·.size)=some cs.length)
 (ty2:TypeId) (x2:Operand) (ho2:oj.op=.load ty2 x2) (b2 o2:Nat) (hx2:a.eval x2=.pointer (some ⟨b2,o2,none⟩)) (cs2:List Value) (dd2:TypeDesc) (hc2:w.rangeAt b2 o2 cs2) (hu2:P.underlying ty2=some dd2) (hdd2:dd2.isRow=true) (hsz2:(P.info? ty2).map (·.size)=some cs2.length)
 (h1:wpAny P md ops QE fuel (listed.setIfInBounds i true) (a.put d (.agg cs.toArray)) w) (h2:wpAny P md ops QE fuel (listed.setIfInBounds j true) (a.put e (.agg cs2.toArray)) w):wpAny P md ops QE (fuel+1) listed a w:=by
 subst hd he;exact Q5b i j hr hi hj hwi hwj (wp_load_mid ty x ho b o hx cs dd hc hu hdd hsz h1) (wp_load_mid ty2 x2 ho2 b2 o2 hx2 cs2 dd2 hc2 hu2 hdd2 hsz2 h2)
theorem Q3s {md:Region.Mode} {QE:Exit→Act→World→Prop} (i:Nat) {oi:Oper} {fuel:Nat} {listed:Array Bool} {rs:List Oper} (hr:Region.ready md ops listed=[i]) (hi:ops.toList.drop i=oi::rs) (hd:oi.dst=none) (hw:Region.wanted oi (yielded ops a.tmps)=true)
 (ty:TypeId) (x y:Operand) (ho:oi.op=.store ty x y) (b o:Nat) (cells:List Value) (hx:a.eval x=.pointer (some ⟨b,o,none⟩)) (hy:a.eval y=.agg cells.toArray) (ht:w.there b o cells.length) (hsz:(P.info? ty).map (·.size)=some cells.length) (h1:cells.toArray.all (·.oneCell')=true)
 (h:wpAny P md ops QE fuel (listed.setIfInBounds i true) a (w.setCells b o cells)):wpAny P md ops QE (fuel+1) listed a w:=by
 refine G7 i hr hi hw (wp_store_mid ty x y ho b o cells.toArray hx hy (by simpa using ht) (by simpa using hsz) h1 ?_);rw [hd];exact h
theorem Q9a {md:Region.Mode} {QE:Exit→Act→World→Prop} (i:Nat) (d:Option Tmp) (v:Value) {oi:Oper} {fuel:Nat} {listed:Array Bool} {rs:List Oper} (hr:Region.ready md ops listed=[i]) (hi:ops.toList.drop i=oi::rs) (hd:oi.dst=d) (hw:Region.wanted oi (yielded ops a.tmps)=true)
 (hv:(execOp a.eval oi).run P w=.ok (.value v) w) (h:wpAny P md ops QE fuel (listed.setIfInBounds i true) (a.put d v) w):wpAny P md ops QE (fuel+1) listed a w:=by
 subst hd;refine G7 i hr hi hw ?_;show Oper.upon _ _ _ _ _ _;rw [hv];exact h
theorem Z3v {md:Region.Mode} {QE:Exit→Act→World→Prop} (i:Nat) (d:Option Tmp) {oi:Oper} {fuel:Nat} {listed:Array Bool} {rs:List Oper} (hi0:ops.toList.drop i=oi::rs) (hd:oi.dst=d)
 (hs:Region.noSelect ops=true) (hf:Region.free md ops listed i=true) (hr:(Region.ready md ops listed).contains i=true)
 (hQ:∀ c a w,QE (.panic c) (a.put oi.dst undef) w→QE (.panic c) a w) (hw:Region.wanted oi (yielded ops a.tmps)=false)
 (h:wpAny P md ops QE fuel (listed.setIfInBounds i true) (a.put d undef) w):wpAny P md ops QE (fuel+1) listed a w:=by
 subst hd;exact wpAny_take (R8 hi0) hs hf hr hQ (Or.inr ⟨hw,rfl⟩) h
theorem Z3u {md:Region.Mode} {QE:Exit→Act→World→Prop} (i:Nat) (d:Option Tmp) {oi:Oper} {fuel:Nat} {listed:Array Bool} {rs:List Oper} (hr:Region.ready md ops listed=[i]) (hi:ops.toList.drop i=oi::rs) (hd:oi.dst=d) (hw:Region.wanted oi (yielded ops a.tmps)=true)
 (f:FuncId) (vs:Array Value) (hrun:(execOp a.eval oi).run P w=.ok (.enter f vs) w) {Post:Ending→World→Prop} (hc:Calls P f vs w Post)
 (h:∀ e w',Post e w'→∃ v,e=.returned v∧wpAny P md ops QE fuel (listed.setIfInBounds i true) (a.put d v) w'):wpAny P md ops QE (fuel+1) listed a w:=by
 subst hd;refine G7 i hr hi hw ?_;show Oper.upon _ _ _ _ _ _;rw [hrun,Oper.upon_enter];refine hc.mono fun e w' hp=>?_;obtain ⟨v,rfl,hv⟩:=h e w' hp;exact hv
theorem Any.wanted_pos {p q:Prop} {c:Bool} (hc:c=true) (h:p):if c=true then p else q:=by
 rw [aK hc];exact h
end
theorem zV {P : Program} {ops : Array Oper} {a : Act} {w : World} {md : Region.Mode} {QE : Exit → Act → World → Prop} (i : Nat) {oi : Oper} {fuel : Nat} {listed : Array Bool} {rs : List Oper} (hi : ops.toList.drop i = oi :: rs)
    (h:Oper.wp P oi a w (wpAny P md ops QE fuel (listed.setIfInBounds i true)) QE) (hr:Region.ready md ops listed=[i]:=by kernel_rfl) (hw:Region.wanted oi (yielded ops a.tmps)=true:=by kernel_rfl):wpAny P md ops QE (fuel+1) listed a w:=G7 i hr hi hw h
theorem zU {P : Program} {ops : Array Oper} {a : Act} {w : World} {md : Region.Mode} {QE : Exit → Act → World → Prop} (i j : Nat) {oi oj : Oper} {fuel : Nat} {listed : Array Bool} {rs rs2 : List Oper} (hi : ops.toList.drop i = oi :: rs) (hj : ops.toList.drop j = oj :: rs2)
    (h1:Oper.wp P oi a w (wpAny P md ops QE fuel (listed.setIfInBounds i true)) QE) (h2:Oper.wp P oj a w (wpAny P md ops QE fuel (listed.setIfInBounds j true)) QE) (hr:Region.ready md ops listed=[i,j]:=by kernel_rfl) (hwi:Region.wanted oi (yielded ops a.tmps)=true:=by kernel_rfl) (hwj:Region.wanted oj (yielded ops a.tmps)=true:=by kernel_rfl):wpAny P md ops QE (fuel+1) listed a w:=Q5b i j hr hi hj hwi hwj h1 h2
section
variable {P:Program} {ops:Array Oper} {w:World} {a:Act}
theorem J4 {o:Oper} {v:Value} {K:Act→World→Prop} {QE:Exit→Act→World→Prop} (hv:(execOp a.eval o).run P w=.ok (.value v) w) (h:K (a.put o.dst v) w):Oper.wp P o a w K QE:=by
 show Oper.upon _ _ _ _ _ _;rw [hv];exact h
theorem J1 {o:Oper} {f:FuncId} {vs:Array Value} {K:Act→World→Prop} {QE:Exit→Act→World→Prop} (hrun:(execOp a.eval o).run P w=.ok (.enter f vs) w) {Post:Ending→World→Prop} (hc:Calls P f vs w Post)
 (h:∀ e w',Post e w'→∃ v,e=.returned v∧K (a.put o.dst v) w'):Oper.wp P o a w K QE:=by
 show Oper.upon _ _ _ _ _ _;rw [hrun,Oper.upon_enter];refine hc.mono fun e w' hp=>?_;obtain ⟨v,rfl,hv⟩:=h e w' hp;exact hv
theorem Z3w {md:Region.Mode} {QE:Exit→Act→World→Prop} (i j:Nat) (d e:Option Tmp) (v u:Value) {oi oj:Oper} {fuel:Nat} {listed:Array Bool} {rs rs2:List Oper} (hr:Region.ready md ops listed=[i,j]) (hi:ops.toList.drop i=oi::rs) (hj:ops.toList.drop j=oj::rs2) (hd:oi.dst=d) (he:oj.dst=e)
 (hwi:Region.wanted oi (yielded ops a.tmps)=true) (hwj:Region.wanted oj (yielded ops a.tmps)=true) (hv:(execOp a.eval oi).run P w=.ok (.value v) w) (hu:(execOp a.eval oj).run P w=.ok (.value u) w)
 (h1:wpAny P md ops QE fuel (listed.setIfInBounds i true) (a.put d v) w) (h2:wpAny P md ops QE fuel (listed.setIfInBounds j true) (a.put e u) w):wpAny P md ops QE (fuel+1) listed a w:=by
 subst hd he;exact Q5b i j hr hi hj hwi hwj (J4 hv h1) (J4 hu h2)
theorem V6q {md:Region.Mode} {QE:Exit→Act→World→Prop} (i j:Nat) (d e:Option Tmp) (u:Value) {oi oj:Oper} {fuel:Nat} {listed:Array Bool} {rs rs2:List Oper} (hr:Region.ready md ops listed=[i,j]) (hi:ops.toList.drop i=oi::rs) (hj:ops.toList.drop j=oj::rs2) (hd:oi.dst=d) (he:oj.dst=e)
 (hwi:Region.wanted oi (yielded ops a.tmps)=true) (hwj:Region.wanted oj (yielded ops a.tmps)=true) (f:FuncId) (vs:Array Value) (hrun:(execOp a.eval oi).run P w=.ok (.enter f vs) w) {Post:Ending→World→Prop} (hc:Calls P f vs w Post) (hu:(execOp a.eval oj).run P w=.ok (.value u) w)
 (h1:∀ e' w',Post e' w'→∃ v,e'=.returned v∧wpAny P md ops QE fuel (listed.setIfInBounds i true) (a.put d v) w') (h2:wpAny P md ops QE fuel (listed.setIfInBounds j true) (a.put e u) w):wpAny P md ops QE (fuel+1) listed a w:=by
 subst hd he;exact Q5b i j hr hi hj hwi hwj (J1 hrun hc h1) (J4 hu h2)
end
section
variable {P:Program} {ops:Array Oper} {w:World} {a:Act} {o:Oper}
theorem X1j (t:TypeId) (x:Operand) (lo hi:Option Operand) (vx v:Value) (vlo vhi:Option Value) (ho:o.op=.slice t x lo hi none) (hx:a.eval x=vx) (hl:lo.map a.eval=vlo) (hh:hi.map a.eval=vhi) (hr:(Instr.sliceAt t vx vlo vhi none).run P w=.ok v w):(execOp a.eval o).run P w=.ok (.value v) w:=by
 unfold execOp;simp only [ho,hx,hl,hh,Option.map_none,dU,hr,dN,eW]
theorem V7v (op:UnOp) (t:TypeId) (x:Operand) (vx v:Value) (ho:o.op=.unOp op t x) (hx:a.eval x=vx) (hr:(Op.unary op vx).run P w=.ok v w):(execOp a.eval o).run P w=.ok (.value v) w:=by
 unfold execOp;simp only [ho,hx,dU,hr,dN,eW]
theorem B4 (d e:Tmp) (v u:Value) (h:d≠e):(a.put (some e) u).put (some d) v=(a.put (some d) v).put (some e) u:=by
 unfold Act.put;simp only
 rw [dD _ _ (fun x=>h x.symm)]
theorem U2n {md:Region.Mode} {QE:Exit→Act→World→Prop} (i j:Nat) (d e:Tmp) (v u:Value) {oi oj:Oper} {fuel:Nat} {listed L:Array Bool} {rs rs2:List Oper} (hr:Region.ready md ops listed=[i,j]) (hri:Region.ready md ops (listed.setIfInBounds i true)=[j]) (hrj:Region.ready md ops (listed.setIfInBounds j true)=[i])
 (hi:ops.toList.drop i=oi::rs) (hj:ops.toList.drop j=oj::rs2) (hd:oi.dst=some d) (he:oj.dst=some e) (hde:d≠e) (hij:i≠j)
 (hwi:Region.wanted oi (yielded ops a.tmps)=true) (hwj:Region.wanted oj (yielded ops a.tmps)=true) (hwi2:Region.wanted oi (yielded ops (a.put (some e) u).tmps)=true) (hwj2:Region.wanted oj (yielded ops (a.put (some d) v).tmps)=true)
 (hv:(execOp a.eval oi).run P w=.ok (.value v) w) (hu:(execOp a.eval oj).run P w=.ok (.value u) w) (hv2:(execOp (a.put (some e) u).eval oi).run P w=.ok (.value v) w) (hu2:(execOp (a.put (some d) v).eval oj).run P w=.ok (.value u) w)
 (hL:(listed.setIfInBounds i true).setIfInBounds j true=L) (h:wpAny P md ops QE fuel L ((a.put (some d) v).put (some e) u) w):wpAny P md ops QE (fuel+1+1) listed a w:=by
 refine Z3w i j (some d) (some e) v u hr hi hj hd he hwi hwj hv hu ?_ ?_
 ·refine Q9a j (some e) u hri hj he hwj2 hu2 ?_;rw [hL];exact h
 ·refine Q9a i (some d) v hrj hi hd hwi2 hv2 ?_;rw [dD _ _ (fun x=>hij x.symm),hL,B4 d e v u hde];exact h
end
end Go.Proofs.YtfkojnofbpdjdaaGreatDoor
