/-
  Contracts and plain laws that this claim leans on, part 2.
-/
import Derived.Test.YtfkojnofbpdjdaaGreatDoorPackK1
import Derived.Deep.LoopGhost
import Derived.Shelf.Strings.Builder1
import Derived.Shelf.Strings.Builder2
import Derived.Shelf.Strings.Trim
import Derived.Shelf.Small.Utf8
import Derived.Shelf.Small.Strs
import Derived.Shelf.Strings.BuilderF
import Derived.Shelf.Strings.BuilderK
import Derived.Shelf.Utf8.RuneCount
import Derived.Shelf.Strings.Builder2Cap
import Derived.Shelf.Strconv.Itoa0
import Derived.Shelf.Strconv.Itoa1
import Derived.Shelf.LaysM
import Derived.Shelf.Strconv.Itoa2
import Derived.Shelf.Strconv.Itoa3
import Derived.Shelf.Strings.Search1
import Derived.Shelf.Strings.Search2
import Derived.Shelf.Strings.Search3
import Derived.Shelf.Strings.Cut
import Derived.Shelf.Strings.Count
import Derived.Shelf.Strings.Shaped
import Derived.Shelf.Strings.Prefix
import Derived.Shelf.Strings.Split
import Derived.Shelf.Unicode.Decode
import Derived.Shelf.Strings.Runes
import Derived.Shelf.Strings.RuneCount
import Derived.Shelf.Strings.AsciiSet
import Derived.Shelf.Unicode.DecodeSlow
import Derived.Shelf.Unicode.DecodeAny
import Derived.Shelf.Strings.BuilderCap
import Derived.Test.YtfkojnofbpdjdaaGreatDoorProg
import Derived.Deep.RegionWith
import Derived.Deep.RegionHeld3
import Derived.Deep.DeepCutAuto
import Derived.Deep.CutBlock
import Derived.Shelf.Abstract
set_option linter.unusedVariables false
set_option linter.unusedSimpArgs false
set_option maxHeartbeats 16000000
set_option maxRecDepth 100000
namespace Go.Proofs.YtfkojnofbpdjdaaGreatDoor
open Go.RowKit
structure Mod (S:Nat→Prop) (w w':World):Prop where
 os:w'.os=w.os
 tape:w'.tape=w.tape
 output:w'.output=w.output
 size:w.heap.size≤w'.heap.size
 block:∀ k,k < w.heap.size→¬ S k→w'.heap[k]? =w.heap[k]?
section
variable {S T:Nat→Prop} {a b c w w':World}
theorem Mod.refl (S:Nat→Prop) (w:World):Mod S w w:=⟨rfl,rfl,rfl,yQ,fun _ _ _=>rfl⟩
theorem Mod.trans (h:Mod S a b) (k:Mod T b c) (hT:∀ i,T i→i < a.heap.size→S i):Mod S a c:=
 ⟨k.os.trans h.os,k.tape.trans h.tape,k.output.trans h.output,Nat.le_trans h.size k.size,fun i hi hs=>(k.block i (Nat.lt_of_lt_of_le hi h.size) (fun ht=>hs (hT i ht hi))).trans (h.block i hi hs)⟩
theorem Mod.weak (h:Mod S a b) (hS:∀ i,S i→i < a.heap.size→T i):Mod T a b:=⟨h.os,h.tape,h.output,h.size,fun i hi ht=>h.block i hi (fun hs=>ht (hS i hs hi))⟩
theorem Mod.of_grown {v:Value} (h:w.grownBy w' v.ownBlock):Mod (fun k=>v.ownBlock=some k) w w':=⟨h.os,h.tape,h.output,h.size,fun k hk hn=>h.block k hk (fun e=>hn e.symm)⟩
theorem Mod.of_below (h:Below w.heap.size w w'):Mod (fun _=>False) w w':=⟨h.os,h.tape,h.output,h.size,fun k hk _=>h.block k hk⟩
theorem Mod.set (w:World) (g j:Nat) (u:Value):Mod (fun k=>k=g) w (w.setCell ⟨g,j,none⟩ u):=by
 refine ⟨rfl,rfl,rfl,by simp [World.setCell],fun k _ hn=>Below.heap_setCell _ _ _ _ hn⟩
theorem Mod.drew (h:Mod S a b):Mod S a b.drew:=⟨h.os,h.tape,h.output,h.size,h.block⟩
theorem Mod.alloc (h:Mod S a b) (o:Obj):Mod S a (b.alloc o):=h.trans (T:=fun _=>False) (.of_below ((Below.refl _ _).alloc yQ o)) (fun _ h=>h.elim)
theorem Mod.below {B:Nat} (h:Mod S a b) (hS:∀ i,S i→B≤i) (hB:B≤a.heap.size):Below B a b:=
 ⟨h.os,h.tape,h.output,h.size,fun k hk=>h.block k yY (fun hs=>by have:=hS k hs;omega)⟩
theorem Mod.own {B:Nat} {e:TypeId} {size n:Nat} {v:Value} {xs:List Value} (h:Mod S a b) (ho:a.ownsRow B e size v n xs) (hS:∀ k,v.ownBlock=some k→¬ S k):b.ownsRow B e size v n xs:=
 Q8 ho fun k hk=>h.block k (ho.lt k hk).2 (hS k hk)
end
structure Bd (B g:Nat) (t:TypeId) (rest:List Value) (iv tv cv:Value) (its:List Tk) (tx:ByteArray) (cs:List Int) (w:World):Prop where
 box:w.heap[g]? =some (.cells (iv::tv::cv::rest).toArray t)
 its:OwnT 31 w B iv its
 txt:w.ownsRow B 5 1 tv tx.size (Go.Lib.strCells tx)
 cuts:OwnE 3 V6 1 w B cv cs
 ty:t≠31∧t≠5∧t≠3
 lt:B≤g
def BdS (g:Nat) (iv tv cv:Value):Nat→Prop:=fun k=>k=g∨iv.ownBlock=some k∨tv.ownBlock=some k∨cv.ownBlock=some k
theorem Z8 {w:World} {g:Nat} {l:List Value} {t:TypeId} (h:w.heap[g]? =some (.cells l.toArray t)) (j:Nat) {u:Value} (hu:l[j]? =some u):w.cell? ⟨g,j,none⟩=some u:=by
 rw [cell_of_row _ _ j _ _ _ h,List.getElem?_toArray,hu]
theorem B7 {w:World} {B:Nat} {e:TypeId} {size:Nat} {v:Value} {n:Nat} {xs:List Value} (h:w.ownsRow B e size v n xs) {k:Nat} (hk:v.ownBlock=some k):∃ cur,w.heap[k]? =some (.cells cur e):=by
 rcases h.2 with ⟨rfl,_⟩ | ⟨g',cap,cur,rfl,_,hh,_⟩
 ·cases hk
 ·injection hk with hk;subst hk;exact ⟨cur,hh⟩
theorem G5 {w:World} {B B':Nat} {e e':TypeId} {size size':Nat} {v v':Value} {n n':Nat} {xs xs':List Value} (h:w.ownsRow B e size v n xs) (h':w.ownsRow B' e' size' v' n' xs') (he:e'≠e):Q2o v v':=by
 intro k hk hk';obtain ⟨cur,hc⟩:=B7 h' hk';exact Y1 h hc he k hk rfl
section
variable {B g:Nat} {t:TypeId} {rest:List Value} {iv tv cv iv' tv' cv':Value} {its its':List Tk} {tx tx':ByteArray} {cs cs':List Int} {w w':World}
theorem Bd.gsz (h:Bd B g t rest iv tv cv its tx cs w):g < w.heap.size:=(Array.getElem?_eq_some_iff.1 h.box).1
theorem Bd.cell0 (h:Bd B g t rest iv tv cv its tx cs w):w.cell? ⟨g,0,none⟩=some iv:=by rw [cell_of_row _ _ 0 _ _ _ h.box];simp
theorem Bd.cell1 (h:Bd B g t rest iv tv cv its tx cs w):w.cell? ⟨g,1,none⟩=some tv:=by rw [cell_of_row _ _ 1 _ _ _ h.box];simp
theorem Bd.cell2 (h:Bd B g t rest iv tv cv its tx cs w):w.cell? ⟨g,2,none⟩=some cv:=by rw [cell_of_row _ _ 2 _ _ _ h.box];simp
theorem Bd.cellR (h:Bd B g t rest iv tv cv its tx cs w) {i:Nat} {u:Value} (hu:rest[i]? =some u):w.cell? ⟨g,3+i,none⟩=some u:=by
 rw [cell_of_row _ _ (3+i) _ _ _ h.box,List.getElem?_toArray,show 3+i=i+1+1+1 by omega,List.getElem?_cons_succ,List.getElem?_cons_succ,List.getElem?_cons_succ,hu]
theorem Bd.frozen (h:Bd B g t rest iv tv cv its tx cs w) (j:Nat):w.frozen? ⟨g,j,none⟩=false:=Y9 h.box j
theorem Bd.nI (h:Bd B g t rest iv tv cv its tx cs w):X3j g iv:=Y1 h.its h.box h.ty.1
theorem Bd.nT (h:Bd B g t rest iv tv cv its tx cs w):X3j g tv:=Y1 h.txt h.box h.ty.2.1
theorem Bd.nC (h:Bd B g t rest iv tv cv its tx cs w):X3j g cv:=Y1 h.cuts h.box h.ty.2.2
theorem Bd.aIT (h:Bd B g t rest iv tv cv its tx cs w):Q2o iv tv:=G5 h.its h.txt yX
theorem Bd.aIC (h:Bd B g t rest iv tv cv its tx cs w):Q2o iv cv:=G5 h.its h.cuts yX
theorem Bd.aTI (h:Bd B g t rest iv tv cv its tx cs w):Q2o tv iv:=G5 h.txt h.its yX
theorem Bd.aTC (h:Bd B g t rest iv tv cv its tx cs w):Q2o tv cv:=G5 h.txt h.cuts yX
theorem Bd.aCI (h:Bd B g t rest iv tv cv its tx cs w):Q2o cv iv:=G5 h.cuts h.its yX
theorem Bd.aCT (h:Bd B g t rest iv tv cv its tx cs w):Q2o cv tv:=G5 h.cuts h.txt yX
theorem Bd.grT (h:Bd B g t rest iv tv cv its tx cs w) (hg:w.grownBy w' tv.ownBlock):w'.heap[g]? =some (.cells (iv::tv::cv::rest).toArray t):=(hg.block g h.gsz (fun e=>h.nT g e.symm rfl)).trans h.box
theorem Bd.grC (h:Bd B g t rest iv tv cv its tx cs w) (hg:w.grownBy w' cv.ownBlock):w'.heap[g]? =some (.cells (iv::tv::cv::rest).toArray t):=(hg.block g h.gsz (fun e=>h.nC g e.symm rfl)).trans h.box
theorem Bd.grI (h:Bd B g t rest iv tv cv its tx cs w) (hg:w.grownBy w' iv.ownBlock):w'.heap[g]? =some (.cells (iv::tv::cv::rest).toArray t):=(hg.block g h.gsz (fun e=>h.nI g e.symm rfl)).trans h.box
theorem Bd.mod {S:Nat→Prop} (h:Bd B g t rest iv tv cv its tx cs w) (hm:Mod S w w') (hS:∀ k,BdS g iv tv cv k→¬ S k):Bd B g t rest iv tv cv its tx cs w':=
 ⟨(hm.block g h.gsz (hS g (.inl rfl))).trans h.box,hm.own h.its fun k hk=>hS k (.inr (.inl hk)),hm.own h.txt fun k hk=>hS k (.inr (.inr (.inl hk))),hm.own h.cuts fun k hk=>hS k (.inr (.inr (.inr hk))),h.ty,h.lt⟩
theorem Bd.below (h:Bd B g t rest iv tv cv its tx cs w) (hb:Below w.heap.size w w'):Bd B g t rest iv tv cv its tx cs w':=h.mod (.of_below hb) fun _ _ hf=>hf
theorem Bd.alloc (h:Bd B g t rest iv tv cv its tx cs w) (o:Obj):Bd B g t rest iv tv cv its tx cs (w.alloc o):=h.below ((Below.refl _ _).alloc yQ o)
theorem Bd.drewN (h:Bd B g t rest iv tv cv its tx cs w) (n:Nat):Bd B g t rest iv tv cv its tx cs (w.drewN n):=⟨h.box,h.its,h.txt,h.cuts,h.ty,h.lt⟩
theorem Bd.drew (h:Bd B g t rest iv tv cv its tx cs w):Bd B g t rest iv tv cv its tx cs w.drew:=⟨h.box,h.its,h.txt,h.cuts,h.ty,h.lt⟩
theorem Bd.putT (h:Bd B g t rest iv tv cv its tx cs w) (ho:w'.ownsRow B 5 1 tv' tx'.size (Go.Lib.strCells tx')) (hg:w.grownBy w' tv.ownBlock):
 Bd B g t rest iv tv' cv its tx' cs (w'.setCell ⟨g,1,none⟩ tv')∧Mod (fun k=>k=g∨tv.ownBlock=some k) w (w'.setCell ⟨g,1,none⟩ tv'):=by
 have hm:=Mod.of_grown hg;have ha:w'.heap[g]? =some (.cells (iv::tv::cv::rest).toArray t):=(hm.block g h.gsz (fun e=>h.nT g e rfl)).trans h.box;have hs:=Mod.set w' g 1 tv';have hI:=hm.own h.its fun k hk e=>h.aIT k hk e;have hC:=hm.own h.cuts fun k hk e=>h.aCT k hk e;refine ⟨⟨by rw [K1 ha];simp,hs.own hI fun k hk e=>h.nI k hk e,hs.own ho fun k hk e=>Y1 ho ha h.ty.2.1 k hk e,hs.own hC fun k hk e=>h.nC k hk e,h.ty,h.lt⟩,?_⟩;exact (hm.weak (T:=fun k=>k=g∨tv.ownBlock=some k) fun i hi _=>.inr hi).trans hs fun i hi _=>.inl hi
theorem Bd.putC (h:Bd B g t rest iv tv cv its tx cs w) (ho:OwnE 3 V6 1 w' B cv' cs') (hg:w.grownBy w' cv.ownBlock):
 Bd B g t rest iv tv cv' its tx cs' (w'.setCell ⟨g,2,none⟩ cv')∧Mod (fun k=>k=g∨cv.ownBlock=some k) w (w'.setCell ⟨g,2,none⟩ cv'):=by
 have hm:=Mod.of_grown hg;have ha:w'.heap[g]? =some (.cells (iv::tv::cv::rest).toArray t):=(hm.block g h.gsz (fun e=>h.nC g e rfl)).trans h.box;have hs:=Mod.set w' g 2 cv';have hI:=hm.own h.its fun k hk e=>h.aIC k hk e;have hT:=hm.own h.txt fun k hk e=>h.aTC k hk e;refine ⟨⟨by rw [K1 ha];simp,hs.own hI fun k hk e=>h.nI k hk e,hs.own hT fun k hk e=>h.nT k hk e,hs.own ho fun k hk e=>Y1 ho ha h.ty.2.2 k hk e,h.ty,h.lt⟩,?_⟩;exact (hm.weak (T:=fun k=>k=g∨cv.ownBlock=some k) fun i hi _=>.inr hi).trans hs fun i hi _=>.inl hi
theorem Bd.putI (h:Bd B g t rest iv tv cv its tx cs w) (ho:OwnT 31 w' B iv' its') (hg:w.grownBy w' iv.ownBlock):
 Bd B g t rest iv' tv cv its' tx cs (w'.setCell ⟨g,0,none⟩ iv')∧Mod (fun k=>k=g∨iv.ownBlock=some k) w (w'.setCell ⟨g,0,none⟩ iv'):=by
 have hm:=Mod.of_grown hg;have ha:w'.heap[g]? =some (.cells (iv::tv::cv::rest).toArray t):=(hm.block g h.gsz (fun e=>h.nI g e rfl)).trans h.box;have hs:=Mod.set w' g 0 iv';have hT:=hm.own h.txt fun k hk e=>h.aTI k hk e;have hC:=hm.own h.cuts fun k hk e=>h.aCI k hk e;refine ⟨⟨by rw [K1 ha];simp,hs.own ho fun k hk e=>Y1 ho ha h.ty.1 k hk e,hs.own hT fun k hk e=>h.nT k hk e,hs.own hC fun k hk e=>h.nC k hk e,h.ty,h.lt⟩,?_⟩;exact (hm.weak (T:=fun k=>k=g∨iv.ownBlock=some k) fun i hi _=>.inr hi).trans hs fun i hi _=>.inl hi
theorem Bd.noT (h:Bd B g t rest iv tv cv its tx cs w):Bd B g t rest iv (.slice none 0 0) cv its ⟨#[]⟩ cs (w.setCell ⟨g,1,none⟩ (.slice none 0 0))∧Mod (fun k=>k=g) w (w.setCell ⟨g,1,none⟩ (.slice none 0 0)):=by
 have hs:=Mod.set w g 1 (.slice none 0 0);exact ⟨⟨by rw [K1 h.box];simp,hs.own h.its fun k hk e=>h.nI k hk e,World.ownsRow_nil _ _ _ _,hs.own h.cuts fun k hk e=>h.nC k hk e,h.ty,h.lt⟩,hs⟩
theorem Bd.putR (h:Bd B g t rest iv tv cv its tx cs w) (i:Nat) (u:Value):Bd B g t (rest.set i u) iv tv cv its tx cs (w.setCell ⟨g,3+i,none⟩ u)∧Mod (fun k=>k=g) w (w.setCell ⟨g,3+i,none⟩ u):=by
 have hs:=Mod.set w g (3+i) u;refine ⟨⟨?_,hs.own h.its fun k hk e=>h.nI k hk e,hs.own h.txt fun k hk e=>h.nT k hk e,hs.own h.cuts fun k hk e=>h.nC k hk e,h.ty,h.lt⟩,hs⟩;rw [K1 h.box,show 3+i=i+1+1+1 by omega];simp
theorem Bd.start {o:Obj} (hB:B≤w.heap.size) (ho:o=.cells (.slice none 0 0::.slice none 0 0::.slice none 0 0::rest).toArray t) (ht:t≠31∧t≠5∧t≠3):
 Bd B w.heap.size t rest (.slice none 0 0) (.slice none 0 0) (.slice none 0 0) [] ⟨#[]⟩ [] (w.alloc o):=
 ⟨by rw [ho];exact heap_alloc_new w _,OwnE.nil,World.ownsRow_nil _ _ _ _,OwnE.nil,ht,hB⟩
end
theorem P9:(Tryz.prog.info? 3).map (fun i=>(i.zero,i.size,i.bytes))=some (some (.int .i64 0),1,8):=by kernel_rfl
theorem V2b {w:World} {B:Nat} {e:TypeId} {v:Value} {tx:ByteArray} {c:UInt8} (h:w.ownsRow B e 1 v (tx.size+1) (Go.Lib.strCells tx++[.int .u8 (c.toNat:Int)])):w.ownsRow B e 1 v (tx++(⟨#[c]⟩:ByteArray)).size (Go.Lib.strCells (tx++(⟨#[c]⟩:ByteArray))):=by
 rw [←H7,ByteArray.size_append];exact h
theorem X8x (b:Bool) {B g:Nat} {t:TypeId} {rest:List Value} {iv tv cv:Value} {its:List Tk} {tx:ByteArray} {cs:List Int} {w:World} (h:Bd B g t rest iv tv cv its tx cs w)
 (hl:its.length+(if tx.size=0 then 0 else 1)+1≤512) (hc:cs.length+1≤1024) (hx:tx.size≤1000000):
 Calls Tryz.prog 165 #[.pointer (some ⟨g,0,none⟩),.bool b] w (fun e w'=>e=.returned (.bool false)∧w'=w):=by
 have q0:=h.cell0;have q1:=h.cell1;have q2:=h.cell2;obtain ⟨A0,c0,rfl⟩:=Q0 h.its;obtain ⟨A1,c1,rfl⟩:=Q0 h.txt;obtain ⟨A2,c2,rfl⟩:=Q0 h.cuts;clear h;generalize its.length=n at *;generalize cs.length=m at *;generalize tx.size=k at *;by_cases hk:k=0
 ·subst hk;rw [if_pos rfl] at hl;cases b
  ·go_enter Tryz.func165,Tryz.ntmps165
   go_wp2_with fail
   go_ret
   exact ⟨U9 yV,rfl⟩
  ·go_enter Tryz.func165,Tryz.ntmps165
   go_wp2_with fail
   go_ret
   exact ⟨U9 yV,rfl⟩
 ·rw [if_neg hk] at hl;cases b
  ·go_enter Tryz.func165,Tryz.ntmps165
   go_wp2_with fail
   go_ret
   exact ⟨U9 yV,rfl⟩
  ·go_enter Tryz.func165,Tryz.ntmps165
   go_wp2_with fail
   go_ret
   exact ⟨U9 yV,rfl⟩
theorem X8w (c:UInt8) (off:Int) {B g:Nat} {t:TypeId} {rest:List Value} {iv tv cv:Value} {its:List Tk} {tx:ByteArray} {cs:List Int} {w:World} (h:Bd B g t rest iv tv cv its tx cs w)
 (hl:its.length+(if tx.size=0 then 0 else 1)+1≤512) (hc:cs.length+1≤1024) (hx:tx.size≤1000000):
 Calls Tryz.prog 125 #[.pointer (some ⟨g,0,none⟩),.int .u8 c.toNat,.int .i64 off] w (fun e w'=>e=.returned (.bool true)∧∃ tv' cv',Bd B g t rest iv tv' cv' its (tx++(⟨#[c]⟩:ByteArray)) (cs++[off]) w'∧
  Mod (fun k=>k=g∨tv.ownBlock=some k∨cv.ownBlock=some k) w w'):=by
 have HF:=zW (X8x true h hl hc hx);have q1:=h.cell1;have q2:=h.cell2;have hk:=Nat.le_trans h.lt (Nat.le_of_lt h.gsz);obtain ⟨A1,c1,rfl⟩:=Q0 h.txt;obtain ⟨A2,c2,rfl⟩:=Q0 h.cuts;have H:=zW h;have HL:=zW hl;clear h hl;go_enter Tryz.func125,Tryz.ntmps125
 go_wp2_with fail
 refine (HF.o).mono ?_;rintro e w1 ⟨rfl,rfl⟩;go_wp2_with (at_builtin;first
  | (refine Z5 rfl (.tmp 13) (.tmp 15) 89 5 rfl Tryz.underlying89 _ 1 1 X1n rfl yX B _ tx.size _ rfl (by exact World.ownsRow.alloc H.o.txt _) ⟨w1.heap.size, 0, none⟩ 1 [.int .u8 (c.toNat : Int)] rfl rfl (by exact O1 _ _ rfl _ _) (by intro u hu; rw [List.mem_singleton.1 hu]; rfl) yY yX yV ?_; intro g9 cap9 w9 hg ho hd ha;
     have HP:=zW ((H.o.alloc _).putT (V2b hg) ha);have p2:=HP.o.1.cell2;have y0:=(H.o.alloc _).grT ha;have y1:=Y9 y0 1;have z1:=Z8 y0 1 rfl;have hj:=ha.size;clear y0 hd)
  | (refine Z5 rfl (.tmp 23) (.tmp 25) 22 3 rfl Tryz.underlying22 _ 1 8 P9 rfl yX B _ cs.length _ rfl (by exact World.ownsRow.alloc HP.o.1.cuts _) ⟨w9.heap.size, 0, none⟩ 1 [.int .i64 off] rfl rfl (by exact O1 _ _ (by simp [World.setCell]) _ _) (by intro u hu; rw [List.mem_singleton.1 hu]; rfl) yY yX (by simp [World.setCell] at hj ⊢; omega) ?_; intro g8 cap8 w8 hf hn hb he;
     have HQ:=zW ((HP.o.1.alloc _).putC (OwnE.snoc hf) he);have y0:=(HP.o.1.alloc _).grC he;have y2:=Y9 y0 2;have z2:=Z8 y0 2 rfl;clear y0 hb))
 go_ret
 refine ⟨rfl,_,_,HQ.o.1,?_⟩;have hm:Mod (fun k=>k=g∨(Value.slice A1 tx.size c1).ownBlock=some k) w1 (w1.alloc _):=(Mod.refl _ w1).alloc (.cells #[.int .u8 (c.toNat:Int)] 5);have hh:=(hm.trans HP.o.2 fun i hi _=>hi).alloc (.cells #[.int .i64 off] 3);refine (hh.weak (T:=fun k=>k=g∨(Value.slice A1 tx.size c1).ownBlock=some k∨(Value.slice A2 cs.length c2).ownBlock=some k) fun i hi _=>?_).trans HQ.o.2 fun i hi _=>?_
 ·exact hi.imp id .inl
 ·exact hi.imp id .inr
def X8n (its:List Tk) (tx:ByteArray):List Tk:=its++(if tx.size=0 then [] else [⟨1,tx,0⟩])
theorem Z9a (its:List Tk) (tx:ByteArray):(X8n its tx).length=its.length+(if tx.size=0 then 0 else 1):=by
 unfold X8n;rw [List.length_append];split<;>rfl
theorem X5a {B g:Nat} {t:TypeId} {rest:List Value} {iv tv cv:Value} {its:List Tk} {tx:ByteArray} {cs:List Int} {w:World} (h:Bd B g t rest iv tv cv its tx cs w)
 (hl:its.length≤512) (hx:tx.size≤1000000):
 Calls Tryz.prog 82 #[.pointer (some ⟨g,0,none⟩)] w (fun e w'=>(∃ v,e=.returned v)∧∃ iv' tv',Bd B g t rest iv' tv' cv (X8n its tx) ⟨#[]⟩ cs w'∧
  Mod (fun k=>k=g∨iv.ownBlock=some k) w w'∧(iv'.ownBlock=iv.ownBlock∨∀ k,iv'.ownBlock=some k→w.heap.size≤k)):=by
 have q1:=h.cell1;have hb:=Nat.le_trans h.lt (Nat.le_of_lt h.gsz);obtain ⟨A1,c1,rfl⟩:=Q0 h.txt;by_cases hk:tx.size=0
 ·obtain rfl:=Q0d hk;have hf:X8n its ⟨#[]⟩=its:=List.append_nil _;rw [hf];have H:=zW h;clear h;go_enter Tryz.func82,Tryz.ntmps82
  go_wp2_with fail
  refine bodyPost_end (results_none rfl _ _ _) rfl ?_;exact ⟨⟨_,rfl⟩,_,_,H.o,Mod.refl _ _,.inl rfl⟩
 ·have hf:X8n its tx=its++[⟨1,tx,0⟩]:=(by unfold X8n;rw [if_neg hk]);rw [hf];have q0:=h.cell0;obtain ⟨A0,c0,rfl⟩:=Q0 h.its;have H:=zW h;have hc:=O6 (w:=w.drew) tx 89 9 Tryz.underlying89 Tryz.underlying5 Tryz.underlying9 h.drew.txt rfl yY;have HA:=zW (h.drew.alloc (.cells (tkC ⟨1,tx,0⟩).toArray 31));have hz:B≤w.drew.heap.size:=hb;have p0:(w.alloc (.cells #[.int .i64 1,.string tx,.int .i64 0] 31)).cell? ⟨g,0,none⟩=some (.slice A0 its.length c0):=HA.o.cell0;have hd:(0:Int) < (tx.size:Int):=yY;clear h;go_enter Tryz.func82,Tryz.ntmps82
  go_wp2_with fail
  go_region_law (first
   | (refine T0 rfl (.tmp 12) (.tmp 19) 24 31 rfl Tryz.underlying24 _ tkC 3 32 Z7 rfl yX Q5 K2 B (.slice A0 its.length c0) its (by simp [Act.eval]) (by exact HA.o.its) (.slice (some ⟨w.drew.heap.size, 0, none⟩) 1 1) [⟨1, tx, 0⟩] (by simp [Act.eval]) (by exact Z6 tkC 3 Q5 _ _ rfl ⟨1, tx, 0⟩ _) yV yX yV ?_
      intro v7 w7 hown7 hbel7 hgr7 hat7;obtain ⟨A7,c7,ha⟩:=Q0 hown7;rw [show (its++[(⟨1,tx,0⟩:Tk)]).length=its.length+1 by simp] at ha;subst ha;have HP:=zW (HA.o.putI hown7 hgr7);have z0:=Z8 (HA.o.grI hgr7) 0 rfl;have y0:=Y9 (HA.o.grI hgr7) 0;have z1:=HP.o.1.cell1;have y1:=Y9 (HA.o.grI hgr7) 1;clear hown7 hbel7))
  all_goals (
   go_wp2_with fail
   refine bodyPost_end (results_none rfl _ _ _) rfl ?_;have HR:=HP.o.1.noT;refine ⟨⟨_,rfl⟩,_,_,HR.1,?_,?_⟩
   ·have hm:Mod (fun k=>k=g∨(Value.slice A0 its.length c0).ownBlock=some k) w (w.drew.alloc (.cells (tkC ⟨1,tx,0⟩).toArray 31)):=((Mod.refl _ w).drew).alloc _;exact (hm.trans HP.o.2 fun i hi _=>hi).trans HR.2 fun i hi _=>.inl hi
   ·rcases hat7 with h7 | h7
    ·exact .inl h7
    ·refine .inr fun k hk=>?_;rw [h7] at hk;injection hk with hk;rw [←hk];simp)
theorem X8y (x:Tk) (off:Int) {B g:Nat} {t:TypeId} {rest:List Value} {iv tv cv:Value} {its:List Tk} {tx:ByteArray} {cs:List Int} {w:World} (h:Bd B g t rest iv tv cv its tx cs w)
 (hl:its.length+(if tx.size=0 then 0 else 1)+1≤512) (hc:cs.length+1≤1024) (hx:tx.size≤1000000):
 Calls Tryz.prog 127 #[.pointer (some ⟨g,0,none⟩),.agg #[.int .i64 x.k,.string x.t,.int .i64 x.d],.int .i64 off] w (fun e w'=>e=.returned (.bool true)∧∃ iv' tv' cv',Bd B g t rest iv' tv' cv' (X8n its tx++[x]) ⟨#[]⟩ (cs++[off]) w'∧
  Mod (fun k=>k=g∨iv.ownBlock=some k∨cv.ownBlock=some k) w w'∧(iv'.ownBlock=iv.ownBlock∨∀ k,iv'.ownBlock=some k→w.heap.size≤k)):=by
 obtain ⟨xk,xt,xd⟩:=x;have ho:=Z9a its tx;have HA:=zW (h.alloc (.cells #[.int .i64 xk,.string xt,.int .i64 xd] 31));have HM:yK (Mod (fun k=>k=g∨iv.ownBlock=some k) w (w.alloc (.cells #[.int .i64 xk,.string xt,.int .i64 xd] 31))):=(Mod.refl _ w).alloc _;have hn:yK ((w.alloc (.cells #[.int .i64 xk,.string xt,.int .i64 xd] 31)).heap[w.heap.size]? =some (.cells #[.int .i64 xk,.string xt,.int .i64 xd] 31)):=Array.getElem?_push_size;have hA:=h.gsz;have hy:=Nat.le_trans h.lt (Nat.le_of_lt h.gsz);have hh:yK (∀ k,iv.ownBlock=some k→k < w.heap.size):=fun k hk=>(h.its.lt k hk).2;have HF:=zW (X8x false (HA.o) hl hc hx);have hf:=zW (X5a (HA.o) yY hx);obtain ⟨A2,c2,rfl⟩:=Q0 h.cuts;clear h;generalize X8n its tx=fl at ho hf ⊢;go_enter Tryz.func127,Tryz.ntmps127
 go_wp2_with fail
 generalize hwa:w.alloc (.cells #[.int .i64 xk,.string xt,.int .i64 xd] 31)=wa at *;refine (HF.o).mono ?_;rintro e wa ⟨rfl,rfl⟩;go_wp2_with fail
 refine (hf.o).mono ?_;rintro e w1 ⟨⟨v1,rfl⟩,iv1,tv1,h1,hm1,ht1⟩;clear HF hf;obtain ⟨A0,c0,rfl⟩:=Q0 h1.its;have hD:=hm1.size;have hv:wa.heap.size=w.heap.size+1:=(by rw [←hwa];simp);obtain ⟨p,hp⟩:∃ p,yK (p=w.heap.size):=⟨_,rfl⟩;have hs:yK (w1.heap[p]? =some (.cells #[.int .i64 xk,.string xt,.int .i64 xd] 31)):=by
  show _=_;rw [hp.o];refine (hm1.block _ yY ?_).trans hn.o;rintro (h | h)
  ·omega
  ·have:=hh.o _ h;omega
 rw [←hp.o];have H1:=zW h1;have hg:=zW ((HM.o.trans hm1 fun i hi _=>hi));have hr:yK (fl.length+1≤512):=(by show _≤_;omega);have hj:yK ((Value.slice A0 fl.length c0).ownBlock=iv.ownBlock∨∀ k,(Value.slice A0 fl.length c0).ownBlock=some k→w.heap.size≤k):=ht1.imp id fun h k hk=>by have:=h k hk;omega
 have hw:B≤w1.heap.size:=yY;clear h1 hm1 ht1 HA HM hn hh hv hwa ho hl;have q0:=H1.o.cell0;have q2:=H1.o.cell2;obtain ⟨x0,x1,x2,_⟩:=bx3 hs.o;have ha:=zW (H1.o.drew.alloc (.cells (tkC ⟨xk,xt,xd⟩).toArray 31));have p0:(w1.alloc (.cells #[.int .i64 xk,.string xt,.int .i64 xd] 31)).cell? ⟨g,0,none⟩=some (.slice A0 fl.length c0):=ha.o.cell0;go_wp2_with fail
 go_region_law (first
  | (refine T0 rfl (.tmp 15) (.tmp 17) 24 31 rfl Tryz.underlying24 _ tkC 3 32 Z7 rfl yX Q5 K2 B (.slice A0 fl.length c0) fl (by simp [Act.eval]) (by exact ha.o.its) (.slice (some ⟨w1.drew.heap.size, 0, none⟩) 1 1) [⟨xk, xt, xd⟩] (by simp [Act.eval]) (by exact Z6 tkC 3 Q5 _ _ rfl ⟨xk, xt, xd⟩ _) (by have := hr.o; simp; omega) yX yV ?_
     intro v7 w7 hown7 hbel7 hgr7 hat7;obtain ⟨A7,c7,hq⟩:=Q0 hown7;rw [show (fl++[(⟨xk,xt,xd⟩:Tk)]).length=fl.length+1 by simp] at hq;subst hq;have HP:=zW (ha.o.putI hown7 hgr7);have z0:=Z8 (ha.o.grI hgr7) 0 rfl;have y0:=Y9 (ha.o.grI hgr7) 0;have p2:=HP.o.1.cell2;have ht:=hgr7.size;clear hown7 hbel7))
 all_goals (
  go_wp2_with (at_builtin;refine Z5 rfl (.tmp 25) (.tmp 27) 22 3 rfl Tryz.underlying22 _ 1 8 P9 rfl yX B _ cs.length _ rfl (by exact World.ownsRow.alloc HP.o.1.cuts _) ⟨w7.heap.size,0,none⟩ 1 [.int .i64 off] rfl rfl (by exact O1 _ _ (by simp [World.setCell]) _ _) (by intro u hu;rw [List.mem_singleton.1 hu];rfl) yY yX (by simp [World.setCell] at ht ⊢;omega) ?_;intro g8 cap8 w8 he hz hb hd;have HQ:=zW ((HP.o.1.alloc _).putC (OwnE.snoc he) hd);have y8:=(HP.o.1.alloc _).grC hd;have y2:=Y9 y8 2;have z2:=Z8 y8 2 rfl;clear y8 hb)
  go_ret
  refine ⟨rfl,_,_,_,HQ.o.1,?_,?_⟩
  ·have hm:=(((hg.o.drew).alloc (.cells (tkC ⟨xk,xt,xd⟩).toArray 31)).trans HP.o.2 fun i hi hB=>?_).alloc (.cells #[.int .i64 off] 3)
   ·refine (hm.weak (T:=fun k=>k=g∨iv.ownBlock=some k∨(Value.slice A2 cs.length c2).ownBlock=some k) fun i hi _=>hi.imp id .inl).trans HQ.o.2 fun i hi _=>hi.imp id .inr
   ·rcases hi with hi | hi
    ·exact .inl hi
    ·rcases hj.o with h | h
     ·rw [h] at hi;exact .inr hi
     ·have:=h i hi;omega
  ·have hC:=hg.o.size;rcases hat7 with h7 | h7
   ·rw [h7];exact hj.o
   ·refine .inr fun k hk=>?_;rw [h7] at hk;injection hk with hk;rw [←hk];simp;omega)
theorem Y7y {B g:Nat} {t:TypeId} {rest:List Value} {iv tv cv:Value} {its:List Tk} {tx:ByteArray} {cs:List Int} {w:World} (h:Bd B g t rest iv tv cv its tx cs w)
 (hl:its.length≤512) (hx:tx.size≤1000000):
 Calls Tryz.prog 43 #[.pointer (some ⟨g,0,none⟩)] w (fun e w'=>∃ v,e=.returned v∧OwnT 31 w' B v (X8n its tx)∧Mod (fun k=>k=g∨iv.ownBlock=some k) w w'):=by
 have ha:=zW (X5a h hl hx);clear h;generalize X8n its tx=fl at ha ⊢;go_enter Tryz.func43,Tryz.ntmps43
 go_wp2_with fail
 refine (ha.o).mono ?_;rintro e w1 ⟨⟨v1,rfl⟩,iv1,tv1,h1,hm1,ht1⟩;clear ha;have q0:=h1.cell0;obtain ⟨A0,c0,rfl⟩:=Q0 h1.its;have H1:=zW h1;clear h1 ht1;go_wp2_with fail
 go_ret
 exact ⟨_,rfl,H1.o.its,hm1⟩
theorem Z3x (last:Int) {B g:Nat} {t:TypeId} {rest:List Value} {iv tv cv:Value} {its:List Tk} {tx:ByteArray} {cs:List Int} {w:World} (h:Bd B g t rest iv tv cv its tx cs w)
 (hc:cs.length+1≤1000000):
 Calls Tryz.prog 155 #[.pointer (some ⟨g,0,none⟩),.int .i64 last] w (fun e w'=>∃ v,e=.returned v∧OwnE 3 V6 1 w' B v (cs++[last])∧Mod (fun k=>cv.ownBlock=some k) w w'):=by
 have q2:=h.cell2;have ha:=Nat.le_trans h.lt (Nat.le_of_lt h.gsz);obtain ⟨A2,c2,rfl⟩:=Q0 h.cuts;have H:=zW h;clear h;go_enter Tryz.func155,Tryz.ntmps155
 go_wp2_with (at_builtin;refine Z5 rfl (.tmp 8) (.tmp 10) 22 3 rfl Tryz.underlying22 _ 1 8 P9 rfl yX B _ cs.length _ rfl (by exact World.ownsRow.alloc H.o.cuts _) ⟨w.heap.size,0,none⟩ 1 [.int .i64 last] rfl rfl (by exact O1 _ _ rfl _ _) (by intro u hu;rw [List.mem_singleton.1 hu];rfl) yY yX yV ?_;intro g8 cap8 w8 hown8 hg8 hbel8 hgr8)
 go_ret
 refine ⟨_,rfl,OwnE.snoc hown8,?_⟩;exact ((Mod.refl _ w).alloc _).trans (Mod.of_grown hgr8) fun i hi _=>hi
end Go.Proofs.YtfkojnofbpdjdaaGreatDoor
namespace Go.Proofs
open Go.Shelf
def Tryz.lays169_ren:Go.Shelf.Ren:=⟨fun | 169=>54 | n=>n,fun | 70=>115 | 9=>9 | 0=>0 | 72=>117 | 37=>89 | 127=>172 | 3=>3 | 5=>5 | n=>n,fun | n=>n⟩
theorem Tryz.lays169:Go.Proofs.Lays.n169 Tryz.prog Tryz.lays169_ren:={
 mixed:=by kernel_rfl
 f169:=Tryz.func54.trans (congrArg some (by kernel_rfl))
 t0:=Tryz.underlying0
 a0:=Tryz.isAgg0
 z0:=Tryz.sizeOf0
 v0:=Tryz.zeroValue0
 t3:=Tryz.underlying3
 a3:=Tryz.isAgg3
 z3:=Tryz.sizeOf3
 v3:=Tryz.zeroValue3
 t9:=Tryz.underlying9
 a9:=Tryz.isAgg9
 z9:=Tryz.sizeOf9
 v9:=Tryz.zeroValue9
 t37:=Tryz.underlying89
 a37:=Tryz.isAgg89
 z37:=Tryz.sizeOf89
 v37:=Tryz.zeroValue89
 t70:=Tryz.underlying115
 a70:=Tryz.isAgg115
 z70:=Tryz.sizeOf115
 v70:=Tryz.zeroValue115
 t72:=Tryz.underlying117
 a72:=Tryz.isAgg117
 z72:=Tryz.sizeOf117
 v72:=Tryz.zeroValue117
 t127:=Tryz.underlying172
 a127:=Tryz.isAgg172
 z127:=Tryz.sizeOf172
 v127:=Tryz.zeroValue172 }
theorem Tryz.Builder_Extra_169:Builder.Extra Tryz.prog Tryz.lays169_ren:={
 sizeBuilder:=by kernel_rfl
 liesBuilder:=by kernel_rfl
 t5:=Tryz.underlying5
 a5:=Tryz.isAgg5
 z5:=Tryz.sizeOf5
 v5:=Tryz.zeroValue5
 infoByte:=by kernel_rfl
 cellsByte:=by kernel_rfl
 sizeByte:=by kernel_rfl
 neB5:=by decide }
open Go.RowKit in
theorem Tryz.Builder_String_any (B b:Nat) (l:List UInt8) (w:World) (h:Lib.IsBuilder 117 5 B b (Lib.byteCells l) w) (hBw:B≤w.heap.size):
 Calls Tryz.prog 54 #[.pointer (some ⟨b,0,none⟩)] w fun e w'=>e=.returned (.string ⟨l.toArray⟩)∧Below B w w':=Any.Builder_String_any Tryz.lays169 Tryz.Builder_Extra_169 B b l w h hBw
def Tryz.lays161_ren:Go.Shelf.Ren:=⟨fun | 161=>176 | 231=>200 | 227=>201 | 233=>202 | 235=>203 | 228=>218 | 197=>219 | 151=>220 | 260=>233 | 152=>234 | 137=>126 | 119=>237 | 224=>188 | 225=>187 | 217=>166 | 266=>191 | n=>n,fun | 9=>9 | 4=>4 | 3=>3 | 5=>5 | 117=>277 | 116=>276 | 0=>0 | 124=>280 | 105=>298 | 21=>21 | 119=>234 | 46=>266 | 139=>312 | 138=>311 | n=>n,fun | 3=>2 | 4=>3 | n=>n⟩
theorem Tryz.lays161:Go.Proofs.Lays.n161 Tryz.prog Tryz.lays161_ren:={
 mixed:=by kernel_rfl
 f119:=Tryz.func237.trans (congrArg some (by kernel_rfl))
 f137:=Tryz.func126.trans (congrArg some (by kernel_rfl))
 f151:=Tryz.func220.trans (congrArg some (by kernel_rfl))
 f152:=Tryz.func234.trans (congrArg some (by kernel_rfl))
 f161:=Tryz.func176.trans (congrArg some (by kernel_rfl))
 f197:=Tryz.func219.trans (congrArg some (by kernel_rfl))
 f217:=Tryz.func166.trans (congrArg some (by kernel_rfl))
 f224:=Tryz.func188.trans (congrArg some (by kernel_rfl))
 f225:=Tryz.func187.trans (congrArg some (by kernel_rfl))
 f227:=Tryz.func201.trans (congrArg some (by kernel_rfl))
 f228:=Tryz.func218.trans (congrArg some (by kernel_rfl))
 f231:=Tryz.func200.trans (congrArg some (by kernel_rfl))
 f233:=Tryz.func202.trans (congrArg some (by kernel_rfl))
 f235:=Tryz.func203.trans (congrArg some (by kernel_rfl))
 f260:=Tryz.func233.trans (congrArg some (by kernel_rfl))
 f266:=Tryz.func191.trans (congrArg some (by kernel_rfl))
 t0:=Tryz.underlying0
 a0:=Tryz.isAgg0
 z0:=Tryz.sizeOf0
 v0:=Tryz.zeroValue0
 t3:=Tryz.underlying3
 a3:=Tryz.isAgg3
 z3:=Tryz.sizeOf3
 v3:=Tryz.zeroValue3
 t4:=Tryz.underlying4
 a4:=Tryz.isAgg4
 z4:=Tryz.sizeOf4
 v4:=Tryz.zeroValue4
 t5:=Tryz.underlying5
 a5:=Tryz.isAgg5
 z5:=Tryz.sizeOf5
 v5:=Tryz.zeroValue5
 t9:=Tryz.underlying9
 a9:=Tryz.isAgg9
 z9:=Tryz.sizeOf9
 v9:=Tryz.zeroValue9
 t21:=Tryz.underlying21
 a21:=Tryz.isAgg21
 z21:=Tryz.sizeOf21
 v21:=Tryz.zeroValue21
 t46:=Tryz.underlying266
 a46:=Tryz.isAgg266
 z46:=Tryz.sizeOf266
 v46:=Tryz.zeroValue266
 t105:=Tryz.underlying298
 a105:=Tryz.isAgg298
 z105:=Tryz.sizeOf298
 v105:=Tryz.zeroValue298
 t116:=Tryz.underlying276
 a116:=Tryz.isAgg276
 z116:=Tryz.sizeOf276
 t117:=Tryz.underlying277
 a117:=Tryz.isAgg277
 z117:=Tryz.sizeOf277
 v117:=Tryz.zeroValue277
 t119:=Tryz.underlying234
 a119:=Tryz.isAgg234
 z119:=Tryz.sizeOf234
 t124:=Tryz.underlying280
 a124:=Tryz.isAgg280
 z124:=Tryz.sizeOf280
 v124:=Tryz.zeroValue280
 t138:=Tryz.underlying311
 a138:=Tryz.isAgg311
 z138:=Tryz.sizeOf311
 v138:=Tryz.zeroValue311
 t139:=Tryz.underlying312
 a139:=Tryz.isAgg312
 z139:=Tryz.sizeOf312
 v139:=Tryz.zeroValue312
 g3:=by kernel_rfl
 g4:=by kernel_rfl }
def Tryz.lays171_ren:Go.Shelf.Ren:=⟨fun | 171=>146 | 243=>175 | 246=>199 | 283=>214 | 284=>215 | 285=>216 | 286=>217 | 129=>229 | 317=>228 | 318=>230 | 319=>231 | 320=>232 | 337=>235 | 338=>236 | n=>n,fun | 3=>3 | 9=>9 | 2=>2 | 4=>4 | 171=>292 | 0=>0 | 53=>293 | 37=>89 | 5=>5 | 173=>296 | 212=>305 | 51=>149 | 20=>20 | 213=>306 | 46=>266 | 232=>105 | 233=>314 | n=>n,fun | 17=>1 | 18=>4 | 19=>5 | n=>n⟩
theorem Tryz.lays171:Go.Proofs.Lays.n171 Tryz.prog Tryz.lays171_ren:={
 mixed:=by kernel_rfl
 f129:=Tryz.func229.trans (congrArg some (by kernel_rfl))
 f171:=Tryz.func146.trans (congrArg some (by kernel_rfl))
 f243:=Tryz.func175.trans (congrArg some (by kernel_rfl))
 f246:=Tryz.func199.trans (congrArg some (by kernel_rfl))
 f283:=Tryz.func214.trans (congrArg some (by kernel_rfl))
 f284:=Tryz.func215.trans (congrArg some (by kernel_rfl))
 f285:=Tryz.func216.trans (congrArg some (by kernel_rfl))
 f286:=Tryz.func217.trans (congrArg some (by kernel_rfl))
 f317:=Tryz.func228.trans (congrArg some (by kernel_rfl))
 f318:=Tryz.func230.trans (congrArg some (by kernel_rfl))
 f319:=Tryz.func231.trans (congrArg some (by kernel_rfl))
 f320:=Tryz.func232.trans (congrArg some (by kernel_rfl))
 f337:=Tryz.func235.trans (congrArg some (by kernel_rfl))
 f338:=Tryz.func236.trans (congrArg some (by kernel_rfl))
 t0:=Tryz.underlying0
 a0:=Tryz.isAgg0
 z0:=Tryz.sizeOf0
 v0:=Tryz.zeroValue0
 t2:=Tryz.underlying2
 a2:=Tryz.isAgg2
 z2:=Tryz.sizeOf2
 v2:=Tryz.zeroValue2
 t3:=Tryz.underlying3
 a3:=Tryz.isAgg3
 z3:=Tryz.sizeOf3
 v3:=Tryz.zeroValue3
 t4:=Tryz.underlying4
 a4:=Tryz.isAgg4
 z4:=Tryz.sizeOf4
 v4:=Tryz.zeroValue4
 t5:=Tryz.underlying5
 a5:=Tryz.isAgg5
 z5:=Tryz.sizeOf5
 v5:=Tryz.zeroValue5
 t9:=Tryz.underlying9
 a9:=Tryz.isAgg9
 z9:=Tryz.sizeOf9
 v9:=Tryz.zeroValue9
 t20:=Tryz.underlying20
 a20:=Tryz.isAgg20
 z20:=Tryz.sizeOf20
 v20:=Tryz.zeroValue20
 t37:=Tryz.underlying89
 a37:=Tryz.isAgg89
 z37:=Tryz.sizeOf89
 v37:=Tryz.zeroValue89
 t46:=Tryz.underlying266
 a46:=Tryz.isAgg266
 z46:=Tryz.sizeOf266
 v46:=Tryz.zeroValue266
 t51:=Tryz.underlying149
 a51:=Tryz.isAgg149
 z51:=Tryz.sizeOf149
 v51:=Tryz.zeroValue149
 t53:=Tryz.underlying293
 a53:=Tryz.isAgg293
 z53:=Tryz.sizeOf293
 v53:=Tryz.zeroValue293
 t171:=Tryz.underlying292
 a171:=Tryz.isAgg292
 z171:=Tryz.sizeOf292
 v171:=Tryz.zeroValue292
 t173:=Tryz.underlying296
 a173:=Tryz.isAgg296
 z173:=Tryz.sizeOf296
 v173:=Tryz.zeroValue296
 t212:=Tryz.underlying305
 a212:=Tryz.isAgg305
 z212:=Tryz.sizeOf305
 v212:=Tryz.zeroValue305
 t213:=Tryz.underlying306
 a213:=Tryz.isAgg306
 z213:=Tryz.sizeOf306
 t232:=Tryz.underlying105
 a232:=Tryz.isAgg105
 z232:=Tryz.sizeOf105
 v232:=Tryz.zeroValue105
 t233:=Tryz.underlying314
 a233:=Tryz.isAgg314
 z233:=Tryz.sizeOf314
 v233:=Tryz.zeroValue314
 g17:=by kernel_rfl
 g18:=by kernel_rfl
 g19:=by kernel_rfl }
open Go.RowKit Go.Sort Go.Lib in
theorem Tryz.strconv_Itoa_small (i:Nat) (hi:i < 100) (w:World):
 Calls Tryz.prog 146 #[.int .i64 i] w fun e w'=>e=.returned (.string ⟨(Lib.decDigits i).toArray⟩)∧w'=w:=Any.strconv_Itoa_small Tryz.lays171 i hi w
def Tryz.lays143_ren:Go.Shelf.Ren:=⟨fun | 143=>144 | 219=>163 | 217=>166 | 225=>187 | 224=>188 | 267=>189 | 266=>191 | 314=>213 | n=>n,fun | 9=>9 | 3=>3 | 4=>4 | 5=>5 | 46=>266 | 146=>290 | 51=>149 | n=>n,fun | 1=>0 | n=>n⟩
theorem Tryz.lays143:Go.Proofs.Lays.n143 Tryz.prog Tryz.lays143_ren:={
 mixed:=by kernel_rfl
 f143:=Tryz.func144.trans (congrArg some (by kernel_rfl))
 f217:=Tryz.func166.trans (congrArg some (by kernel_rfl))
 f219:=Tryz.func163.trans (congrArg some (by kernel_rfl))
 f224:=Tryz.func188.trans (congrArg some (by kernel_rfl))
 f225:=Tryz.func187.trans (congrArg some (by kernel_rfl))
 f266:=Tryz.func191.trans (congrArg some (by kernel_rfl))
 f267:=Tryz.func189.trans (congrArg some (by kernel_rfl))
 f314:=Tryz.func213.trans (congrArg some (by kernel_rfl))
 t3:=Tryz.underlying3
 a3:=Tryz.isAgg3
 z3:=Tryz.sizeOf3
 v3:=Tryz.zeroValue3
 t4:=Tryz.underlying4
 a4:=Tryz.isAgg4
 z4:=Tryz.sizeOf4
 v4:=Tryz.zeroValue4
 t5:=Tryz.underlying5
 a5:=Tryz.isAgg5
 z5:=Tryz.sizeOf5
 v5:=Tryz.zeroValue5
 t9:=Tryz.underlying9
 a9:=Tryz.isAgg9
 z9:=Tryz.sizeOf9
 v9:=Tryz.zeroValue9
 t46:=Tryz.underlying266
 a46:=Tryz.isAgg266
 z46:=Tryz.sizeOf266
 v46:=Tryz.zeroValue266
 t51:=Tryz.underlying149
 a51:=Tryz.isAgg149
 z51:=Tryz.sizeOf149
 v51:=Tryz.zeroValue149
 t146:=Tryz.underlying290
 a146:=Tryz.isAgg290
 z146:=Tryz.sizeOf290
 v146:=Tryz.zeroValue290
 g1:=by kernel_rfl }
open Go.RowKit Go.Lib in
theorem Tryz.strings_Index (s sub:ByteArray) (m:Int) (w:World) (hs:s.size < 4294967281) (hm:w.cell? ⟨0,0,none⟩=some (.int .i64 m)):
 Calls Tryz.prog 144 #[.string s,.string sub] w fun e w'=>e=.returned (.int .i64 (Lib.index s.data.toList sub.data.toList))∧w'=w:=Any.strings_Index Tryz.lays143 s sub m w hs hm
def Tryz.lays145_ren:Go.Shelf.Ren:=⟨fun | 145=>80 | 220=>120 | 219=>163 | 217=>166 | 225=>187 | 224=>188 | 267=>189 | 266=>191 | 314=>213 | n=>n,fun | 9=>9 | 4=>4 | 59=>163 | 3=>3 | 5=>5 | 46=>266 | 146=>290 | 51=>149 | n=>n,fun | 1=>0 | n=>n⟩
theorem Tryz.lays145:Go.Proofs.Lays.n145 Tryz.prog Tryz.lays145_ren:={
 mixed:=by kernel_rfl
 f145:=Tryz.func80.trans (congrArg some (by kernel_rfl))
 f217:=Tryz.func166.trans (congrArg some (by kernel_rfl))
 f219:=Tryz.func163.trans (congrArg some (by kernel_rfl))
 f220:=Tryz.func120.trans (congrArg some (by kernel_rfl))
 f224:=Tryz.func188.trans (congrArg some (by kernel_rfl))
 f225:=Tryz.func187.trans (congrArg some (by kernel_rfl))
 f266:=Tryz.func191.trans (congrArg some (by kernel_rfl))
 f267:=Tryz.func189.trans (congrArg some (by kernel_rfl))
 f314:=Tryz.func213.trans (congrArg some (by kernel_rfl))
 t3:=Tryz.underlying3
 a3:=Tryz.isAgg3
 z3:=Tryz.sizeOf3
 v3:=Tryz.zeroValue3
 t4:=Tryz.underlying4
 a4:=Tryz.isAgg4
 z4:=Tryz.sizeOf4
 v4:=Tryz.zeroValue4
 t5:=Tryz.underlying5
 a5:=Tryz.isAgg5
 z5:=Tryz.sizeOf5
 v5:=Tryz.zeroValue5
 t9:=Tryz.underlying9
 a9:=Tryz.isAgg9
 z9:=Tryz.sizeOf9
 v9:=Tryz.zeroValue9
 t46:=Tryz.underlying266
 a46:=Tryz.isAgg266
 z46:=Tryz.sizeOf266
 v46:=Tryz.zeroValue266
 t51:=Tryz.underlying149
 a51:=Tryz.isAgg149
 z51:=Tryz.sizeOf149
 v51:=Tryz.zeroValue149
 t59:=Tryz.underlying163
 a59:=Tryz.isAgg163
 z59:=Tryz.sizeOf163
 v59:=Tryz.zeroValue163
 t146:=Tryz.underlying290
 a146:=Tryz.isAgg290
 z146:=Tryz.sizeOf290
 v146:=Tryz.zeroValue290
 g1:=by kernel_rfl }
open Go.RowKit Go.Lib in
theorem Tryz.strings_Cut (s sep:ByteArray) (m:Int) (w:World) (hs:s.size < 4294967281) (hm:w.cell? ⟨0,0,none⟩=some (.int .i64 m)):
 Calls Tryz.prog 80 #[.string s,.string sep] w fun e w'=>e=.returned (.tuple #[.string ⟨(Lib.cut s.data.toList sep.data.toList).1.toArray⟩,.string ⟨(Lib.cut s.data.toList sep.data.toList).2.1.toArray⟩,.bool (Lib.cut s.data.toList sep.data.toList).2.2])∧∃ n,w'=w.drewN n:=Any.strings_Cut Tryz.lays145 s sep m w hs hm
def Tryz.lays138_ren:Go.Shelf.Ren:=⟨fun | 138=>268 | 195=>269 | 218=>270 | 143=>144 | 219=>163 | 217=>166 | 225=>187 | 224=>188 | 267=>189 | 266=>191 | 314=>213 | n=>n,fun | 9=>9 | 3=>3 | 4=>4 | 5=>5 | 0=>0 | 46=>266 | 146=>290 | 51=>149 | n=>n,fun | 1=>0 | n=>n⟩
theorem Tryz.lays138:Go.Proofs.Lays.n138 Tryz.prog Tryz.lays138_ren:={
 mixed:=by kernel_rfl
 f138:=Tryz.func268.trans (congrArg some (by kernel_rfl))
 f143:=Tryz.func144.trans (congrArg some (by kernel_rfl))
 f195:=Tryz.func269.trans (congrArg some (by kernel_rfl))
 f217:=Tryz.func166.trans (congrArg some (by kernel_rfl))
 f218:=Tryz.func270.trans (congrArg some (by kernel_rfl))
 f219:=Tryz.func163.trans (congrArg some (by kernel_rfl))
 f224:=Tryz.func188.trans (congrArg some (by kernel_rfl))
 f225:=Tryz.func187.trans (congrArg some (by kernel_rfl))
 f266:=Tryz.func191.trans (congrArg some (by kernel_rfl))
 f267:=Tryz.func189.trans (congrArg some (by kernel_rfl))
 f314:=Tryz.func213.trans (congrArg some (by kernel_rfl))
 t0:=Tryz.underlying0
 a0:=Tryz.isAgg0
 z0:=Tryz.sizeOf0
 v0:=Tryz.zeroValue0
 t3:=Tryz.underlying3
 a3:=Tryz.isAgg3
 z3:=Tryz.sizeOf3
 v3:=Tryz.zeroValue3
 t4:=Tryz.underlying4
 a4:=Tryz.isAgg4
 z4:=Tryz.sizeOf4
 v4:=Tryz.zeroValue4
 t5:=Tryz.underlying5
 a5:=Tryz.isAgg5
 z5:=Tryz.sizeOf5
 v5:=Tryz.zeroValue5
 t9:=Tryz.underlying9
 a9:=Tryz.isAgg9
 z9:=Tryz.sizeOf9
 v9:=Tryz.zeroValue9
 t46:=Tryz.underlying266
 a46:=Tryz.isAgg266
 z46:=Tryz.sizeOf266
 v46:=Tryz.zeroValue266
 t51:=Tryz.underlying149
 a51:=Tryz.isAgg149
 z51:=Tryz.sizeOf149
 v51:=Tryz.zeroValue149
 t146:=Tryz.underlying290
 a146:=Tryz.isAgg290
 z146:=Tryz.sizeOf290
 v146:=Tryz.zeroValue290
 g1:=by kernel_rfl }
open Go.RowKit Go.Lib in
theorem Tryz.strings_Count_one (s:ByteArray) (c:UInt8) (w:World):
 Calls Tryz.prog 268 #[.string s,.string ⟨#[c]⟩] w fun e w'=>e=.returned (.int .i64 (Lib.countByte s.data.toList c))∧w'=w:=Any.strings_Count_one Tryz.lays138 s c w
def Tryz.lays99_ren:Go.Shelf.Ren:=⟨fun | 99=>130 | 206=>167 | n=>n,fun | 9=>9 | 4=>4 | 3=>3 | n=>n,fun | n=>n⟩
theorem Tryz.lays99:Go.Proofs.Lays.n99 Tryz.prog Tryz.lays99_ren:={
 mixed:=by kernel_rfl
 f99:=Tryz.func130.trans (congrArg some (by kernel_rfl))
 f206:=Tryz.func167.trans (congrArg some (by kernel_rfl))
 t3:=Tryz.underlying3
 a3:=Tryz.isAgg3
 z3:=Tryz.sizeOf3
 v3:=Tryz.zeroValue3
 t4:=Tryz.underlying4
 a4:=Tryz.isAgg4
 z4:=Tryz.sizeOf4
 v4:=Tryz.zeroValue4
 t9:=Tryz.underlying9
 a9:=Tryz.isAgg9
 z9:=Tryz.sizeOf9
 v9:=Tryz.zeroValue9 }
open Go.RowKit Go.Lib in
theorem Tryz.strings_HasPrefix (s p:ByteArray) (w:World):
 Calls Tryz.prog 130 #[.string s,.string p] w fun e w'=>e=.returned (.bool (Lib.hasPrefix s.data.toList p.data.toList))∧w'=w:=Any.strings_HasPrefix Tryz.lays99 s p w
def Tryz.lays100_ren:Go.Shelf.Ren:=⟨fun | 100=>164 | 207=>190 | n=>n,fun | 9=>9 | 4=>4 | 3=>3 | n=>n,fun | n=>n⟩
theorem Tryz.lays100:Go.Proofs.Lays.n100 Tryz.prog Tryz.lays100_ren:={
 mixed:=by kernel_rfl
 f100:=Tryz.func164.trans (congrArg some (by kernel_rfl))
 f207:=Tryz.func190.trans (congrArg some (by kernel_rfl))
 t3:=Tryz.underlying3
 a3:=Tryz.isAgg3
 z3:=Tryz.sizeOf3
 v3:=Tryz.zeroValue3
 t4:=Tryz.underlying4
 a4:=Tryz.isAgg4
 z4:=Tryz.sizeOf4
 v4:=Tryz.zeroValue4
 t9:=Tryz.underlying9
 a9:=Tryz.isAgg9
 z9:=Tryz.sizeOf9
 v9:=Tryz.zeroValue9 }
open Go.RowKit Go.Lib in
theorem Tryz.strings_HasSuffix (s p:ByteArray) (w:World) (hs:s.size≤9223372036854775807):
 Calls Tryz.prog 164 #[.string s,.string p] w fun e w'=>e=.returned (.bool (Lib.hasSuffix s.data.toList p.data.toList))∧w'=w:=Any.strings_HasSuffix Tryz.lays100 s p w hs
end Go.Proofs
namespace Go.Proofs.YtfkojnofbpdjdaaGreatDoor
open Go.RowKit
theorem L5 (s:ByteArray) (w:World) (hs:s.size≤maxLen):
 Calls Tryz.prog 114 #[.string s] w fun e w'=>e=.returned (.bool (V8 s.data.toList))∧w=w':=by
 unfold maxLen at hs;have hb:=Lib.size_eq s;by_cases h1:s.size < 1
 ·have hn:=X3r s.data.toList yY;have H:=zW hn;clear hn hb;go_enter Tryz.func114,Tryz.ntmps114
  go_wp2
  go_ret
  exact ⟨U9 H.o.symm,rfl⟩
 by_cases h2:24 < s.size
 ·have hn:=X6n s.data.toList yY;have H:=zW hn;clear hn hb;go_enter Tryz.func114,Tryz.ntmps114
  go_wp2
  go_ret
  exact ⟨U9 H.o.symm,rfl⟩
 have h0:0 < s.size:=yY;have hg:s.data.toList[0]=s[0]:=rfl;by_cases h3:M7 s[0]=true
 ·have hn:=X6o s.data.toList yY yY (by rw [hg];exact h3);have H:=zW hn;have h3':97≤s[0].toNat∧s[0].toNat≤122:=(by simpa [M7] using h3);obtain ⟨h4,h5⟩:=h3';clear hn h3 hg;have HZ:=zW hb;clear hb;go_enter Tryz.func114,Tryz.ntmps114
  go_wp2
  go_loop [3] (fun i=>∃ k:Nat,1≤k∧k≤s.size∧i=.int .i64 k∧yK (V8 s.data.toList=(s.data.toList.drop k).all R5)) (fun i=>s.size - (intOf i).toNat)
  case atStart=>exact ⟨1,yY,yY,rfl,H.o⟩
  case round=>
   obtain ⟨k,he,hk,rfl,HR⟩:=hrel;by_cases hlt:k < s.size
   ·have hl:k < s.data.toList.length:=(by rw [←Lib.size_eq];exact hlt);have ha:=HR.o.trans (Q8h _ _ hl);have hgk:s.data.toList[k]=s[k]:=rfl;rw [hgk] at ha;have HS:=zW ha;clear ha hgk HR H;have hc:s[k].toNat < 256:=s[k].toNat_lt;go_wp2
    all_goals (try simp only [beq_iff_eq,beq_eq_false_iff_ne,bne_iff_ne,bne_eq_false_iff_eq,ne_eq,Bool.not_eq_true',Bool.not_eq_false',Bool.not_eq_eq_eq_not,Bool.not_true,Bool.not_false,decide_eq_true_eq,decide_eq_false_iff_not,Int.not_lt,Int.not_le] at *)
    all_goals first
     | (refine ⟨⟨k + 1,yY,yY, by go_num, ?_⟩, by simp [intOf]; try omega⟩
        have hr:R5 s[k]=true:=(by simp only [R5,decide_eq_true_eq];omega);have:=HS.o;rw [hr,Bool.true_and] at this;exact this)
     | (have hr : R5 s[k] = false := by simp only [R5, decide_eq_false_iff_not]; omega
        have:=HS.o;rw [hr,Bool.false_and] at this;go_ret
        exact ⟨U9 this.symm,rfl⟩)
   ·have hl:¬ k < s.data.toList.length:=(by rw [←Lib.size_eq];exact hlt);have ha:=HR.o.trans (Q9n _ _ hl);have HS:=zW ha;clear ha HR H hl;go_wp2
    go_ret
    exact ⟨U9 HS.o.symm,rfl⟩
 ·have hd:M7 s[0]=false:=(by simpa using h3);have hn:=X6m s.data.toList yY (by rw [hg];exact hd);have H:=zW hn;have h3':¬ (97≤s[0].toNat∧s[0].toNat≤122):=(by simpa [M7] using h3);clear hn h3 hd hg hb;have hc:s[0].toNat < 256:=s[0].toNat_lt;by_cases h4:s[0].toNat < 97
  ·go_enter Tryz.func114,Tryz.ntmps114
   go_wp2
   go_ret
   exact ⟨U9 H.o.symm,rfl⟩
  ·have h5:122 < s[0].toNat:=yY;clear h3';go_enter Tryz.func114,Tryz.ntmps114
   go_wp2
   go_ret
   exact ⟨U9 H.o.symm,rfl⟩
structure BS (B g:Nat) (t:TypeId) (rest:List Value) (u:List Tk) (cs:List Int) (w:World):Prop where
 ex:∃ iv tv cv its tx,Bd B g t rest iv tv cv its tx cs w∧BSt u its tx
section
variable {B g:Nat} {t:TypeId} {rest:List Value} {u:List Tk} {cs:List Int} {w w':World}
theorem BS.bsz (h:BS B g t rest u cs w):B≤w.heap.size:=by obtain ⟨_,_,_,_,_,h,_⟩:=h.ex;exact Nat.le_trans h.lt (Nat.le_of_lt h.gsz)
theorem BS.below (h:BS B g t rest u cs w) (hb:Below w.heap.size w w'):BS B g t rest u cs w':=by
 obtain ⟨iv,tv,cv,its,tx,h,hs⟩:=h.ex;exact ⟨iv,tv,cv,its,tx,h.below hb,hs⟩
theorem Y0z (c:UInt8) (off:Int) (h:BS B g t rest u cs w) (hl:u.length+1≤512) (hlu:X2 u≤1000000) (hc:cs.length+1≤1024):
 Calls Tryz.prog 125 #[.pointer (some ⟨g,0,none⟩),.int .u8 c.toNat,.int .i64 off] w (fun e w'=>e=.returned (.bool true)∧BS B g t rest (u++[chI c]) (cs++[off]) w'∧Below B w w'):=by
 have hB:=h.bsz;obtain ⟨iv,tv,cv,its,tx,h,hs⟩:=h.ex;have h1:=hs.len;have h2:=hs.text;refine (X8w c off h yY hc yY).mono ?_;rintro e w' ⟨rfl,tv',cv',h',hm⟩;refine ⟨rfl,⟨_,_,_,_,_,h',hs.ch c⟩,hm.below (fun i hi=>?_) hB⟩;rcases hi with rfl | hi | hi
 ·exact h.lt
 ·exact (h.txt.lt i hi).1
 ·exact (h.cuts.lt i hi).1
theorem Z7w (x:Tk) (hx:x.k≠1) (off:Int) (h:BS B g t rest u cs w) (hl:u.length+1≤512) (hlu:X2 u≤1000000) (hc:cs.length+1≤1024):
 Calls Tryz.prog 127 #[.pointer (some ⟨g,0,none⟩),.agg #[.int .i64 x.k,.string x.t,.int .i64 x.d],.int .i64 off] w (fun e w'=>e=.returned (.bool true)∧BS B g t rest (u++[x]) (cs++[off]) w'∧Below B w w'):=by
 have hB:=h.bsz;obtain ⟨iv,tv,cv,its,tx,h,hs⟩:=h.ex;have h1:=hs.len;have h2:=hs.text;refine (X8y x off h yY hc yY).mono ?_;rintro e w' ⟨rfl,iv',tv',cv',h',hm,_⟩;refine ⟨rfl,⟨_,_,_,_,_,h',hs.item x hx⟩,hm.below (fun i hi=>?_) hB⟩;rcases hi with rfl | hi | hi
 ·exact h.lt
 ·exact (h.its.lt i hi).1
 ·exact (h.cuts.lt i hi).1
theorem Y1a (h:BS B g t rest u cs w) (hl:u.length≤512) (hlu:X2 u≤1000000):
 Calls Tryz.prog 43 #[.pointer (some ⟨g,0,none⟩)] w (fun e w'=>∃ v,e=.returned v∧OwnT 31 w' B v (Q9 u)∧Below B w w'):=by
 have hB:=h.bsz;obtain ⟨iv,tv,cv,its,tx,h,hs⟩:=h.ex;have h1:=hs.len;have h2:=hs.text;refine (Y7y h yY yY).mono ?_;rintro e w' ⟨v,rfl,ho,hm⟩;refine ⟨v,rfl,?_,hm.below (fun i hi=>?_) hB⟩
 ·rw [hs.2];exact ho
 ·rcases hi with rfl | hi
  ·exact h.lt
  ·exact (h.its.lt i hi).1
theorem Y8d (last:Int) (h:BS B g t rest u cs w) (hc:cs.length+1≤1000000):
 Calls Tryz.prog 155 #[.pointer (some ⟨g,0,none⟩),.int .i64 last] w (fun e w'=>∃ v,e=.returned v∧OwnE 3 V6 1 w' B v (cs++[last])∧Below B w w'):=by
 have hB:=h.bsz;obtain ⟨iv,tv,cv,its,tx,h,hs⟩:=h.ex;refine (Z3x last h hc).mono ?_;rintro e w' ⟨v,rfl,ho,hm⟩;exact ⟨v,rfl,ho,hm.below (fun i hi=>(h.cuts.lt i hi).1) hB⟩
end
def Z1e (B g:Nat) (t:TypeId) (rest:List Value) (u:List Tk) (cs:List Int) (n:Nat) (w:World) (e:Ending) (w':World):Prop:=
 e=.returned (.tuple #[.int .i64 n,.int .i64 0])∧BS B g t rest u cs w'∧Below B w w'
theorem D2 (a b:UInt8) (h:a≠b):((a.toNat:Int)==(b.toNat:Int))=false:=by
 rw [beq_eq_false_iff_ne];intro e;exact h (UInt8.toNat_inj.1 yY)
theorem M5 (a b:UInt8) (h:a=b):((a.toNat:Int)==(b.toNat:Int))=true:=by
 rw [h];simp
theorem U6 (s p:ByteArray) (b:Bool) (h:Lib.hasPrefix s.data.toList p.data.toList=b) (w:World):Calls Tryz.prog 130 #[.string s,.string p] w fun e w'=>e=.returned (.bool b)∧w=w':=by
 subst h;refine (Tryz.strings_HasPrefix s p w).mono ?_;rintro e w' ⟨rfl,rfl⟩;exact ⟨rfl,rfl⟩
theorem Z6r (raw s:ByteArray) (k:Nat) (c:UInt8) (r:List UInt8) {B g:Nat} {t:TypeId} {rest:List Value} {u:List Tk} {cs:List Int} {w:World} (h:BS B g t rest u cs w) (hl:u.length+1≤512) (hlu:X2 u≤1000000) (hc:cs.length+1≤1024)
 (hk:k < raw.size) (hr:raw.size≤1000000) (hs:raw.extract k raw.size=s) (hcr:s.data.toList=c::r) (h1:c≠34) (h2:c≠123):
 Calls Tryz.prog 84 #[.pointer (some ⟨g,0,none⟩),.string raw,.int .i64 k] w (Z1e B g t rest (u++[chI c]) (cs++[(k:Int)]) (k+1) w):=by
 have hh:0 < s.size:=(by rw [Lib.size_eq,hcr];simp);have ha:s[0]=c:=by
  have:s.data.toList[0]'(by rw [hcr];simp)=c:=(by simp only [hcr];rfl);exact this
 have CP1:=zW (U6 s (⟨#[34,34]⟩:ByteArray) false (by rw [hcr];exact Q0u c 34 r [34] h1));have CP2:=zW (U6 s (⟨#[123,123]⟩:ByteArray) false (by rw [hcr];exact Q0u c 123 r [123] h2));have CB:=zW (Y0z s[0] (k:Int) h hl hlu hc);rw [ha] at CB;have n1:((s[0].toNat:Int)==34)=false:=D2 s[0] 34 (by rw [ha];exact h1);have n2:((s[0].toNat:Int)==123)=false:=D2 s[0] 123 (by rw [ha];exact h2);rw [←ha] at CB;have HS:=zW hs;have hf:=zW ha;clear h hl hlu hc hcr h1 h2 ha hs;go_enter Tryz.func84,Tryz.ntmps84
 go_upto_region 2 with fail
 rw [HS.o];go_wp2_with (first
  | (go_at_call_of 130 (Value.string (⟨#[34,34]⟩:ByteArray));refine (CP1.o _).mono ?_;rintro e w' ⟨rfl,rfl⟩)
  | (go_at_call_of 130 (Value.string (⟨#[123,123]⟩:ByteArray));refine (CP2.o _).mono ?_;rintro e w' ⟨rfl,rfl⟩)
  | (go_at_call 125;refine (CB.o).mono ?_;rintro e w1 ⟨rfl,hb,hd⟩;have he:=zW hb;have hg:=zW hd;clear hb hd))
 go_ret2
 refine ⟨?_,?_,hg.o⟩
 ·rfl
 ·rw [←hf.o];exact he.o
theorem Z0l (raw s:ByteArray) (k:Nat) (c:UInt8) (r:List UInt8) {B g:Nat} {t:TypeId} {rest:List Value} {u:List Tk} {cs:List Int} {w:World} (h:BS B g t rest u cs w) (hl:u.length+1≤512) (hlu:X2 u≤1000000) (hc:cs.length+1≤1024)
 (hk:k < raw.size) (hr:raw.size≤1000000) (hs:raw.extract k raw.size=s) (hcr:s.data.toList=c::c::r) (h1:c=34∨c=123):
 Calls Tryz.prog 84 #[.pointer (some ⟨g,0,none⟩),.string raw,.int .i64 k] w (Z1e B g t rest (u++[chI c]) (cs++[(k:Int)]) (k+2) w):=by
 have hh:0 < s.size:=(by rw [Lib.size_eq,hcr];simp);have hf:s[0]=c:=by
  have:s.data.toList[0]'(by rw [hcr];simp)=c:=(by simp only [hcr];rfl);exact this
 have CB:=zW (Y0z s[0] (k:Int) h hl hlu hc);have HS:=zW hs;have hg:=zW hf;rcases h1 with rfl | rfl
 ·have CP1:=zW (U6 s (⟨#[34,34]⟩:ByteArray) true (by rw [hcr];exact L1 [34,34] r));clear h hl hlu hc hcr hf hs;go_enter Tryz.func84,Tryz.ntmps84
  go_upto_region 2 with fail
  rw [HS.o];go_wp2_with (first
   | (go_at_call_of 130 (Value.string (⟨#[34,34]⟩:ByteArray));refine (CP1.o _).mono ?_;rintro e w' ⟨rfl,rfl⟩)
   | (go_at_call 125;refine (CB.o).mono ?_;rintro e w1 ⟨rfl,ha,hb⟩;have hd:=zW ha;have he:=zW hb;clear ha hb))
  go_ret2
  refine ⟨?_,?_,he.o⟩
  ·rfl
  ·rw [←hg.o];exact hd.o
 ·have CP1:=zW (U6 s (⟨#[34,34]⟩:ByteArray) false (by rw [hcr];exact Q0u 123 34 (123::r) [34] yX));have CP2:=zW (U6 s (⟨#[123,123]⟩:ByteArray) true (by rw [hcr];exact L1 [123,123] r));clear h hl hlu hc hcr hf hs;go_enter Tryz.func84,Tryz.ntmps84
  go_upto_region 2 with fail
  rw [HS.o];go_wp2_with (first
   | (go_at_call_of 130 (Value.string (⟨#[34,34]⟩:ByteArray));refine (CP1.o _).mono ?_;rintro e w' ⟨rfl,rfl⟩)
   | (go_at_call_of 130 (Value.string (⟨#[123,123]⟩:ByteArray));refine (CP2.o _).mono ?_;rintro e w' ⟨rfl,rfl⟩)
   | (go_at_call 125;refine (CB.o).mono ?_;rintro e w1 ⟨rfl,ha,hb⟩;have hd:=zW ha;have he:=zW hb;clear ha hb))
  go_ret2
  refine ⟨?_,?_,he.o⟩
  ·rfl
  ·rw [←hg.o];exact hd.o
theorem T8 (s:ByteArray) (b:Nat) (z:Int) (h:Lib.indexByte s.data.toList (b:Int).toNat.toUInt8=z) (w:World):Calls Tryz.prog 126 #[.string s,.int .u8 b] w fun e w'=>e=.returned (.int .i64 z)∧w=w':=by
 subst h;exact Z4v s b w
theorem Y7f (raw s nm:ByteArray) (k:Nat) (r:List UInt8) {B g:Nat} {t:TypeId} {rest:List Value} {u:List Tk} {cs:List Int} {w:World} (h:BS B g t rest u cs w) (hl:u.length+1≤512) (hlu:X2 u≤1000000) (hc:cs.length+1≤1024)
 (hk:k < raw.size) (hr:raw.size≤1000000) (hs:raw.extract k raw.size=s) (hcr:s.data.toList=123::nm.data.toList++125::r) (hn:V8 nm.data.toList=true):
 Calls Tryz.prog 84 #[.pointer (some ⟨g,0,none⟩),.string raw,.int .i64 k] w (Z1e B g t rest (u++[⟨5,nm,0⟩]) (cs++[(k:Int)]) (k+(nm.size+2)) w):=by
 have hp:s.size=nm.size+2+r.length:=(by rw [Lib.size_eq,hcr,Lib.size_eq nm];simp;omega);have ht:0 < s.size:=yY;have hq:s.size≤raw.size:=(by rw [←hs,ByteArray.size_extract];omega);have ha:s[0]=123:=by
  have:s.data.toList[0]'(by rw [hcr];simp)=123:=(by simp only [hcr];rfl);exact this
 have hm:nm.size≤maxLen:=(by unfold maxLen;omega);have ho:s.extract 1 (nm.size+1)=nm:=by
  apply ByteArray.ext;apply Array.toList_inj.1;rw [Lib.size_eq nm];simp only [ByteArray.data_extract,Array.toList_extract,List.extract_eq_take_drop,hcr];simp
 have hf:∃ d l,nm.data.toList=d::l∧d≠123:=by
  obtain ⟨d,l,e,hh,_⟩:=C8 _ hn;exact ⟨d,l,e,O3 d hh 123 yW⟩
 have CP1:=zW (U6 s (⟨#[34,34]⟩:ByteArray) false (by rw [hcr];exact Q0u 123 34 _ [34] yX));have CP2:=zW (U6 s (⟨#[123,123]⟩:ByteArray) false (by
  obtain ⟨d,l,e,hd⟩:=hf;rw [hcr,e];show Lib.hasPrefix (123::d::(l++125::r)) [123,123]=false;unfold Lib.hasPrefix;have hb:(123==d)=false:=(by simpa using fun e:123=d=>hd e.symm);simp [List.isPrefixOf,hb]))
 have CI:=zW (T8 s 125 ((nm.size+1:Nat):Int) (by rw [hcr,Lib.size_eq nm];exact X7o nm.data.toList r hn));have CN:=zW (fun w=>L5 nm w hm);rw [hn] at CN;have CB:=zW (Z7w ⟨5,nm,0⟩ (by show (5:Int)≠1;decide) (k:Int) h hl hlu hc);have HS:=zW hs;have n1:((s[0].toNat:Int)==34)=false:=D2 s[0] 34 (by rw [ha];decide);have n2:((s[0].toNat:Int)==123)=true:=M5 s[0] 123 ha;clear h hl hlu hc hcr hs hf ha;go_enter Tryz.func84,Tryz.ntmps84
 go_upto_region 2 with fail
 rw [HS.o];go_wp2_with (first
  | (go_at_call_of 130 (Value.string (⟨#[34,34]⟩:ByteArray));refine (CP1.o _).mono ?_;rintro e w' ⟨rfl,rfl⟩)
  | (go_at_call_of 130 (Value.string (⟨#[123,123]⟩:ByteArray));refine (CP2.o _).mono ?_;rintro e w' ⟨rfl,rfl⟩)
  | (go_at_call 126;refine (CI.o _).mono ?_;rintro e w' ⟨rfl,rfl⟩)
  | (go_at_call 114;refine (CN.o _).mono ?_;rintro e w' ⟨rfl,rfl⟩)
  | (go_at_call 127;refine (CB.o).mono ?_;rintro e w1 ⟨rfl,he,hg⟩;have hi:=zW he;have hj:=zW hg;clear he hg))
 go_ret2
 refine ⟨?_,hi.o,hj.o⟩;have e:((k:Int)+((nm.size:Int)+1)+1)=((k+(nm.size+2):Nat):Int):=yY;exact Q4w (by rw [←e];rfl)
theorem Q1x (raw:ByteArray) (k:Nat):(raw.extract k raw.size).data.toList=raw.data.toList.drop k:=by
 simp only [ByteArray.data_extract,Array.toList_extract,List.extract_eq_take_drop];rw [List.take_of_length_le (by rw [List.length_drop,Lib.size_eq];omega)]
theorem Z0k (raw:ByteArray) (k:Nat) (rest':List UInt8) {B g:Nat} {t:TypeId} {rest:List Value} {u:List Tk} {cs:List Int} {w:World} (h:BS B g t rest u cs w) (hl:u.length+1≤512) (hlu:X2 u≤1000000) (hc:cs.length+1≤1024)
 (hk:k < raw.size) (hr:raw.size≤1000000):∀ (fmt:Int) (r:List UInt8) (o:Option Tk),ElOk fmt r o→fmt=3→raw.data.toList.drop k=r++rest'→
 ∃ x,o=some x∧Calls Tryz.prog 84 #[.pointer (some ⟨g,0,none⟩),.string raw,.int .i64 k] w (Z1e B g t rest (u++[x]) (cs++[(k:Int)]) (k+r.length) w):=by
 intro fmt r o he hf hd;have hx:=Q1x raw k;rw [hd] at hx;cases he with
 | slot _ n hn=>
   refine ⟨_,rfl,?_⟩;have e:(123::n++[125]).length=(ofL n).size+2:=(by rw [Lib.size_eq];simp [ofL]);rw [e];exact Y7f raw _ (ofL n) k rest' h hl hlu hc hk hr rfl (by rw [hx];simp [ofL]) (by simpa [ofL] using hn)
 | ch3 c hc3=>exact ⟨_,rfl,Z6r raw _ k c rest' h hl hlu hc hk hr rfl (by rw [hx];rfl) hc3.1 hc3.2⟩
 | two c hc3=>exact ⟨_,rfl,Z0l raw _ k c rest' h hl hlu hc hk hr rfl (by rw [hx];rfl) hc3⟩
 | ch1=>exact absurd hf yX
 | ref=>exact absurd hf yX
 | opn=>exact absurd hf yX
 | cls=>exact absurd hf yX
 | emp=>exact absurd hf yX
 | ch2=>exact absurd hf yX
 | esc=>exact absurd hf yX
 | cont=>exact absurd hf yX
theorem X5n (fmt:Int) (r:List UInt8) (o:Option Tk) (he:ElOk fmt r o):0 < r.length:=by
 cases he with
 | ref _ c h=> 
   simp only [X3w,List.mem_cons,Prod.mk.injEq,List.not_mem_nil,or_false] at h;rcases h with ⟨rfl,_⟩ | ⟨rfl,_⟩ | ⟨rfl,_⟩ | ⟨rfl,_⟩ | ⟨rfl,_⟩<;>decide
 | _=>simp
def D3 (ts:Els) (j:Nat):Nat:=(Q2 (ts.take j)).length
theorem Q1m (ts:Els) (j:Nat) (h:j < ts.length):D3 ts (j+1)=D3 ts j+ts[j].1.length:=by
 unfold D3;rw [V0v ts j h,List.length_append]
theorem X0q (ts:Els):D3 ts ts.length=(Q2 ts).length:=by unfold D3;rw [List.take_length]
theorem Q7p (ts:Els) (j:Nat) (h:j < ts.length):(Q2 ts).drop (D3 ts j)=ts[j].1++Q2 (ts.drop (j+1)):=by
 have e:=Y0e ts j h;have:=congrArg (List.drop (D3 ts j)) e;rw [this];exact List.drop_left
theorem X4p (ts:Els) (j:Nat) (h:j < ts.length) (h0:0 < ts[j].1.length):D3 ts j < (Q2 ts).length:=by
 have e:=congrArg List.length (Y0e ts j h);rw [List.length_append,List.length_append] at e;unfold D3;omega
theorem X0i (ts:Els) (j:Nat) (h:j < ts.length) (x:Tk) (hx:ts[j].2=some x):X1 (ts.take (j+1))=X1 (ts.take j)++[x]:=by
 rw [List.take_succ_eq_append_getElem h,I6];congr 1;simp [X1,hx]
theorem Y4i:∀ (ts:Els) (p:Nat),(∀ e∈ts,e.2≠none)→T6 ts p p=p+(Q2 ts).length
 | [],p,_=>by simp [T6,Q2]
 | (r,none)::ts,p,h=>absurd rfl (h (r,none) yW)
 | (r,some x)::ts,p,h=>by
   rw [T6,Y4i ts _ fun e he=>h e (List.mem_cons_of_mem _ he),show Q2 ((r,some x)::ts)=r++Q2 ts from rfl,List.length_append,Nat.add_assoc]
def csE (ts:Els):List Int:=(Q3j ts 0 0).map fun (n:Nat)=>(n:Int)
theorem Z1m (ts:Els) (j:Nat) (h:j < ts.length) (hall:∀ e∈ts,e.2≠none):csE (ts.take (j+1))=csE (ts.take j)++[(D3 ts j:Int)]:=by
 unfold csE;rw [List.take_succ_eq_append_getElem h,Q5n,List.map_append];congr 1;have he:=Y4i (ts.take j) 0 fun e he=>hall e (List.mem_of_mem_take he);rw [Nat.zero_add] at he;obtain ⟨x,hx⟩:=Option.ne_none_iff_exists'.1 (hall _ (List.getElem_mem h));have e2:ts[j]=(ts[j].1,some x):=(by rw [←hx]);rw [e2];show [((T6 (ts.take j) 0 0:Nat):Int)]=_;rw [he];rfl
theorem Q4h (ts:Els):(csE ts).length=(X1 ts).length:=by unfold csE;rw [List.length_map,X5i]
theorem Q0o (ts:Els) (j:Nat):(X1 (ts.take j)).length≤(X1 ts).length:=by
 have:=congrArg X1 (List.take_append_drop j ts);rw [I6] at this;rw [←this,List.length_append];omega
structure Rdb (fmt:Int) (raw:ByteArray) (ts:Els):Prop where
 eq:raw.data.toList=Q2 ts
 els:∀ e∈ts,ElOk fmt e.1 e.2
 len:(X1 ts).length≤500
 sz:raw.size≤1000000
theorem M8:∀ (u:List Tk),(∀ x∈u,One x)→X2 u≤u.length
 | [],_=>yQ
 | x::u,h=>by
   have h1:wdI x≤1:=by
    unfold wdI;split
    ·rename_i hk;obtain ⟨c,hc⟩:=h x yW hk;rw [hc];exact Nat.le_refl 1
    ·exact Nat.le_refl 1
   have h2:=M8 u fun y hy=>h y (by simp [hy]);show wdI x+X2 u≤u.length+1;omega
theorem V7d (fmt:Int) (r:List UInt8) (x:Tk) (he:ElOk fmt r (some x)):One x:=by
 cases he<;>first | exact fun _=>⟨_,rfl⟩ | (intro h;exact absurd h yW)
theorem Q2s (fmt:Int) (ts:Els) (h:∀ e∈ts,ElOk fmt e.1 e.2):∀ x∈X1 ts,One x:=by
 intro x hx;obtain ⟨e,he,hx⟩:=List.mem_filterMap.1 hx;have:=h e he;rw [hx] at this;exact V7d _ _ _ this
theorem Q9t (r:List UInt8) (o:Option Tk):∀ fmt,ElOk fmt r o→fmt≠2→o≠none:=by
 intro fmt he hf;cases he with
 | cont=>exact absurd rfl hf
 | _=>simp
def Z1f (B0:Nat) (t:TypeId) (u:List Tk) (cs:List Int) (w:World) (e:Ending) (w':World):Prop:=
 ∃ g,e=.returned (.tuple #[.pointer (some ⟨g,0,none⟩),.int .i64 0,.int .i64 0])∧BS B0 g t [] u cs w'∧Below B0 w w'
theorem X7n (raw:ByteArray) (ts:Els) (w:World) (h:Rdb 3 raw ts):
 Calls Tryz.prog 45 #[.string raw] w (Z1f w.heap.size 91 (X1 ts) (csE ts) w):=by
 obtain ⟨R,hk⟩:∃ R,yK (R=Z1f w.heap.size 91 (X1 ts) (csE ts) w):=⟨_,rfl⟩;rw [←hk.o];have hc:yK (BS w.heap.size w.heap.size 91 [] [] [] (w.alloc (.cells #[.slice none 0 0,.slice none 0 0,.slice none 0 0] 91))):=
  ⟨⟨_,_,_,[],⟨#[]⟩,Bd.start yQ rfl yX,BSt.nil⟩⟩
 have hf:=zW ((Below.refl w.heap.size w).alloc yQ (.cells #[.slice none 0 0,.slice none 0 0,.slice none 0 0] 91));have ho:raw.size=(Q2 ts).length:=(by rw [Lib.size_eq,h.eq]);have hl:=zW ho;have H:=zW h;clear h ho;go_enter Tryz.func45,Tryz.ntmps45
 go_wp2_with fail
 go_loopg [6] ts.length (fun gk iv wr=>∃ j,iv=.int .i64 (D3 ts j:Nat)∧j≤ts.length∧yK (BS w.heap.size w.heap.size 91 [] (X1 (ts.take j)) (csE (ts.take j)) wr)∧yK (Below w.heap.size w wr)∧ts.length - j≤gk)
 case atStart=>exact ⟨0,rfl,Nat.zero_le _,hc.o,hf.o,yQ⟩
 case round=>
  obtain ⟨j,rfl,hj,HB,HL,hgk⟩:=hrel;by_cases hlt:j < ts.length
  ·have ha:=List.getElem_mem hlt;have hb:=H.o.els _ ha;have hp:=X4p ts j hlt (X5n _ _ _ hb);have hn:D3 ts j < raw.size:=(by rw [hl.o];exact hp);have hd:=Q7p ts j hlt;rw [←H.o.eq] at hd;have hg:=Q0o ts (j+1);have ht:=H.o.len;have hv:=H.o.sz;obtain ⟨x,hx⟩:=Option.ne_none_iff_exists'.1 (Q9t _ _ _ hb yX);have hh:=X0i ts j hlt x hx;have hm:=Z1m ts j hlt fun e he=>Q9t _ _ _ (H.o.els e he) yX;rw [hh,List.length_append] at hg;have hs:(X1 (ts.take j)).length+1≤500:=(by simp at hg;omega);have hu:X2 (X1 (ts.take j))≤500:=Nat.le_trans (M8 _ (Q2s 3 (ts.take j) fun e he=>H.o.els e (List.mem_of_mem_take he))) yY;obtain ⟨x',hx',hC⟩:=Z0k raw (D3 ts j) _ HB.o yY yY (by rw [Q4h];omega) hn hv 3 _ _ hb rfl hd;rw [hx] at hx';injection hx' with hx';subst hx';rw [←hh,←hm,←Q1m ts j hlt] at hC;have HC:=zW hC;have hw:=zW (HB.o.bsz);clear hC hh hm hx hd hb ha hc hf hg hu hp;have hi:((D3 ts j:Nat):Int) < (raw.size:Int):=yY;generalize D3 ts j=pj at hn hi HC ⊢;go_wp2_with fail
   refine (HC.o).mono ?_;rintro e w1 ⟨rfl,hb1,hw1⟩;have hq:=zW hb1;have hr:=zW (HL.o.trans hw1);clear hb1 hw1;go_wp2_with fail
   go_roundg (ts.length - (j+1))
   case measure=>omega
   case rel=>exact ⟨j+1,rfl,hlt,hq.o,hr.o,yY⟩
  ·obtain rfl:j=ts.length:=yY;have he:D3 ts ts.length=raw.size:=(by rw [hl.o];exact X0q ts);rw [he];rw [List.take_length] at HB;clear hc hf he;go_wp2_with fail
   go_ret3
   rw [hk.o];exact ⟨_,rfl,HB.o,HL.o⟩
theorem X1g (raw:ByteArray) (ts:Els) (w:World) (h:Rdb 3 raw ts):
 Calls Tryz.prog 15 #[.string raw] w (fun e w'=>∃ v,e=.returned (.tuple #[v,.int .i64 0,.int .i64 0])∧OwnT 31 w' w.heap.size v (Q9 (X1 ts))∧Below w.heap.size w w'):=by
 have HR:=zW (X7n raw ts w h);have HL:yK ((X1 ts).length≤500):=h.len;have HU:yK (X2 (X1 ts)≤500):=Nat.le_trans (M8 _ (Q2s 3 ts h.els)) h.len;clear h;go_enter Tryz.func15,Tryz.ntmps15
 go_wp2_with fail
 refine (HR.o).mono ?_;rintro e w1 ⟨g,rfl,hb,hw⟩;have HI:=zW (Y1a hb (by have:=HL.o;omega) (by have:=HU.o;omega));have HW:=zW hw;clear hb hw HR;go_wp2_with fail
 refine (HI.o).mono ?_;rintro e w2 ⟨v,rfl,ho,hw2⟩;have HO:=zW ho;have ha:=zW (HW.o.trans hw2);obtain ⟨A,c,rfl⟩:=Q0 ho;clear ho hw2;go_wp2_with fail
 go_ret3
 exact ⟨_,rfl,HO.o,ha.o⟩
theorem Z0j (raw:ByteArray) (ts:Els) (w:World) (h:Rdb 3 raw ts):
 Calls Tryz.prog 108 #[.string raw] w (fun e w'=>∃ v,e=.returned (.tuple #[v,.int .i64 0])∧OwnE 3 V6 1 w' w.heap.size v (csE ts++[((Q2 ts).length:Int)])∧Below w.heap.size w w'):=by
 have HR:=zW (X7n raw ts w h);have HL:yK ((csE ts).length≤500):=(by show _≤_;rw [Q4h];exact h.len);have ha:(Q2 ts).length=raw.size:=(by rw [Lib.size_eq,h.eq]);rw [ha];clear h ha;go_enter Tryz.func108,Tryz.ntmps108
 go_wp2_with fail
 refine (HR.o).mono ?_;rintro e w1 ⟨g,rfl,hb,hw⟩;have HI:=zW (Y8d (raw.size:Int) hb (by have:=HL.o;omega));have HW:=zW hw;clear hb hw HR;go_wp2_with fail
 refine (HI.o).mono ?_;rintro e w2 ⟨v,rfl,ho,hw2⟩;have HO:=zW ho;have hc:=zW (HW.o.trans hw2);obtain ⟨A,c,hv⟩:=Q0 ho;rw [show (csE ts++[(raw.size:Int)]).length=(csE ts).length+1 by simp] at hv;subst hv;clear ho hw2;go_wp2_with fail
 go_ret2
 exact ⟨_,rfl,HO.o,hc.o⟩
section
variable {B g:Nat} {t:TypeId} {rest:List Value} {u:List Tk} {cs:List Int} {w w':World}
theorem BS.cellR (h:BS B g t rest u cs w) {i:Nat} {v:Value} (hu:rest[i]? =some v):w.cell? ⟨g,3+i,none⟩=some v:=by
 obtain ⟨_,_,_,_,_,h,_⟩:=h.ex;exact h.cellR hu
theorem BS.frozen (h:BS B g t rest u cs w) (j:Nat):w.frozen? ⟨g,j,none⟩=false:=by
 obtain ⟨_,_,_,_,_,h,_⟩:=h.ex;exact h.frozen j
theorem BS.putR (h:BS B g t rest u cs w) (i:Nat) (v:Value):BS B g t (rest.set i v) u cs (w.setCell ⟨g,3+i,none⟩ v)∧Below B w (w.setCell ⟨g,3+i,none⟩ v):=by
 have hB:=h.bsz;obtain ⟨iv,tv,cv,its,tx,h,hs⟩:=h.ex;obtain ⟨h1,h2⟩:=h.putR i v;exact ⟨⟨iv,tv,cv,its,tx,h1,hs⟩,h2.below (fun k hk=>by rw [hk];exact h.lt) hB⟩
end
def Y3i (B g:Nat) (t:TypeId) (u:List Tk) (cs:List Int) (n:Nat) (w:World) (e:Ending) (w':World):Prop:=
 e=.returned (.tuple #[.int .i64 n,.int .i64 0])∧BS B g t [.int .i64 n,.int .i64 n] u cs w'∧Below B w w'
theorem Z6n (raw s:ByteArray) (k:Nat) (b:Int) (c:UInt8) (r:List UInt8) {B g:Nat} {t:TypeId} {u:List Tk} {cs:List Int} {w:World} (h:BS B g t [.int .i64 b,.int .i64 b] u cs w) (hl:u.length+1≤512) (hlu:X2 u≤1000000) (hc:cs.length+1≤1024)
 (hk:k < raw.size) (hr:raw.size≤1000000) (hs:raw.extract k raw.size=s) (hcr:s.data.toList=c::r) (h0:c≠10) (h1:c≠92) (h2:c≠123):
 Calls Tryz.prog 83 #[.pointer (some ⟨g,0,none⟩),.string raw,.int .i64 k] w (Y3i B g t (u++[chI c]) (cs++[b]) (k+1) w):=by
 have hh:0 < s.size:=(by rw [Lib.size_eq,hcr];simp);have hb:s[0]=c:=by
  have:s.data.toList[0]'(by rw [hcr];simp)=c:=(by simp only [hcr];rfl);exact this
 have CB:=zW (fun w (h:BS B g t [.int .i64 b,.int .i64 b] u cs w)=>Y0z s[0] b h hl hlu hc);have n0:((s[0].toNat:Int)==10)=false:=D2 s[0] 10 (by rw [hb];exact h0);have n1:((s[0].toNat:Int)==92)=false:=D2 s[0] 92 (by rw [hb];exact h1);have n2:((s[0].toNat:Int)==123)=false:=D2 s[0] 123 (by rw [hb];exact h2);have HS:=zW hs;have hf:=zW hb;have q3:w.cell? ⟨g,3,none⟩=some (.int .i64 b):=h.cellR (i:=0) rfl;have H:=zW h;clear h hl hlu hc hcr h0 h1 h2 hb hs;go_enter Tryz.func83,Tryz.ntmps83
 go_upto_region 2 with fail
 rw [HS.o];go_wp2_with fail
 go_region_with (go_at_call 125;refine (CB.o _ (by exact H.o.below (Q1 (Below.refl _ _) 1))).mono ?_;rintro e w1 ⟨rfl,ha,he⟩;have hd:=zW ha;have hg:=zW ((Q1 (Below.refl B w) 1).trans he);have z3:w1.cell? ⟨g,3,none⟩=some (.int .i64 b):=ha.cellR (i:=0) rfl;have z4:(w1.setCell ⟨g,3,none⟩ (.int .i64 ((k:Int)+1))).cell? ⟨g,4,none⟩=some (.int .i64 b):=((ha.putR 0 (.int .i64 ((k:Int)+1))).1).cellR (i:=1) rfl;have y3:=ha.frozen 3;have y4:=ha.frozen 4;clear ha he)
 all_goals (
  go_wp2_with fail
  go_ret2
  refine ⟨rfl,?_,?_⟩
  ·rw [←hf.o];exact ((hd.o.putR 0 (.int .i64 ((k+1:Nat):Int))).1.putR 1 (.int .i64 ((k+1:Nat):Int))).1
  ·exact hg.o.trans ((hd.o.putR 0 (.int .i64 ((k+1:Nat):Int))).2.trans ((hd.o.putR 0 (.int .i64 ((k+1:Nat):Int))).1.putR 1 (.int .i64 ((k+1:Nat):Int))).2))
theorem Z0c (e c:UInt8) (h:(e,c)∈Y8m) (w:World):Calls Tryz.prog 129 #[.int .u8 e.toNat] w fun e' w'=>e'=.returned (.tuple #[.int .u8 c.toNat,.bool true])∧w=w':=by
 simp only [Y8m,List.mem_cons,Prod.mk.injEq,List.not_mem_nil,or_false] at h;rcases h with ⟨rfl,rfl⟩ | ⟨rfl,rfl⟩ | ⟨rfl,rfl⟩ | ⟨rfl,rfl⟩ | ⟨rfl,rfl⟩ | ⟨rfl,rfl⟩
 ·show Calls _ _ #[.int .u8 110] _ _;go_enter Tryz.func129,Tryz.ntmps129
  go_wp2
  go_ret2
  exact ⟨rfl,rfl⟩
 ·show Calls _ _ #[.int .u8 116] _ _;go_enter Tryz.func129,Tryz.ntmps129
  go_wp2
  go_ret2
  exact ⟨rfl,rfl⟩
 ·show Calls _ _ #[.int .u8 115] _ _;go_enter Tryz.func129,Tryz.ntmps129
  go_wp2
  go_ret2
  exact ⟨rfl,rfl⟩
 ·show Calls _ _ #[.int .u8 114] _ _;go_enter Tryz.func129,Tryz.ntmps129
  go_wp2
  go_ret2
  exact ⟨rfl,rfl⟩
 ·show Calls _ _ #[.int .u8 92] _ _;go_enter Tryz.func129,Tryz.ntmps129
  go_wp2
  go_ret2
  exact ⟨rfl,rfl⟩
 ·show Calls _ _ #[.int .u8 123] _ _;go_enter Tryz.func129,Tryz.ntmps129
  go_wp2
  go_ret2
  exact ⟨rfl,rfl⟩
theorem Z4m (e c:UInt8) (h:(e,c)∈Y8m):e≠10:=by
 simp only [Y8m,List.mem_cons,Prod.mk.injEq,List.not_mem_nil,or_false] at h;rcases h with ⟨rfl,_⟩ | ⟨rfl,_⟩ | ⟨rfl,_⟩ | ⟨rfl,_⟩ | ⟨rfl,_⟩ | ⟨rfl,_⟩<;>decide
theorem Z0h (raw s:ByteArray) (k:Nat) (b:Int) (d c:UInt8) (r:List UInt8) {B g:Nat} {t:TypeId} {u:List Tk} {cs:List Int} {w:World} (h:BS B g t [.int .i64 b,.int .i64 b] u cs w) (hl:u.length+1≤512) (hlu:X2 u≤1000000) (hc:cs.length+1≤1024)
 (hk:k < raw.size) (hr:raw.size≤1000000) (hs:raw.extract k raw.size=s) (hcr:s.data.toList=92::d::r) (hd:(d,c)∈Y8m):
 Calls Tryz.prog 83 #[.pointer (some ⟨g,0,none⟩),.string raw,.int .i64 k] w (Y3i B g t (u++[chI c]) (cs++[b]) (k+2) w):=by
 have hi:1 < s.size:=(by rw [Lib.size_eq,hcr];simp);have hj:0 < s.size:=yY;have he:s[0]=92:=by
  have:s.data.toList[0]'(by rw [hcr];simp)=92:=(by simp only [hcr];rfl);exact this
 have hf:s[1]=d:=by
  have:s.data.toList[1]'(by rw [hcr];simp)=d:=(by simp only [hcr];rfl);exact this
 have CB:=zW (fun w (h:BS B g t [.int .i64 b,.int .i64 b] u cs w)=>Y0z c b h hl hlu hc);have CE:=zW (fun w=>Z0c s[1] c (by rw [hf];exact hd) w);have n0:((s[0].toNat:Int)==10)=false:=D2 s[0] 10 (by rw [he];decide);have n1:((s[0].toNat:Int)==92)=true:=M5 s[0] 92 he;have n3:((s[1].toNat:Int)==10)=false:=D2 s[1] 10 (by rw [hf];exact Z4m d c hd);have HS:=zW hs;have q3:w.cell? ⟨g,3,none⟩=some (.int .i64 b):=h.cellR (i:=0) rfl;have H:=zW h;clear h hl hlu hc hcr he hs hd hf;go_enter Tryz.func83,Tryz.ntmps83
 go_upto_region 2 with fail
 rw [HS.o];go_wp2_with (go_at_call 129;refine (CE.o _).mono ?_;rintro e w' ⟨rfl,rfl⟩)
 go_region_with (go_at_call 125;refine (CB.o _ (by exact H.o.below (Q1 (Below.refl _ _) 1))).mono ?_;rintro e w1 ⟨rfl,ha,hg⟩;have hb:=zW ha;have hh:=zW ((Q1 (Below.refl B _) 1).trans hg);have z3:w1.cell? ⟨g,3,none⟩=some (.int .i64 b):=ha.cellR (i:=0) rfl;have z4:(w1.setCell ⟨g,3,none⟩ (.int .i64 ((k:Int)+2))).cell? ⟨g,4,none⟩=some (.int .i64 b):=((ha.putR 0 (.int .i64 ((k:Int)+2))).1).cellR (i:=1) rfl;have y3:=ha.frozen 3;have y4:=ha.frozen 4;clear ha hg)
 all_goals (
  go_wp2_with fail
  go_ret2
  refine ⟨rfl,?_,?_⟩
  ·exact ((hb.o.putR 0 (.int .i64 ((k+2:Nat):Int))).1.putR 1 (.int .i64 ((k+2:Nat):Int))).1
  ·exact hh.o.trans ((hb.o.putR 0 (.int .i64 ((k+2:Nat):Int))).2.trans ((hb.o.putR 0 (.int .i64 ((k+2:Nat):Int))).1.putR 1 (.int .i64 ((k+2:Nat):Int))).2))
theorem Y6t (raw s nm:ByteArray) (k:Nat) (b:Int) (r:List UInt8) {B g:Nat} {t:TypeId} {u:List Tk} {cs:List Int} {w:World} (h:BS B g t [.int .i64 b,.int .i64 b] u cs w) (hl:u.length+1≤512) (hlu:X2 u≤1000000) (hc:cs.length+1≤1024)
 (hk:k < raw.size) (hr:raw.size≤1000000) (hs:raw.extract k raw.size=s) (hcr:s.data.toList=123::nm.data.toList++125::r) (hn:V8 nm.data.toList=true):
 Calls Tryz.prog 83 #[.pointer (some ⟨g,0,none⟩),.string raw,.int .i64 k] w (Y3i B g t (u++[⟨5,nm,0⟩]) (cs++[b]) (k+(nm.size+2)) w):=by
 have hj:s.size=nm.size+2+r.length:=(by rw [Lib.size_eq,hcr,Lib.size_eq nm];simp;omega);have ho:0 < s.size:=yY;have hh:1 < s.size:=yY;have hm:s.size≤raw.size:=(by rw [←hs,ByteArray.size_extract];omega);have hb:s[0]=123:=by
  have:s.data.toList[0]'(by rw [hcr];simp)=123:=(by simp only [hcr];rfl);exact this
 have hg:nm.size≤maxLen:=(by unfold maxLen;omega);have hi:s.extract 1 (nm.size+1)=nm:=by
  apply ByteArray.ext;apply Array.toList_inj.1;rw [Lib.size_eq nm];simp only [ByteArray.data_extract,Array.toList_extract,List.extract_eq_take_drop,hcr];simp
 have CI:=zW (T8 s 125 ((nm.size+1:Nat):Int) (by rw [hcr,Lib.size_eq nm];exact X7o nm.data.toList r hn));have CN:=zW (fun w=>L5 nm w hg);rw [hn] at CN;have CB:=zW (fun w (h:BS B g t [.int .i64 b,.int .i64 b] u cs w)=>Z7w ⟨5,nm,0⟩ (by show (5:Int)≠1;decide) b h hl hlu hc);have n0:((s[0].toNat:Int)==10)=false:=D2 s[0] 10 (by rw [hb];decide);have n1:((s[0].toNat:Int)==92)=false:=D2 s[0] 92 (by rw [hb];decide);have n2:((s[0].toNat:Int)==123)=true:=M5 s[0] 123 hb;have HS:=zW hs;have q3:w.cell? ⟨g,3,none⟩=some (.int .i64 b):=h.cellR (i:=0) rfl;have H:=zW h;clear h hl hlu hc hcr hb hs;go_enter Tryz.func83,Tryz.ntmps83
 go_upto_region 2 with fail
 rw [HS.o];go_wp2_with (first
  | (go_at_call 126;refine (CI.o _).mono ?_;rintro e w' ⟨rfl,rfl⟩)
  | (go_at_call 114;refine (CN.o _).mono ?_;rintro e w' ⟨rfl,rfl⟩))
 go_region_with (go_at_call 127;refine (CB.o _ (by exact H.o.below (Q1 (Below.refl _ _) 1))).mono ?_;rintro e w1 ⟨rfl,ha,he⟩;have hd:=zW ha;have hf:=zW ((Q1 (Below.refl B _) 1).trans he);have z3:w1.cell? ⟨g,3,none⟩=some (.int .i64 b):=ha.cellR (i:=0) rfl;have z4:(w1.setCell ⟨g,3,none⟩ (.int .i64 ((k:Int)+((nm.size:Int)+1)+1))).cell? ⟨g,4,none⟩=some (.int .i64 b):=((ha.putR 0 (.int .i64 ((k:Int)+((nm.size:Int)+1)+1))).1).cellR (i:=1) rfl;have y3:=ha.frozen 3;have y4:=ha.frozen 4;clear ha he)
 all_goals (
  go_wp2_with fail
  go_ret2
  have e:((k+(nm.size+2):Nat):Int)=((k:Int)+((nm.size:Int)+1)+1):=yY;unfold Y3i;rw [e];refine ⟨rfl,?_,?_⟩
  ·exact ((hd.o.putR 0 (.int .i64 ((k:Int)+((nm.size:Int)+1)+1))).1.putR 1 (.int .i64 ((k:Int)+((nm.size:Int)+1)+1))).1
  ·exact hf.o.trans ((hd.o.putR 0 (.int .i64 ((k:Int)+((nm.size:Int)+1)+1))).2.trans ((hd.o.putR 0 (.int .i64 ((k:Int)+((nm.size:Int)+1)+1))).1.putR 1 (.int .i64 ((k:Int)+((nm.size:Int)+1)+1))).2))
theorem Y2n (c:UInt8) (h:c=32∨c=9) (w:World):Calls Tryz.prog 128 #[.int .u8 c.toNat] w fun e w'=>e=.returned (.bool true)∧w=w':=by
 rcases h with rfl | rfl
 ·show Calls _ _ #[.int .u8 32] _ _;go_enter Tryz.func128,Tryz.ntmps128
  go_wp2
  go_ret
  exact ⟨rfl,rfl⟩
 ·show Calls _ _ #[.int .u8 9] _ _;go_enter Tryz.func128,Tryz.ntmps128
  go_wp2
  go_ret
  exact ⟨rfl,rfl⟩
theorem Y6m (c:UInt8) (h:c≠32∧c≠9) (w:World):Calls Tryz.prog 128 #[.int .u8 c.toNat] w fun e w'=>e=.returned (.bool false)∧w=w':=by
 have n1:((c.toNat:Int)==32)=false:=D2 c 32 h.1;have n2:((c.toNat:Int)==9)=false:=D2 c 9 h.2;go_enter Tryz.func128,Tryz.ntmps128
 go_wp2
 go_ret
 exact ⟨U9 (by first | rfl | simp [n1,n2]),rfl⟩
theorem X9l (raw:ByteArray) (p:Nat) (c:UInt8) (l:List UInt8) (h:raw.data.toList.drop p=c::l):∃ hp:p < raw.size,raw[p]=c:=by
 have hl:=congrArg List.length h;rw [List.length_drop,List.length_cons] at hl;have hp:p < raw.data.toList.length:=yY;have ha:p < raw.size:=(by rw [Lib.size_eq];exact hp);refine ⟨ha,?_⟩;rw [List.drop_eq_getElem_cons hp] at h;injection h with h1 _
theorem Y6r (raw s:ByteArray) (k g:Nat) (b r:List UInt8) (w:World)
 (hk:k < raw.size) (hr:raw.size≤1000000) (hs:raw.extract k raw.size=s) (hcr:s.data.toList=92::10::b++r) (hb:∀ c∈b,c=32∨c=9) (hrest:r.head? ≠some 32∧r.head? ≠some 9):
 Calls Tryz.prog 83 #[.pointer (some ⟨g,0,none⟩),.string raw,.int .i64 k] w (fun e w'=>e=.returned (.tuple #[.int .i64 ((k+(b.length+2):Nat):Int),.int .i64 0])∧w'=w):=by
 obtain ⟨R,he⟩:∃ R:Ending→World→Prop,yK (R=fun e w'=>e=.returned (.tuple #[.int .i64 ((k+(b.length+2):Nat):Int),.int .i64 0])∧w'=w):=⟨_,rfl⟩;rw [←he.o];have hq:1 < s.size:=(by rw [Lib.size_eq,hcr];simp);have hv:0 < s.size:=yY;have hg:s[0]=92:=by
  have:s.data.toList[0]'(by rw [hcr];simp)=92:=(by simp only [hcr];rfl);exact this
 have hi:s[1]=10:=by
  have:s.data.toList[1]'(by rw [hcr];simp)=10:=(by simp only [hcr];rfl);exact this
 have n0:((s[0].toNat:Int)==10)=false:=D2 s[0] 10 (by rw [hg];decide);have n1:((s[0].toNat:Int)==92)=true:=M5 s[0] 92 hg;have n3:((s[1].toNat:Int)==10)=true:=M5 s[1] 10 hi;have hd:raw.data.toList.drop (k+2)=b++r:=by
  have h:=Q1x raw k;rw [hs,hcr] at h;rw [←List.drop_drop,←h];rfl
 have hm:k+2+(b.length+r.length)=raw.size:=by
  have h:=congrArg List.length hd;have h2:=congrArg List.length hcr;rw [←hs,Q1x,List.length_drop,←Lib.size_eq] at h2;simp at h2;omega
 have ht:k+2+(b.length+r.length)≤raw.size:=yY;have hn:raw.size≤k+2+(b.length+r.length):=yY;clear hm;have HS:=zW hs;have HD:=zW hd;have HB:=zW hb;have hh:=zW hrest;clear hcr hg hs hi hd hb hrest;go_enter Tryz.func83,Tryz.ntmps83
 go_upto_region 2 with fail
 rw [HS.o];go_wp2_with fail
 obtain ⟨wo,hf⟩:∃ wo,yK (wo=w):=⟨w,rfl⟩;go_loopg [10] b.length (fun gk nv wr=>∃ (j p:Nat),nv=.int .i64 (p:Nat)∧p≤k+2+j∧k+2+j≤p∧j≤b.length∧yK (wr=wo)∧yK (raw.data.toList.drop p=b.drop j++r)∧b.length - j≤gk)
 case atStart=>exact ⟨0,k+2,rfl,yQ,yQ,Nat.zero_le _,hf.o.symm,HD.o,yQ⟩
 case round=>
  obtain ⟨j,p,rfl,hp,hu,hj,HW,ha,hgk⟩:=hrel;by_cases hlt:j < b.length
  ·have h1:=ha.o;rw [List.drop_eq_getElem_cons hlt,List.cons_append] at h1;obtain ⟨ho,hc⟩:=X9l raw p _ _ h1;have CB:=zW (fun w=>Y2n raw[p] (by rw [hc];exact HB.o _ (List.getElem_mem hlt)) w);have HN:yK (raw.data.toList.drop (p+1)=b.drop (j+1)++r):=by
    show _=_;rw [←List.drop_drop,h1];rfl
   clear h1 hc ha;have hl:((p:Nat):Int) < (raw.size:Int):=yY;go_wp2_with (go_at_call 128;refine (CB.o _).mono ?_;rintro e w' ⟨rfl,rfl⟩)
   go_roundg (b.length - (j+1))
   case measure=>omega
   case rel=>exact ⟨j+1,p+1,rfl,yY,yY,hlt,HW.o,HN.o,yY⟩
  ·obtain rfl:j=b.length:=yY;have hE:yK ((p:Int)=((k+(b.length+2):Nat):Int)):=(by show _=_;omega);have h1:=ha.o;rw [List.drop_length,List.nil_append] at h1;cases r with
   | nil=>
     have hl:¬ ((p:Nat):Int) < (raw.size:Int):=(by simp at hn;omega);clear h1 ha HD;go_wp2_with fail
     first | go_ret2 | skip
     rw [he.o,←hE.o,HW.o,hf.o];exact ⟨rfl,rfl⟩
   | cons c l=>
     obtain ⟨ho,hc⟩:=X9l raw p _ _ h1;have CB:=zW (fun w=>Y6m raw[p] (by rw [hc];exact ⟨fun e=>hh.o.1 (by rw [e];rfl),fun e=>hh.o.2 (by rw [e];rfl)⟩) w);clear h1 hc ha HD;have hl:((p:Nat):Int) < (raw.size:Int):=yY;go_wp2_with (go_at_call 128;refine (CB.o _).mono ?_;rintro e w' ⟨rfl,rfl⟩)
     first | go_ret2 | skip
     rw [he.o,←hE.o,HW.o,hf.o];exact ⟨rfl,rfl⟩
theorem Y6u (raw:ByteArray) (k:Nat) (b:Int) (rest':List UInt8) {B g:Nat} {t:TypeId} {u:List Tk} {cs:List Int} {w:World} (h:BS B g t [.int .i64 b,.int .i64 b] u cs w) (hl:u.length+1≤512) (hlu:X2 u≤1000000) (hc:cs.length+1≤1024)
 (hk:k < raw.size) (hr:raw.size≤1000000) (x:Tk):∀ (fmt:Int) (r:List UInt8) (o:Option Tk),ElOk fmt r o→fmt=2→o=some x→raw.data.toList.drop k=r++rest'→
 Calls Tryz.prog 83 #[.pointer (some ⟨g,0,none⟩),.string raw,.int .i64 k] w (Y3i B g t (u++[x]) (cs++[b]) (k+r.length) w):=by
 intro fmt r o he hf ho hd;have hx:=Q1x raw k;rw [hd] at hx;cases he with
 | slot _ n hn=>
   injection ho with ho;subst ho;have e:(123::n++[125]).length=(ofL n).size+2:=(by rw [Lib.size_eq];simp [ofL]);rw [e];exact Y6t raw _ (ofL n) k b rest' h hl hlu hc hk hr rfl (by rw [hx];simp [ofL]) (by simpa [ofL] using hn)
 | ch2 c hc3=>
   injection ho with ho;subst ho;exact Z6n raw _ k b c rest' h hl hlu hc hk hr rfl (by rw [hx];rfl) hc3.1 hc3.2.1 hc3.2.2
 | esc d c hc3=>
   injection ho with ho;subst ho;exact Z0h raw _ k b d c rest' h hl hlu hc hk hr rfl (by rw [hx];rfl) hc3
 | cont=>cases ho
 | ch1=>exact absurd hf yX
 | ref=>exact absurd hf yX
 | opn=>exact absurd hf yX
 | cls=>exact absurd hf yX
 | emp=>exact absurd hf yX
 | ch3=>exact absurd hf yX
 | two=>exact absurd hf yX
theorem Y6s (raw:ByteArray) (k g:Nat) (rest':List UInt8) (w:World) (hk:k < raw.size) (hr:raw.size≤1000000) (hrest:rest'.head? ≠some 32∧rest'.head? ≠some 9):∀ (fmt:Int) (r:List UInt8) (o:Option Tk),ElOk fmt r o→o=none→raw.data.toList.drop k=r++rest'→
 Calls Tryz.prog 83 #[.pointer (some ⟨g,0,none⟩),.string raw,.int .i64 k] w (fun e w'=>e=.returned (.tuple #[.int .i64 ((k+r.length:Nat):Int),.int .i64 0])∧w'=w):=by
 intro fmt r o he ho hd;have hx:=Q1x raw k;rw [hd] at hx;cases he with
 | cont b hb=>
   rw [show (92::10::b).length=b.length+2 from rfl];exact Y6r raw _ k g b rest' w hk hr rfl (by rw [hx]) hb hrest
 | _=>cases ho
theorem X1w:∀ (ts:Els) (fmt:Int) (j:Nat) (h:j < ts.length),D4 ts→(∀ e∈ts,ElOk fmt e.1 e.2)→ts[j].2=none→(Q2 (ts.drop (j+1))).head? ≠some 32∧(Q2 (ts.drop (j+1))).head? ≠some 9
 | [],_,j,h,_,_,_=>absurd h (Nat.not_lt_zero _)
 | [e],_,0,_,_,_,_=>by simp [Q2]
 | [e],_,j+1,h,_,_,_=>by simp at h
 | (r,x)::(r',y)::ts,fmt,0,_,hc,he,hn=>by
   have h1:=hc.1 hn;have h2:=X5n _ _ _ (he (r',y) yW);cases r' with
   | nil=>simp at h2
   | cons c l=>exact h1
 | (r,x)::(r',y)::ts,fmt,j+1,h,hc,he,hn=>X1w ((r',y)::ts) fmt j (by simpa using h) hc.2 (fun e hh=>he e (List.mem_cons_of_mem _ hh)) hn
def Q4l (ts:Els) (j:Nat):Nat:=T6 (ts.take j) 0 0
theorem Y4a (ts:Els) (j:Nat) (h:j < ts.length) (x:Tk) (hx:ts[j].2=some x):csE (ts.take (j+1))=csE (ts.take j)++[(Q4l ts j:Int)]∧Q4l ts (j+1)=D3 ts (j+1):=by
 have e2:ts[j]=(ts[j].1,some x):=(by rw [←hx]);refine ⟨?_,?_⟩
 ·unfold csE;rw [List.take_succ_eq_append_getElem h,Q5n,List.map_append];congr 1;rw [e2];rfl
 ·rw [Q1m ts j h];unfold Q4l D3;rw [List.take_succ_eq_append_getElem h,Q9y,e2,Nat.zero_add];rfl
theorem Y3z (ts:Els) (j:Nat) (h:j < ts.length) (hx:ts[j].2=none):csE (ts.take (j+1))=csE (ts.take j)∧Q4l ts (j+1)=Q4l ts j∧X1 (ts.take (j+1))=X1 (ts.take j):=by
 have e2:ts[j]=(ts[j].1,none):=(by rw [←hx]);refine ⟨?_,?_,?_⟩
 ·unfold csE;rw [List.take_succ_eq_append_getElem h,Q5n,List.map_append,e2];simp [Q3j]
 ·unfold Q4l;rw [List.take_succ_eq_append_getElem h,Q9y,e2];rfl
 ·rw [List.take_succ_eq_append_getElem h,I6,e2];simp [X1]
theorem Y8v (ts:Els) (fmt:Int) (h:∀ e∈ts,ElOk fmt e.1 e.2) (j:Nat):X2 (X1 (ts.take j))≤(X1 ts).length:=
 Nat.le_trans (M8 _ (Q2s fmt (ts.take j) fun e he=>h e (List.mem_of_mem_take he))) (Q0o ts j)
theorem X7k (raw:ByteArray) (ts:Els) (w:World) (h:Rdb 2 raw ts) (hco:D4 ts):
 Calls Tryz.prog 44 #[.string raw] w (fun e w'=>∃ g,e=.returned (.tuple #[.pointer (some ⟨g,0,none⟩),.int .i64 0,.int .i64 0])∧BS w.heap.size g 98 [.int .i64 (T6 ts 0 0:Nat),.int .i64 (T6 ts 0 0:Nat)] (X1 ts) (csE ts) w'∧Below w.heap.size w w'):=by
 obtain ⟨R,hi⟩:∃ R:Ending→World→Prop,yK (R=fun e w'=>∃ g,e=.returned (.tuple #[.pointer (some ⟨g,0,none⟩),.int .i64 0,.int .i64 0])∧BS w.heap.size g 98 [.int .i64 (T6 ts 0 0:Nat),.int .i64 (T6 ts 0 0:Nat)] (X1 ts) (csE ts) w'∧Below w.heap.size w w'):=⟨_,rfl⟩;rw [←hi.o];have hc:yK (BS w.heap.size w.heap.size 98 [.int .i64 0,.int .i64 0] [] [] (w.alloc (.cells #[.slice none 0 0,.slice none 0 0,.slice none 0 0,.int .i64 0,.int .i64 0] 98))):=
  ⟨⟨_,_,_,[],⟨#[]⟩,Bd.start yQ rfl yX,BSt.nil⟩⟩
 have hf:=zW ((Below.refl w.heap.size w).alloc yQ (.cells #[.slice none 0 0,.slice none 0 0,.slice none 0 0,.int .i64 0,.int .i64 0] 98));have hn:raw.size=(Q2 ts).length:=(by rw [Lib.size_eq,h.eq]);have hk:=zW hn;have H:=zW h;have hr:=zW hco;clear h hn hco;go_enter Tryz.func44,Tryz.ntmps44
 go_wp2_with fail
 go_loopg [6] ts.length (fun gk iv wr=>∃ j,iv=.int .i64 (D3 ts j:Nat)∧j≤ts.length∧yK (BS w.heap.size w.heap.size 98 [.int .i64 (Q4l ts j:Nat),.int .i64 (Q4l ts j:Nat)] (X1 (ts.take j)) (csE (ts.take j)) wr)∧yK (Below w.heap.size w wr)∧ts.length - j≤gk)
 case atStart=>exact ⟨0,rfl,Nat.zero_le _,hc.o,hf.o,yQ⟩
 case round=>
  obtain ⟨j,rfl,hj,HB,HL,hgk⟩:=hrel;by_cases hlt:j < ts.length
  ·have ha:=List.getElem_mem hlt;have hb:=H.o.els _ ha;have hp:=X4p ts j hlt (X5n _ _ _ hb);have hg:D3 ts j < raw.size:=(by rw [hk.o];exact hp);have hd:=Q7p ts j hlt;rw [←H.o.eq] at hd;have ho:=H.o.sz;have HC:yK (Calls Tryz.prog 83 #[.pointer (some ⟨w.heap.size,0,none⟩),.string raw,.int .i64 (D3 ts j:Nat)] wr (fun e w'=>e=.returned (.tuple #[.int .i64 (D3 ts (j+1):Nat),.int .i64 0])∧BS w.heap.size w.heap.size 98 [.int .i64 (Q4l ts (j+1):Nat),.int .i64 (Q4l ts (j+1):Nat)] (X1 (ts.take (j+1))) (csE (ts.take (j+1))) w'∧Below w.heap.size wr w')):=by
    show Calls _ _ _ _ _;cases hx:ts[j].2 with
    | none=>
      obtain ⟨e1,e2,e3⟩:=Y3z ts j hlt hx;rw [e1,e2,e3,Q1m ts j hlt];refine (Y6s raw (D3 ts j) w.heap.size _ wr hg ho (X1w ts 2 j hlt hr.o H.o.els hx) 2 _ _ hb hx hd).mono ?_;rintro e w' ⟨rfl,rfl⟩;exact ⟨rfl,HB.o,Below.refl _ _⟩
    | some x=>
      obtain ⟨e1,e2⟩:=Y4a ts j hlt x hx;have hm:=X0i ts j hlt x hx;have ht:=Q0o ts (j+1);have hu:=H.o.len;have hv:=Y8v ts 2 H.o.els j;rw [hm,List.length_append,List.length_singleton] at ht;rw [e1,e2,hm,Q1m ts j hlt];exact Y6u raw (D3 ts j) _ _ HB.o yY yY (by rw [Q4h];omega) hg ho x 2 _ _ hb rfl hx hd
   clear hd hb ha hc hf hp HB;have hh:((D3 ts j:Nat):Int) < (raw.size:Int):=yY;generalize D3 ts j=pj at hg hh HC ⊢;go_wp2_with fail
   refine (HC.o).mono ?_;rintro e w1 ⟨rfl,hb1,hw1⟩;have hq:=zW hb1;have hs:=zW (HL.o.trans hw1);clear hb1 hw1;go_wp2_with fail
   go_roundg (ts.length - (j+1))
   case measure=>omega
   case rel=>exact ⟨j+1,rfl,hlt,hq.o,hs.o,yY⟩
  ·obtain rfl:j=ts.length:=yY;have he:D3 ts ts.length=raw.size:=(by rw [hk.o];exact X0q ts);have hl:Q4l ts ts.length=T6 ts 0 0:=(by unfold Q4l;rw [List.take_length]);rw [he];rw [List.take_length,hl] at HB;clear hc hf he hl;go_wp2_with fail
   first | go_ret3 | skip
   rw [hi.o];exact ⟨_,rfl,HB.o,HL.o⟩
theorem X1d (raw:ByteArray) (ts:Els) (w:World) (h:Rdb 2 raw ts) (hco:D4 ts):
 Calls Tryz.prog 14 #[.string raw] w (fun e w'=>∃ v,e=.returned (.tuple #[v,.int .i64 0,.int .i64 0])∧OwnT 31 w' w.heap.size v (Q9 (X1 ts))∧Below w.heap.size w w'):=by
 have HR:=zW (X7k raw ts w h hco);have HL:yK ((X1 ts).length≤500):=h.len;have HU:yK (X2 (X1 ts)≤500):=Nat.le_trans (M8 _ (Q2s 2 ts h.els)) h.len;clear h hco;go_enter Tryz.func14,Tryz.ntmps14
 go_wp2_with fail
 refine (HR.o).mono ?_;rintro e w1 ⟨g,rfl,hb,hw⟩;have HI:=zW (Y1a hb (by have:=HL.o;omega) (by have:=HU.o;omega));have HW:=zW hw;clear hb hw HR;go_wp2_with fail
 refine (HI.o).mono ?_;rintro e w2 ⟨v,rfl,ho,hw2⟩;have HO:=zW ho;have ha:=zW (HW.o.trans hw2);obtain ⟨A,c,rfl⟩:=Q0 ho;clear ho hw2;go_wp2_with fail
 go_ret3
 exact ⟨_,rfl,HO.o,ha.o⟩
theorem Z0g (raw:ByteArray) (ts:Els) (w:World) (h:Rdb 2 raw ts) (hco:D4 ts):
 Calls Tryz.prog 107 #[.string raw] w (fun e w'=>∃ v,e=.returned (.tuple #[v,.int .i64 0])∧OwnE 3 V6 1 w' w.heap.size v (csE ts++[((T6 ts 0 0:Nat):Int)])∧Below w.heap.size w w'):=by
 have HR:=zW (X7k raw ts w h hco);have HL:yK ((csE ts).length≤500):=(by show _≤_;rw [Q4h];exact h.len);clear h hco;generalize T6 ts 0 0=en at HR ⊢;go_enter Tryz.func107,Tryz.ntmps107
 go_wp2_with fail
 refine (HR.o).mono ?_;rintro e w1 ⟨g,rfl,hb,hw⟩;have q4:w1.cell? ⟨g,4,none⟩=some (.int .i64 (en:Nat)):=hb.cellR (i:=1) rfl;have HI:=zW (Y8d (en:Int) (hb.below (Q1 (Below.refl _ _) 1)) (by have:=HL.o;omega));have HW:=zW hw;clear hb hw HR;go_wp2_with fail
 go_region_with (go_at_call 155;refine (HI.o).mono ?_;rintro e w2 ⟨v,rfl,ho,ha⟩;have HO:=zW ho;have hc:=zW (HW.o.trans ((Q1 (Below.refl _ w1) 1).trans ha));obtain ⟨A,c,hv⟩:=Q0 ho;rw [show (csE ts++[(en:Int)]).length=(csE ts).length+1 by simp] at hv;subst hv;clear ho ha)
 all_goals (
  go_wp2_with fail
  go_ret2
  exact ⟨_,rfl,HO.o,hc.o⟩)
theorem Z3u (p r:List UInt8) (h:∀ b∈p,b≠32):Z1 (p++32::r)=p:=by
 unfold Z1;induction p with
 | nil=>rfl
 | cons b p ih=>
   rw [List.cons_append,List.takeWhile_cons,if_pos (by simpa using h b yW),ih fun x hx=>h x (by simp [hx])]
theorem X5k (l:List UInt8):(Lib.cut l [32]).1=Z1 l:=by
 rcases Y9l 32 l with hm | ⟨p,r,rfl,hm⟩
 ·unfold Lib.cut;rw [Q1z 32 l hm,if_neg yX];exact (Y3a _ l fun b hb=>by simpa using hm b hb).symm
 ·unfold Lib.cut;rw [Q3b 32 p r hm,if_pos yY,Z3u p r hm];simp
theorem Q4r (s:ByteArray) (m:Int) (w:World) (hs:s.size≤1000000) (hm:w.cell? ⟨0,0,none⟩=some (.int .i64 m)):
 Calls Tryz.prog 41 #[.string s] w fun e w'=>e=.returned (.string (ofL (Z1 s.data.toList)))∧∃ n,w'=w.drewN n:=by
 have hcut:=X5k s.data.toList;have HC:=zW (Tryz.strings_Cut s (⟨#[32]⟩:ByteArray) m w yY hm);have HN:yK ((⟨(Lib.cut s.data.toList [32]).1.toArray⟩:ByteArray)=ofL (Z1 s.data.toList)):=(by show _=_;rw [hcut];rfl);rw [←HN.o];clear hcut HN;generalize Lib.cut s.data.toList [32]=cc at HC ⊢;go_enter Tryz.func41,Tryz.ntmps41
 go_wp2_with (go_at_call 80;refine (HC.o).mono ?_;rintro e w1 ⟨rfl,n1,rfl⟩)
 go_ret
 exact ⟨rfl,n1,rfl⟩
theorem Q2a (s:ByteArray) (w:World) (h:J4 s.data.toList=false):Calls Tryz.prog 40 #[.string s] w fun e w'=>e=.returned (.bool false)∧w=w':=by
 rw [←Y4] at h;unfold J4 wP wH wLi wTd X3g at h;simp only [Bool.or_eq_false_iff] at h;obtain ⟨⟨⟨⟨n1,n2⟩,n3⟩,n4⟩,n5⟩:=h;go_enter Tryz.func40,Tryz.ntmps40
 go_wp2
 go_ret
 exact ⟨rfl,rfl⟩
theorem Q2d (w:World):Calls Tryz.prog 124 #[.bool true] w fun e w'=>e=.returned (.int .i64 0)∧w=w':=by
 go_enter Tryz.func124,Tryz.ntmps124
 go_wp2
 go_ret
 exact ⟨rfl,rfl⟩
theorem V8d (s:ByteArray) (rest r:List UInt8) (c:UInt8) (h:(r,c)∈X3w) (hs:s.data.toList=r++rest) (w:World):
 Calls Tryz.prog 123 #[.string s] w fun e w'=>e=.returned (.tuple #[.int .u8 c.toNat,.int .i64 (r.length:Nat),.bool true])∧w=w':=by
 simp only [X3w,List.mem_cons,Prod.mk.injEq,List.not_mem_nil,or_false] at h;rcases h with ⟨rfl,rfl⟩ | ⟨rfl,rfl⟩ | ⟨rfl,rfl⟩ | ⟨rfl,rfl⟩ | ⟨rfl,rfl⟩
 ·skip
  have C0:=zW (U6 s (⟨#[38,108,116,59]⟩:ByteArray) true (by rw [hs];exact L1 _ rest));clear hs;go_enter Tryz.func123,Tryz.ntmps123
  go_wp2_with (first
   | (go_at_call_of 130 (Value.string (⟨#[38,108,116,59]⟩:ByteArray));refine (C0.o _).mono ?_;rintro e w' ⟨rfl,rfl⟩))
  go_ret3
  exact ⟨rfl,rfl⟩
 ·skip
  have C0:=zW (U6 s (⟨#[38,108,116,59]⟩:ByteArray) false (by rw [hs];unfold Lib.hasPrefix;simp [List.isPrefixOf]));have C1:=zW (U6 s (⟨#[38,103,116,59]⟩:ByteArray) true (by rw [hs];exact L1 _ rest));clear hs;go_enter Tryz.func123,Tryz.ntmps123
  go_wp2_with (first
   | (go_at_call_of 130 (Value.string (⟨#[38,108,116,59]⟩:ByteArray));refine (C0.o _).mono ?_;rintro e w' ⟨rfl,rfl⟩)
   | (go_at_call_of 130 (Value.string (⟨#[38,103,116,59]⟩:ByteArray));refine (C1.o _).mono ?_;rintro e w' ⟨rfl,rfl⟩))
  go_ret3
  exact ⟨rfl,rfl⟩
 ·skip
  have C0:=zW (U6 s (⟨#[38,108,116,59]⟩:ByteArray) false (by rw [hs];unfold Lib.hasPrefix;simp [List.isPrefixOf]));have C1:=zW (U6 s (⟨#[38,103,116,59]⟩:ByteArray) false (by rw [hs];unfold Lib.hasPrefix;simp [List.isPrefixOf]));have C2:=zW (U6 s (⟨#[38,97,109,112,59]⟩:ByteArray) true (by rw [hs];exact L1 _ rest));clear hs;go_enter Tryz.func123,Tryz.ntmps123
  go_wp2_with (first
   | (go_at_call_of 130 (Value.string (⟨#[38,108,116,59]⟩:ByteArray));refine (C0.o _).mono ?_;rintro e w' ⟨rfl,rfl⟩)
   | (go_at_call_of 130 (Value.string (⟨#[38,103,116,59]⟩:ByteArray));refine (C1.o _).mono ?_;rintro e w' ⟨rfl,rfl⟩)
   | (go_at_call_of 130 (Value.string (⟨#[38,97,109,112,59]⟩:ByteArray));refine (C2.o _).mono ?_;rintro e w' ⟨rfl,rfl⟩))
  go_ret3
  exact ⟨rfl,rfl⟩
 ·skip
  have C0:=zW (U6 s (⟨#[38,108,116,59]⟩:ByteArray) false (by rw [hs];unfold Lib.hasPrefix;simp [List.isPrefixOf]));have C1:=zW (U6 s (⟨#[38,103,116,59]⟩:ByteArray) false (by rw [hs];unfold Lib.hasPrefix;simp [List.isPrefixOf]));have C2:=zW (U6 s (⟨#[38,97,109,112,59]⟩:ByteArray) false (by rw [hs];unfold Lib.hasPrefix;simp [List.isPrefixOf]));have C3:=zW (U6 s (⟨#[38,108,98,59]⟩:ByteArray) true (by rw [hs];exact L1 _ rest));clear hs;go_enter Tryz.func123,Tryz.ntmps123
  go_wp2_with (first
   | (go_at_call_of 130 (Value.string (⟨#[38,108,116,59]⟩:ByteArray));refine (C0.o _).mono ?_;rintro e w' ⟨rfl,rfl⟩)
   | (go_at_call_of 130 (Value.string (⟨#[38,103,116,59]⟩:ByteArray));refine (C1.o _).mono ?_;rintro e w' ⟨rfl,rfl⟩)
   | (go_at_call_of 130 (Value.string (⟨#[38,97,109,112,59]⟩:ByteArray));refine (C2.o _).mono ?_;rintro e w' ⟨rfl,rfl⟩)
   | (go_at_call_of 130 (Value.string (⟨#[38,108,98,59]⟩:ByteArray));refine (C3.o _).mono ?_;rintro e w' ⟨rfl,rfl⟩))
  go_ret3
  exact ⟨rfl,rfl⟩
 ·skip
  have C0:=zW (U6 s (⟨#[38,108,116,59]⟩:ByteArray) false (by rw [hs];unfold Lib.hasPrefix;simp [List.isPrefixOf]));have C1:=zW (U6 s (⟨#[38,103,116,59]⟩:ByteArray) false (by rw [hs];unfold Lib.hasPrefix;simp [List.isPrefixOf]));have C2:=zW (U6 s (⟨#[38,97,109,112,59]⟩:ByteArray) false (by rw [hs];unfold Lib.hasPrefix;simp [List.isPrefixOf]));have C3:=zW (U6 s (⟨#[38,108,98,59]⟩:ByteArray) false (by rw [hs];unfold Lib.hasPrefix;simp [List.isPrefixOf]));have C4:=zW (U6 s (⟨#[38,114,98,59]⟩:ByteArray) true (by rw [hs];exact L1 _ rest));clear hs;go_enter Tryz.func123,Tryz.ntmps123
  go_wp2_with (first
   | (go_at_call_of 130 (Value.string (⟨#[38,108,116,59]⟩:ByteArray));refine (C0.o _).mono ?_;rintro e w' ⟨rfl,rfl⟩)
   | (go_at_call_of 130 (Value.string (⟨#[38,103,116,59]⟩:ByteArray));refine (C1.o _).mono ?_;rintro e w' ⟨rfl,rfl⟩)
   | (go_at_call_of 130 (Value.string (⟨#[38,97,109,112,59]⟩:ByteArray));refine (C2.o _).mono ?_;rintro e w' ⟨rfl,rfl⟩)
   | (go_at_call_of 130 (Value.string (⟨#[38,108,98,59]⟩:ByteArray));refine (C3.o _).mono ?_;rintro e w' ⟨rfl,rfl⟩)
   | (go_at_call_of 130 (Value.string (⟨#[38,114,98,59]⟩:ByteArray));refine (C4.o _).mono ?_;rintro e w' ⟨rfl,rfl⟩))
  go_ret3
  exact ⟨rfl,rfl⟩
theorem Z8a (s:ByteArray) (m:Int) (w:World) (hs:s.size≤1000000) (hm:w.cell? ⟨0,0,none⟩=some (.int .i64 m)) (hc:N5 s.data.toList=true):
 ∃ (a b:ByteArray) (f:Bool),V8 a.data.toList=true∧a.size≤1000000∧(f=true→0 < b.size)∧Calls Tryz.prog 80 #[.string s,.string (⟨#[32]⟩:ByteArray)] w fun e w'=>e=.returned (.tuple #[.string a,.string b,.bool f])∧∃ n,w'=w.drewN n:=by
 obtain ⟨_,_,_,h4,h5⟩:=U7 _ hc;have hcut:=X5k s.data.toList;refine ⟨⟨(Lib.cut s.data.toList [32]).1.toArray⟩,⟨(Lib.cut s.data.toList [32]).2.1.toArray⟩,(Lib.cut s.data.toList [32]).2.2,?_,?_,?_,Tryz.strings_Cut s (⟨#[32]⟩:ByteArray) m w yY hm⟩
 ·rw [←hcut] at h4;simpa using h4
 ·rw [Lib.size_eq] at hs ⊢;simp only [List.toList_toArray];rw [hcut];have:=(List.takeWhile_sublist (l:=s.data.toList) (fun c=>c != 32)).length_le;unfold Z1;omega
 ·intro hf;rw [Lib.size_eq];simp only [List.toList_toArray];rcases Y9l 32 s.data.toList with hmm | ⟨p,r,e,hmm⟩
  ·unfold Lib.cut at hf;rw [Q1z 32 _ hmm,if_neg yX] at hf;cases hf
  ·rw [e,Z3u p r hmm,List.length_append,List.length_cons] at h5;rw [e];unfold Lib.cut;rw [Q3b 32 p r hmm,if_pos yY];simp;omega
theorem Q3c (s:ByteArray) (m:Int) (w:World) (hm:w.cell? ⟨0,0,none⟩=some (.int .i64 m)) (hc:N5 s.data.toList=true):
 Calls Tryz.prog 115 #[.string s] w fun e w'=>e=.returned (.bool true)∧∃ n,w'=w.drewN n:=by
 obtain ⟨R,hp⟩:∃ R:Ending→World→Prop,yK (R=fun e w'=>e=.returned (.bool true)∧∃ n,w'=w.drewN n):=⟨_,rfl⟩;rw [←hp.o];obtain ⟨h1,h2,h3,_,_⟩:=U7 _ hc;obtain ⟨l,d,hl,hd⟩:=Q6y _ hc;have hh:=Lib.size_eq s;obtain ⟨k,hk⟩:∃ k,s.size=k+1:=⟨l.length,by rw [hh,hl,List.length_append];rfl⟩;have ht:k+1≤64:=yY;have hu:k < s.size:=yY;have he:s[k]=d:=by
  have hv:l.length=k:=(by have:=congrArg List.length hl;rw [←hh,List.length_append] at this;simp at this;omega);have:s.data.toList[k]'(by rw [←hh];exact hu)=d:=by
   simp only [hl];rw [List.getElem_append_right yY];simp [hv]
  exact this
 have n1:((s[k].toNat:Int)==47)=false:=D2 s[k] 47 (by rw [he];exact hd);have t1:¬ (64:Int) < (k:Int)+1:=yY;have t2:(((k:Int)+1)==0)=false:=(by rw [beq_eq_false_iff_ne];omega);obtain ⟨a,b,f,ha,hw,hf,hC⟩:=Z8a s m w yY hm hc;have HC:=zW hC;have CN:=zW (fun w=>L5 a w (by unfold maxLen;omega));rw [ha] at CN;have ho:yK (∀ (i:Nat) (h:i < s.size),Y3u s[i]=true):=fun i h=>by
  have:=h3 (s.data.toList[i]'(by rw [←hh];exact h)) (List.getElem_mem _);exact this
 clear hC h1 h2 h3 hl hd he hm hc ha hh;go_enter Tryz.func115,Tryz.ntmps115
 go_wp2_with fail
 obtain ⟨wo,hj⟩:∃ wo,yK (wo=w):=⟨w,rfl⟩;go_loopg [3] (k+1) (fun gk iv wr=>∃ (i:Nat),iv=.int .i64 (i:Nat)∧i≤k+1∧yK (wr=wo)∧k+1 - i≤gk)
 case atStart=>exact ⟨0,rfl,Nat.zero_le _,hj.o.symm,yQ⟩
 case round=>
  obtain ⟨i,rfl,hi,HW,hgk⟩:=hrel;by_cases hlt:i < k+1
  ·have hs:i < s.size:=yY;have hg:=ho.o i hs;have hn:=X4i _ hg;have hr:32≤s[i].toNat∧s[i].toNat≤126:=by
    unfold Y3u at hg;simp only [Bool.and_eq_true,decide_eq_true_eq] at hg;exact hg.1.1.1.1
   obtain ⟨r1,r2⟩:=hr;have CI:=zW (T8 (⟨#[60,62,123,125]⟩:ByteArray) s[i].toNat (-1) (by
    have e:((s[i].toNat:Int)).toNat.toUInt8=s[i]:=(by rw [Int.toNat_natCast];exact UInt8.ofNat_toNat);rw [e];revert hn
    generalize s[i]=c;intro hn;simp [Lib.indexByte,hn.1.symm,hn.2.1.symm,hn.2.2.1.symm,hn.2.2.2.symm]))
   clear hg hn;go_wp2_with (go_at_call 126;refine (CI.o _).mono ?_;rintro e w' ⟨rfl,rfl⟩)
   go_roundg (k+1 - (i+1))
   case measure=>omega
   case rel=>exact ⟨i+1,rfl,hlt,HW.o,yY⟩
  ·obtain rfl:i=k+1:=yY;have hq:yK (Calls Tryz.prog 80 #[.string s,.string (⟨#[32]⟩:ByteArray)] wr fun e w'=>e=.returned (.tuple #[.string a,.string b,.bool f])∧∃ n,w'=wr.drewN n):=by
    show Calls _ _ _ _ _;rw [HW.o,hj.o];exact HC.o
   cases f with
   | true=>
     have hb:=hf rfl;go_wp2_with (first
      | (go_at_call 80;refine (hq.o).mono ?_;rintro e w1 ⟨rfl,n1,rfl⟩)
      | (go_at_call 114;refine (CN.o _).mono ?_;rintro e w' ⟨rfl,rfl⟩))
     first | go_ret | skip
     rw [hp.o,HW.o,hj.o];exact ⟨rfl,_,rfl⟩
   | false=>
     go_wp2_with (first
      | (go_at_call 80;refine (hq.o).mono ?_;rintro e w1 ⟨rfl,n1,rfl⟩)
      | (go_at_call 114;refine (CN.o _).mono ?_;rintro e w' ⟨rfl,rfl⟩))
     first | go_ret | skip
     rw [hp.o,HW.o,hj.o];exact ⟨rfl,_,rfl⟩
theorem Z3k (s p:ByteArray) (b:Bool) (h:Lib.hasSuffix s.data.toList p.data.toList=b) (hs:s.size≤1000000) (w:World):Calls Tryz.prog 164 #[.string s,.string p] w fun e w'=>e=.returned (.bool b)∧w=w':=by
 subst h;refine (Tryz.strings_HasSuffix s p w yY).mono ?_;rintro e w' ⟨rfl,rfl⟩;exact ⟨rfl,rfl⟩
theorem D7 (s t:ByteArray) (a b:Nat) (h:(s.data.toList.take b).drop a=t.data.toList):s.extract a b=t:=by
 apply ByteArray.ext;apply Array.toList_inj.1;rw [←h,ByteArray.data_extract,Array.toList_extract,List.extract_eq_take_drop,List.drop_take]
theorem X2t {fn:Func} {p u v:Tmp} (h:fn.results=#[.cell p 31,.tmp u,.tmp v]) (tmps:Array Value) (w:World) (g:Nat) (k d:Int) (t:ByteArray) (x y:Value) (hp:tmps.getD p undef=.pointer (some ⟨g,0,none⟩)) (hu:tmps.getD u undef=x) (hv:tmps.getD v undef=y)
 (c0:w.cell? ⟨g,0,none⟩=some (.int .i64 k)) (c1:w.cell? ⟨g,1,none⟩=some (.string t)) (c2:w.cell? ⟨g,2,none⟩=some (.int .i64 d)):
 (results fn tmps).run Tryz.prog w=.ok (.tuple #[.agg #[.int .i64 k,.string t,.int .i64 d],x,y]) w:=by
 rw [Q2v h,hp,hu,hv];go_simp
theorem Q2e {l p m q:List UInt8} {a b:Nat} (h:l=p++m++q) (ha:p.length=a) (hb:a+m.length=b):(l.take b).drop a=m:=by
 subst h ha hb;rw [←List.length_append,List.take_left,List.drop_left]
def X1t (k:Int) (t:ByteArray) (n:Nat) (w:World) (e:Ending) (w':World):Prop:=
 e=.returned (.tuple #[.agg #[.int .i64 k,.string t,.int .i64 0],.int .i64 n,.bool true])∧Below w.heap.size w w'
theorem Q2i {w:World} {m:Value} (hm:w.cell? ⟨0,0,none⟩=some m):0 < w.heap.size:=by
 rcases Nat.eq_zero_or_pos w.heap.size with h | h
 ·exfalso;have h2:w.heap[0]? =none:=Array.getElem?_eq_none yY;simp [World.cell?,h2] at hm
 ·exact h
theorem X6 {w w':World} {m:Value} (hm:w.cell? ⟨0,0,none⟩=some m) (hb:Below w.heap.size w w'):w'.cell? ⟨0,0,none⟩=some m:=by
 rw [←hm];exact hb.cell (Q2i hm)
theorem Y2w (s t:ByteArray) (r:List UInt8) (m:Int) (w:World) (hm:w.cell? ⟨0,0,none⟩=some (.int .i64 m)) (hs:s.data.toList=60::t.data.toList++62::r) (hsz:s.size≤1000000) (hc:N5 t.data.toList=true):
 Calls Tryz.prog 121 #[.string s] w (X1t 2 t (t.size+2) w):=by
 have hb:s.size=t.size+2+r.length:=(by rw [Lib.size_eq,hs,Lib.size_eq t];simp;omega);have ha:s.extract 1 (t.size+1)=t:=D7 _ _ _ _ (by rw [hs,Lib.size_eq t];simp);have CI:=zW (T8 s 62 ((t.size+1:Nat):Int) (by rw [hs,Lib.size_eq t];exact Y2v t.data.toList r (Q0k _ hc).1));have CP:=zW (U6 t (⟨#[47]⟩:ByteArray) false (by
  obtain ⟨c,l,e,hh⟩:=E4 _ hc;rw [e];exact Q0u c 47 l [] (O3 c hh 47 yW)))
 have CS:=zW (Z3k t (⟨#[47]⟩:ByteArray) false (by
  obtain ⟨l,d,e,hd⟩:=Q6y _ hc;rw [e];show Lib.hasSuffix (l++[d]) [47]=false;rw [Y7n l [] d 47];simpa using fun e:47=d=>hd e.symm) yY)
 have HC:=zW (fun w hm=>Q3c t m w hm hc);have HM:=zW hm;have he:t.size≤1000000:=yY;have HR:yK (IntKind.i64.wrap ((t.size:Int)+1+1)=((t.size+2:Nat):Int)):=(by show _=_;rw [IntKind.wrap_i64];omega);clear hs hc hm;go_enter Tryz.func121,Tryz.ntmps121
 go_wp2_with (first
  | (go_at_call 126;refine (CI.o _).mono ?_;rintro e w' ⟨rfl,rfl⟩)
  | (go_at_call 130;refine (CP.o _).mono ?_;rintro e w' ⟨rfl,rfl⟩)
  | (go_at_call 164;refine (CS.o _).mono ?_;rintro e w' ⟨rfl,rfl⟩))
 go_region_with (go_at_call 115;refine (HC.o _ (by exact X6 HM.o (by (repeat' (first | with_reducible exact Below.refl _ _ | refine Q1 ?_ _ | refine Below.drew ?_ | refine Below.setCell ?_ yW _ | refine Below.alloc ?_ yW _))))).mono ?_; rintro e w1 ⟨rfl,n1,rfl⟩)
 all_goals (
  go_wp2_with fail
  refine bodyPost_ret (X2t rfl _ _ w.heap.size 2 0 t _ _ rfl rfl rfl yU yU yU) rfl ?_;refine ⟨Q4w (by rw [HR.o];rfl),?_⟩
  (repeat' (first | with_reducible exact Below.refl _ _ | refine Q1 ?_ _ | refine Below.drew ?_ | refine Below.setCell ?_ yW _ | refine Below.alloc ?_ yW _)))
theorem Z3q (s t:ByteArray) (r:List UInt8) (m:Int) (w:World) (hm:w.cell? ⟨0,0,none⟩=some (.int .i64 m)) (hs:s.data.toList=60::t.data.toList++47::62::r) (hsz:s.size≤1000000) (hc:N5 t.data.toList=true):
 Calls Tryz.prog 121 #[.string s] w (X1t 4 t (t.size+3) w):=by
 have hg:s.size=t.size+3+r.length:=(by rw [Lib.size_eq,hs,Lib.size_eq t];simp;omega);obtain ⟨u,HU⟩:∃ u:ByteArray,yK (u=ofL (t.data.toList++[47])):=⟨ofL (t.data.toList++[47]),rfl⟩;have ha:u.data.toList=t.data.toList++[47]:=(by rw [HU.o];simp [ofL]);have he:u.size=t.size+1:=(by rw [Lib.size_eq,ha,Lib.size_eq t];simp);have hf:s.extract 1 (t.size+2)=u:=D7 _ _ _ _ (Q2e (p:=[60]) (q:=62::r) (by rw [hs,ha];simp) rfl (by rw [←Lib.size_eq,he];omega));have hd:u.extract 0 t.size=t:=D7 _ _ _ _ (Q2e (p:=[]) (q:=[47]) (by rw [ha];simp) rfl (by rw [←Lib.size_eq];omega));have CI:=zW (T8 s 62 ((t.size+2:Nat):Int) (by
  have h:=Y2v (t.data.toList++[47]) r (fun b hb=>by
   rcases List.mem_append.1 hb with hb | hb
   ·exact (Q0k _ hc).1 b hb
   ·rw [List.mem_singleton.1 hb];decide)
  rw [hs,show ((t.size+2:Nat):Int)=(t.size:Int)+1+1 by omega,Lib.size_eq t];simpa using h))
 have CP:=zW (U6 u (⟨#[47]⟩:ByteArray) false (by
  obtain ⟨c,l,e,hh⟩:=E4 _ hc;rw [ha,e];exact Q0u c 47 _ [] (O3 c hh 47 yW)))
 have CS:=zW (Z3k u (⟨#[47]⟩:ByteArray) true (by
  rw [ha];show Lib.hasSuffix (t.data.toList++[47]) [47]=true;rw [Y7n _ [] 47 47];rfl) yY)
 have HC:=zW (fun w hm=>Q3c t m w hm hc);have HM:=zW hm;have hi:t.size≤1000000:=yY;have HR:yK (IntKind.i64.wrap ((t.size:Int)+2+1)=((t.size+3:Nat):Int)):=(by show _=_;rw [IntKind.wrap_i64];omega);clear hs hc hm ha HU;go_enter Tryz.func121,Tryz.ntmps121
 go_wp2_with (first
  | (go_at_call 126;refine (CI.o _).mono ?_;rintro e w' ⟨rfl,rfl⟩)
  | (go_at_call 130;refine (CP.o _).mono ?_;rintro e w' ⟨rfl,rfl⟩)
  | (go_at_call 164;refine (CS.o _).mono ?_;rintro e w' ⟨rfl,rfl⟩))
 go_region
 all_goals (
  go_wp2_with fail
  go_region_with (go_at_call 115;refine (HC.o _ ?hcell).mono ?_;(case hcell=>(refine X6 HM.o ?_;(repeat' (first | with_reducible exact Below.refl _ _ | refine Q1 ?_ _ | refine Below.drew ?_ | refine Below.setCell ?_ yW _ | refine Below.alloc ?_ yW _))));rintro e w1 ⟨rfl,n1,rfl⟩))
 all_goals (
  go_wp2_with fail
  refine bodyPost_ret (X2t rfl _ _ w.heap.size 4 0 t _ _ rfl rfl rfl yU yU yU) rfl ?_;refine ⟨Q4w (by rw [HR.o];rfl),?_⟩
  (repeat' (first | with_reducible exact Below.refl _ _ | refine Q1 ?_ _ | refine Below.drew ?_ | refine Below.setCell ?_ yW _ | refine Below.alloc ?_ yW _)))
theorem V5z (s t:ByteArray) (r:List UInt8) (m:Int) (w:World) (hm:w.cell? ⟨0,0,none⟩=some (.int .i64 m)) (hs:s.data.toList=60::47::t.data.toList++62::r) (hsz:s.size≤1000000) (hc:V8 t.data.toList=true):
 Calls Tryz.prog 121 #[.string s] w (X1t 3 t (t.size+3) w):=by
 have hg:s.size=t.size+3+r.length:=(by rw [Lib.size_eq,hs,Lib.size_eq t];simp;omega);obtain ⟨u,HU⟩:∃ u:ByteArray,yK (u=ofL (47::t.data.toList)):=⟨ofL (47::t.data.toList),rfl⟩;have ha:u.data.toList=47::t.data.toList:=(by rw [HU.o];simp [ofL]);have he:u.size=t.size+1:=(by rw [Lib.size_eq,ha,Lib.size_eq t];simp);have hf:s.extract 1 (t.size+2)=u:=D7 _ _ _ _ (Q2e (p:=[60]) (q:=62::r) (by rw [hs,ha];simp) rfl (by rw [←Lib.size_eq,he];omega));have hd:u.extract 1 (t.size+1)=t:=D7 _ _ _ _ (Q2e (p:=[47]) (q:=[]) (by rw [ha];simp) rfl (by rw [←Lib.size_eq];omega));have CI:=zW (T8 s 62 ((t.size+2:Nat):Int) (by
  have h:=Y2v (47::t.data.toList) r (fun b hb=>by
   rcases List.mem_cons.1 hb with rfl | hb
   ·decide
   ·exact I7 _ hc 62 yW b hb)
  rw [hs,show ((t.size+2:Nat):Int)=(t.size:Int)+1+1 by omega,Lib.size_eq t];simpa using h))
 have CP:=zW (U6 u (⟨#[47]⟩:ByteArray) true (by
  rw [ha];exact L1 [47] t.data.toList))
 have CN:=zW (fun w=>L5 t w (by unfold maxLen;omega));rw [hc] at CN;have hh:t.size≤1000000:=yY;have HR:yK (IntKind.i64.wrap ((t.size:Int)+2+1)=((t.size+3:Nat):Int)):=(by show _=_;rw [IntKind.wrap_i64];omega);clear hs hc hm ha HU;go_enter Tryz.func121,Tryz.ntmps121
 go_wp2_with (first
  | (go_at_call 126;refine (CI.o _).mono ?_;rintro e w' ⟨rfl,rfl⟩)
  | (go_at_call 130;refine (CP.o _).mono ?_;rintro e w' ⟨rfl,rfl⟩))
 go_region
 all_goals (
  go_wp2_with fail
  go_region_with (go_at_call 114;refine (CN.o _).mono ?_;rintro e w1 ⟨rfl,rfl⟩))
 all_goals (
  go_wp2_with fail
  refine bodyPost_ret (X2t rfl _ _ w.heap.size 3 0 t _ _ rfl rfl rfl yU yU yU) rfl ?_;refine ⟨Q4w (by rw [HR.o];rfl),?_⟩
  (repeat' (first | with_reducible exact Below.refl _ _ | refine Q1 ?_ _ | refine Below.drew ?_ | refine Below.setCell ?_ yW _ | refine Below.alloc ?_ yW _)))
theorem Y5x {α:Type} {e:TypeId} {f:α→List Value} {m:Nat} (hm:∀ x,(f x).length=m) {w:World} {B:Nat} {A:Option Addr} {n c:Nat} {l:List α} (h:w.ownsRow B e m (.slice A n c) l.length (l.flatMap f)) (k:Nat) (hk:k≤l.length):
 w.ownsRow B e m (.slice A k c) (l.take k).length ((l.take k).flatMap f):=by
 have ha:(l.take k).length=k:=(by rw [List.length_take];omega);have he:((l.take k).flatMap f).length=k * m:=(by rw [T7 f m hm,ha]);have hd:(l.flatMap f).take (k * m)=(l.take k).flatMap f:=by
  have e1:l.flatMap f=(l.take k).flatMap f++(l.drop k).flatMap f:=(by rw [←List.flatMap_append,List.take_append_drop]);rw [e1,←he,List.take_left]
 rw [ha];refine ⟨he,?_⟩;rcases h.2 with ⟨hv,h0⟩ | ⟨g,cap,cur,hv,hb,hh,hc,hm',hs,ht⟩
 ·injection hv with e1 e2 e3;subst e1 e2 e3;have:k=0:=yY;subst this;exact .inl ⟨rfl,rfl⟩
 ·injection hv with e1 e2 e3;subst e1 e2 e3;refine .inr ⟨g,c,cur,rfl,hb,hh,yY,hm',hs,?_⟩;rw [←hd,←ht,List.take_take,Nat.min_eq_left (Nat.mul_le_mul_right _ hk)]
structure Ms (B g:Nat) (iv tv cv ov:Value) (its:List Tk) (tx:ByteArray) (cs:List Int) (ops:List Tk) (cnt:Nat) (w:World):Prop where
 bd:Bd B g 93 [ov,.int .i64 (cnt:Int)] iv tv cv its tx cs w
 own:OwnT 31 w B ov ops
 ap:Q2o ov iv
section
variable {B g:Nat} {iv tv cv ov iv' tv' cv' ov':Value} {its:List Tk} {tx:ByteArray} {cs:List Int} {ops ops':List Tk} {cnt:Nat} {w w':World}
theorem Ms.nO (h:Ms B g iv tv cv ov its tx cs ops cnt w):X3j g ov:=Y1 h.own h.bd.box h.bd.ty.1
theorem Ms.aOT (h:Ms B g iv tv cv ov its tx cs ops cnt w):Q2o ov tv:=G5 h.own h.bd.txt yX
theorem Ms.aOC (h:Ms B g iv tv cv ov its tx cs ops cnt w):Q2o ov cv:=G5 h.own h.bd.cuts yX
theorem Ms.below (h:Ms B g iv tv cv ov its tx cs ops cnt w) (hb:Below w.heap.size w w'):Ms B g iv tv cv ov its tx cs ops cnt w':=
 ⟨h.bd.below hb,(Mod.of_below hb).own h.own fun _ _ hf=>hf,h.ap⟩
theorem Ms.alloc (h:Ms B g iv tv cv ov its tx cs ops cnt w) (o:Obj):Ms B g iv tv cv ov its tx cs ops cnt (w.alloc o):=h.below ((Below.refl _ _).alloc yQ o)
theorem Ms.drew (h:Ms B g iv tv cv ov its tx cs ops cnt w):Ms B g iv tv cv ov its tx cs ops cnt w.drew:=⟨h.bd.drew,h.own,h.ap⟩
theorem Ms.drewN (h:Ms B g iv tv cv ov its tx cs ops cnt w) (n:Nat):Ms B g iv tv cv ov its tx cs ops cnt (w.drewN n):=⟨h.bd.drewN n,h.own,h.ap⟩
theorem Ms.other (h:Ms B g iv tv cv ov its tx cs ops cnt w) (p j:Nat) (u:Value) (hg:p≠g) (hs:∀ v∈[iv,tv,cv,ov],v.ownBlock≠some p):Ms B g iv tv cv ov its tx cs ops cnt (w.setCell ⟨p,j,none⟩ u):=by
 have hm:=Mod.set w p j u;refine ⟨h.bd.mod hm fun k hk e=>?_,hm.own h.own fun k hk e=>?_,h.ap⟩
 ·subst e;rcases hk with hk | hk | hk | hk
  ·exact hg hk
  ·exact hs iv yW hk
  ·exact hs tv yW hk
  ·exact hs cv yW hk
 ·subst e;exact hs ov yW hk
theorem Ms.count (h:Ms B g iv tv cv ov its tx cs ops cnt w) (c:Nat):Ms B g iv tv cv ov its tx cs ops c (w.setCell ⟨g,4,none⟩ (.int .i64 (c:Int))):=by
 obtain ⟨h1,h2⟩:=h.bd.putR 1 (.int .i64 (c:Int));exact ⟨h1,h2.own h.own fun k hk e=>h.nO k hk e,h.ap⟩
theorem Ms.push (h:Ms B g iv tv cv ov its tx cs ops cnt w) (ho:OwnT 31 w' B ov' ops') (hg:w.grownBy w' ov.ownBlock) (ha:ov'.ownBlock=ov.ownBlock∨ov'.ownBlock=some w.heap.size):
 Ms B g iv tv cv ov' its tx cs ops' cnt (w'.setCell ⟨g,3,none⟩ ov')∧Mod (fun k=>k=g∨ov.ownBlock=some k) w (w'.setCell ⟨g,3,none⟩ ov'):=by
 have hm:=Mod.of_grown hg;have hb:Bd B g 93 [ov,.int .i64 (cnt:Int)] iv tv cv its tx cs w':=h.bd.mod hm fun k hk e=>by
  rcases hk with hk | hk | hk | hk
  ·exact h.nO k e hk
  ·exact h.ap k e hk
  ·exact h.aOT k e hk
  ·exact h.aOC k e hk
 obtain ⟨h1,h2⟩:=hb.putR 0 ov';refine ⟨⟨h1,h2.own ho fun k hk e=>Y1 ho hb.box h.bd.ty.1 k hk e,fun k hk e=>?_⟩,?_⟩
 ·rcases ha with h3 | h3
  ·rw [h3] at hk;exact h.ap k hk e
  ·rw [h3] at hk;injection hk with hk;have:=(h.bd.its.lt k e).2;omega
 ·exact (hm.weak (T:=fun k=>k=g∨ov.ownBlock=some k) fun i hi _=>.inr hi).trans h2 fun i hi _=>.inl hi
theorem Ms.grO (h:Ms B g iv tv cv ov its tx cs ops cnt w) (hg:w.grownBy w' ov.ownBlock):w'.heap[g]? =some (.cells (iv::tv::cv::[ov,.int .i64 (cnt:Int)]).toArray 93):=(hg.block g h.bd.gsz (fun e=>h.nO g e.symm rfl)).trans h.bd.box
theorem Ms.pop {A:Option Addr} {n c:Nat} (h:Ms B g iv tv cv (.slice A n c) its tx cs ops cnt w) (k:Nat) (hk:k≤ops.length):
 Ms B g iv tv cv (.slice A k c) its tx cs (ops.take k) cnt (w.setCell ⟨g,3,none⟩ (.slice A k c)):=by
 obtain ⟨h1,h2⟩:=h.bd.putR 0 (.slice A k c);have ha:(Value.slice A k c).ownBlock=(Value.slice A n c).ownBlock:=by cases A<;>rfl
 refine ⟨h1,h2.own (Y5x Q5 h.own k hk) fun i hi e=>h.nO i (by rw [←ha];exact hi) e,fun i hi e=>h.ap i (by rw [←ha];exact hi) e⟩
end
structure MSt (B g:Nat) (u:List Tk) (cs:List Int) (ops:List Tk) (cnt:Nat) (w:World):Prop where
 ex:∃ iv tv cv ov its tx,Ms B g iv tv cv ov its tx cs ops cnt w∧BSt u its tx
section
variable {B g:Nat} {u:List Tk} {cs:List Int} {ops:List Tk} {cnt:Nat} {w w':World}
theorem MSt.gsz (h:MSt B g u cs ops cnt w):g < w.heap.size:=by obtain ⟨_,_,_,_,_,_,h,_⟩:=h.ex;exact h.bd.gsz
theorem MSt.bsz (h:MSt B g u cs ops cnt w):B≤w.heap.size:=by obtain ⟨_,_,_,_,_,_,h,_⟩:=h.ex;exact Nat.le_trans h.bd.lt (Nat.le_of_lt h.bd.gsz)
theorem MSt.below (h:MSt B g u cs ops cnt w) (hb:Below w.heap.size w w'):MSt B g u cs ops cnt w':=by
 obtain ⟨iv,tv,cv,ov,its,tx,h,hs⟩:=h.ex;exact ⟨iv,tv,cv,ov,its,tx,h.below hb,hs⟩
theorem MSt.bs (h:MSt B g u cs ops cnt w):∃ rest,BS B g 93 rest u cs w:=by
 obtain ⟨iv,tv,cv,ov,its,tx,h,hs⟩:=h.ex;exact ⟨_,⟨iv,tv,cv,its,tx,h.bd,hs⟩⟩
theorem V0b (c:UInt8) (off:Int) (h:MSt B g u cs ops cnt w) (hl:u.length+1≤512) (hlu:X2 u≤1000000) (hc:cs.length+1≤1024):
 Calls Tryz.prog 125 #[.pointer (some ⟨g,0,none⟩),.int .u8 c.toNat,.int .i64 off] w (fun e w'=>e=.returned (.bool true)∧MSt B g (u++[chI c]) (cs++[off]) ops cnt w'∧Below B w w'):=by
 have hB:=h.bsz;obtain ⟨iv,tv,cv,ov,its,tx,h,hs⟩:=h.ex;have h1:=hs.len;have h2:=hs.text;refine (X8w c off h.bd yY hc yY).mono ?_;rintro e w' ⟨rfl,tv',cv',h',hm⟩;refine ⟨rfl,⟨_,_,_,_,_,_,⟨h',hm.own h.own fun k hk e=>?_,h.ap⟩,hs.ch c⟩,hm.below (fun i hi=>?_) hB⟩
 ·rcases e with e | e | e
  ·exact h.nO k hk e
  ·exact h.aOT k hk e
  ·exact h.aOC k hk e
 ·rcases hi with rfl | hi | hi
  ·exact h.bd.lt
  ·exact (h.bd.txt.lt i hi).1
  ·exact (h.bd.cuts.lt i hi).1
theorem Y1z (x:Tk) (hx:x.k≠1) (off:Int) (h:MSt B g u cs ops cnt w) (hl:u.length+1≤512) (hlu:X2 u≤1000000) (hc:cs.length+1≤1024):
 Calls Tryz.prog 127 #[.pointer (some ⟨g,0,none⟩),.agg #[.int .i64 x.k,.string x.t,.int .i64 x.d],.int .i64 off] w (fun e w'=>e=.returned (.bool true)∧MSt B g (u++[x]) (cs++[off]) ops cnt w'∧Below B w w'):=by
 have hB:=h.bsz;obtain ⟨iv,tv,cv,ov,its,tx,h,hs⟩:=h.ex;have h1:=hs.len;have h2:=hs.text;refine (X8y x off h.bd yY hc yY).mono ?_;rintro e w' ⟨rfl,iv',tv',cv',h',hm,hat⟩;refine ⟨rfl,⟨_,_,_,_,_,_,⟨h',hm.own h.own fun k hk e=>?_,fun k hk e=>?_⟩,hs.item x hx⟩,hm.below (fun i hi=>?_) hB⟩
 ·rcases e with e | e | e
  ·exact h.nO k hk e
  ·exact h.ap k hk e
  ·exact h.aOC k hk e
 ·rcases hat with h3 | h3
  ·rw [h3] at e;exact h.ap k hk e
  ·have h4:=h3 k e;have h5:=(h.own.lt k hk).2;omega
 ·rcases hi with rfl | hi | hi
  ·exact h.bd.lt
  ·exact (h.bd.its.lt i hi).1
  ·exact (h.bd.cuts.lt i hi).1
end
def Z1i (B g:Nat) (u:List Tk) (cs:List Int) (ops:List Tk) (cnt:Nat) (w:World) (e:Ending) (w':World):Prop:=
 e=.returned (.int .i64 0)∧MSt B g u cs ops cnt w'∧Below B w w'
theorem Z0x (t:ByteArray) (off:Int) {B g:Nat} {u:List Tk} {cs:List Int} {ops:List Tk} {cnt:Nat} {w:World} (h:MSt B g u cs ops cnt w) (hl:u.length+1≤512) (hlu:X2 u≤1000000) (hc:cs.length+1≤1024) (ho:ops.length≤500) (hn:cnt≤500):
 Calls Tryz.prog 122 #[.pointer (some ⟨g,0,none⟩),.agg #[.int .i64 2,.string t,.int .i64 0],.int .i64 off] w (Z1i B g (u++[⟨2,t,((cnt+1:Nat):Int)⟩]) (cs++[off]) (ops++[⟨2,t,((cnt+1:Nat):Int)⟩]) (cnt+1) w):=by
 have hB:=h.bsz;have hg:=h.gsz;obtain ⟨iv,tv,cv,ov,its,tx,hm,hs⟩:=h.ex;clear h;obtain ⟨A,c,rfl⟩:=Q0 hm.own;have hj:∀ v∈[iv,tv,cv,.slice A ops.length c],v.ownBlock≠some w.heap.size:=by
  intro v hv e;simp only [List.mem_cons,List.not_mem_nil,or_false] at hv;rcases hv with rfl | rfl | rfl | rfl
  ·have:=(hm.bd.its.lt _ e).2;omega
  ·have:=(hm.bd.txt.lt _ e).2;omega
  ·have:=(hm.bd.cuts.lt _ e).2;omega
  ·have:=(hm.own.lt _ e).2;omega
 have H0:=zW (hm.alloc (.cells #[.int .i64 2,.string t,.int .i64 0] 31));have hb:yK ((w.alloc (.cells #[.int .i64 2,.string t,.int .i64 0] 31)).heap[w.heap.size]? =some (.cells #[.int .i64 2,.string t,.int .i64 0] 31)):=Array.getElem?_push_size;have hf:=zW ((Below.refl B w).alloc hB (.cells #[.int .i64 2,.string t,.int .i64 0] 31));have he:w.heap.size < (w.alloc (.cells #[.int .i64 2,.string t,.int .i64 0] 31)).heap.size:=yW;have HS:=zW hs;clear hm hs;obtain ⟨p,hp⟩:∃ p,yK (p=w.heap.size):=⟨_,rfl⟩;go_enter Tryz.func122,Tryz.ntmps122
 go_upto_region 1 with fail
 rw [←hp.o] at hb hj he hg ⊢;generalize w.alloc (.cells #[.int .i64 2,.string t,.int .i64 0] 31)=w0 at H0 hb hf he ⊢;obtain ⟨x0,x1,x2,x3⟩:=bx3 hb.o;have q4:w0.cell? ⟨g,4,none⟩=some (.int .i64 (cnt:Int)):=H0.o.bd.cellR (i:=1) rfl;have f4:=H0.o.bd.frozen 4;go_upto_region 8 with fail
 rw [show (cnt:Int)+1=((cnt+1:Nat):Int) by omega];obtain ⟨c1,hu⟩:∃ c1,yK (c1=cnt+1):=⟨_,rfl⟩;rw [←hu.o];have H1:=zW (H0.o.count c1);have hd:yK ((w0.setCell ⟨g,4,none⟩ (.int .i64 (c1:Int))).heap[p]? =some (.cells #[.int .i64 2,.string t,.int .i64 0] 31)):=by
  show _=_;rw [Below.heap_setCell _ _ _ _ (by show p≠g;omega)];exact hb.o
 have hh:=zW (hf.o.setCell (p:=⟨g,4,none⟩) H0.o.bd.lt (.int .i64 (c1:Int)));have hq:p < (w0.setCell ⟨g,4,none⟩ (.int .i64 (c1:Int))).heap.size:=(by simpa [World.setCell] using he);clear q4 f4 x0 x1 x2 x3 H0 hb hf he;generalize w0.setCell ⟨g,4,none⟩ (.int .i64 (c1:Int))=w1 at H1 hd hh hq ⊢;obtain ⟨x0,x1,x2,x3,x4,x5⟩:=bx3 hd.o;have q4:w1.cell? ⟨g,4,none⟩=some (.int .i64 (c1:Int)):=H1.o.bd.cellR (i:=1) rfl;go_upto_region 9 with fail
 have H2:=zW (H1.o.other p 2 (.int .i64 (c1:Int)) yY hj);have hi:yK ((w1.setCell ⟨p,2,none⟩ (.int .i64 (c1:Int))).heap[p]? =some (.cells #[.int .i64 2,.string t,.int .i64 (c1:Int)] 31)):=by
  show _=_;rw [R3 hd.o];rfl
 have hr:=zW (hh.o.setCell (p:=⟨p,2,none⟩) (by show B≤p;have:=hp.o;omega) (.int .i64 (c1:Int)));have hC:p < (w1.setCell ⟨p,2,none⟩ (.int .i64 (c1:Int))).heap.size:=(by simpa [World.setCell] using hq);clear q4 x0 x1 x2 x3 x4 x5 H1 hd hh hq;generalize w1.setCell ⟨p,2,none⟩ (.int .i64 (c1:Int))=w2 at H2 hi hr hC ⊢;obtain ⟨x0,x1,x2,_⟩:=bx3 hi.o;go_upto_region 10 with fail
 have q3:w2.cell? ⟨g,3,none⟩=some (.slice A ops.length c):=H2.o.bd.cellR (i:=0) rfl;have ha:=zW (H2.o.drew.alloc (.cells (tkC ⟨2,t,(c1:Int)⟩).toArray 31));have hG:B≤w2.heap.size:=(by have:=hp.o;omega);have p0:(w2.alloc (.cells #[.int .i64 2,.string t,.int .i64 (c1:Int)] 31)).cell? ⟨g,3,none⟩=some (.slice A ops.length c):=ha.o.bd.cellR (i:=0) rfl;go_region_law (first
  | (refine T0 rfl (.tmp 72) (.tmp 74) 24 31 rfl Tryz.underlying24 _ tkC 3 32 Z7 rfl yX Q5 K2 B (.slice A ops.length c) ops (by simp [Act.eval]) (by exact ha.o.own) (.slice (some ⟨w2.drew.heap.size, 0, none⟩) 1 1) [⟨2, t, (c1 : Int)⟩] (by simp [Act.eval]) (by exact Z6 tkC 3 Q5 _ _ rfl ⟨2, t, (c1 : Int)⟩ _) yV yX yV ?_
     intro v7 w7 hown7 hbel7 hgr7 hat7;obtain ⟨A7,c7,hz⟩:=Q0 hown7;rw [show (ops++[(⟨2,t,(c1:Int)⟩:Tk)]).length=ops.length+1 by simp] at hz;subst hz;have HP:=zW (ha.o.push hown7 hgr7 hat7);have z0:=Z8 (ha.o.grO hgr7) 3 rfl;have y0:=Y9 (ha.o.grO hgr7) 3;have hF:=hgr7.size;have hw:yK (w7.heap[p]? =some (.cells #[.int .i64 2,.string t,.int .i64 (c1:Int)] 31)):=by
      exact (hgr7.block p yV (fun e=>by have:=(ha.o.own.lt p e.symm).1;exact hj (.slice A ops.length c) yW e.symm)).trans ((Below.heap_alloc w2 _ p hC).trans hi.o)
     clear hown7 hbel7))
 all_goals (
  have ht:=zW ((hr.o.drew.alloc hG (.cells (tkC ⟨2,t,(c1:Int)⟩).toArray 31)).trans (HP.o.2.below (fun k hk=>by
   rcases hk with rfl | hk
   ·exact H2.o.bd.lt
   ·exact (H2.o.own.lt k hk).1) yV))
  have hx:yK ((w7.setCell ⟨g,3,none⟩ (.slice A7 (ops.length+1) c7)).heap[p]? =some (.cells #[.int .i64 2,.string t,.int .i64 (c1:Int)] 31)):=by
   show _=_;rw [Below.heap_setCell _ _ _ _ (by show p≠g;omega)];exact hw.o
  have H8:yK (MSt B g u cs (ops++[⟨2,t,(c1:Int)⟩]) c1 (w7.setCell ⟨g,3,none⟩ (.slice A7 (ops.length+1) c7))):=⟨⟨_,_,_,_,_,_,HP.o.1,HS.o⟩⟩;clear z0 y0 hF hw HP hgr7 hat7 ha p0;generalize w7.setCell ⟨g,3,none⟩ (.slice A7 (ops.length+1) c7)=w8 at ht hx H8 ⊢;have CB:=zW (fun w (h:MSt B g u cs (ops++[⟨2,t,(c1:Int)⟩]) c1 w)=>Y1z ⟨2,t,(c1:Int)⟩ (by show (2:Int)≠1;decide) off h hl hlu hc);obtain ⟨x0,x1,x2,_⟩:=bx3 hx.o;go_wp2_with fail
  go_region_with (first
   | (go_at_call 127;refine (CB.o _ (by exact H8.o.below (Q1 (Below.refl _ _) 1))).mono ?_;rintro e w9 ⟨rfl,hy,hA⟩;have hD:=zW hy;have hE:=zW ((Q1 ht.o 1).trans hA);clear hy hA)
   | (go_at_call 124;refine (Q2d _).mono ?_;rintro e w' ⟨rfl,rfl⟩)))
 all_goals (
  go_wp2_with fail
  go_ret
  rw [←hu.o];exact ⟨rfl,hD.o,hE.o⟩)
section
variable {P:Program} {w:World} {a:Act} {o:Oper}
theorem Q5r (x:Operand) (q:Addr) (ho:o.op=.nilCheck x) (hx:a.eval x=.pointer (some q)):(execOp a.eval o).run P w=.ok (.value (.pointer (some q))) w:=by
 unfold execOp;simp only [ho,hx];rfl
theorem Z8p {f:FuncId} (x:Operand) (ts:Array TypeId) (vx:Value) (ho:o.op=.call { callee:=.value (.func f),args:=#[x],argTypes:=ts }) (hx:a.eval x=vx) (he:(callFunc f #[vx]).run P w=.ok (.enter f #[vx]) w):(execOp a.eval o).run P w=.ok (.enter f #[vx]) w:=by
 have hf:a.eval (.func f)=.func (.func f) #[] #[]:=rfl;generalize a.eval=ρ at hx hf ⊢;unfold execOp;simp only [ho];go_simp
theorem Z8q {f:FuncId} (x y:Operand) (ts:Array TypeId) (vx vy:Value) (ho:o.op=.call { callee:=.value (.func f),args:=#[x,y],argTypes:=ts }) (hx:a.eval x=vx) (hy:a.eval y=vy) (he:(callFunc f #[vx,vy]).run P w=.ok (.enter f #[vx,vy]) w):(execOp a.eval o).run P w=.ok (.enter f #[vx,vy]) w:=by
 have hf:a.eval (.func f)=.func (.func f) #[] #[]:=rfl;generalize a.eval=ρ at hx hy hf ⊢;unfold execOp;simp only [ho];go_simp
theorem V9h {f:FuncId} (x y z:Operand) (ts:Array TypeId) (vx vy vz:Value) (ho:o.op=.call { callee:=.value (.func f),args:=#[x,y,z],argTypes:=ts }) (hx:a.eval x=vx) (hy:a.eval y=vy) (hz:a.eval z=vz) (he:(callFunc f #[vx,vy,vz]).run P w=.ok (.enter f #[vx,vy,vz]) w):(execOp a.eval o).run P w=.ok (.enter f #[vx,vy,vz]) w:=by
 have hf:a.eval (.func f)=.func (.func f) #[] #[]:=rfl;generalize a.eval=ρ at hx hy hz hf ⊢;unfold execOp;simp only [ho];go_simp
end
section
variable {w:World} {b o:Nat}
theorem L0 {x:ByteArray} (h:w.cell? ⟨b,o,none⟩=some (.string x)):(Instr.loadAt 9 (.pointer (some ⟨b,o,none⟩))).run Tryz.prog w=.ok (.string x) w:=by
 go_simp
theorem O0 {x:Int} (h:w.cell? ⟨b,o,none⟩=some (.int .i64 x)):(Instr.loadAt 3 (.pointer (some ⟨b,o,none⟩))).run Tryz.prog w=.ok (.int .i64 x) w:=by
 go_simp
theorem Q7k {A:Option Addr} {n c:Nat} (h:w.cell? ⟨b,o,none⟩=some (.slice A n c)):(Instr.loadAt 24 (.pointer (some ⟨b,o,none⟩))).run Tryz.prog w=.ok (.slice A n c) w:=by
 go_simp
theorem X6g {k d:Int} {t:ByteArray} (h0:w.cell? ⟨b,o,none⟩=some (.int .i64 k)) (h1:w.cell? ⟨b,o+1,none⟩=some (.string t)) (h2:w.cell? ⟨b,o+2,none⟩=some (.int .i64 d)):(Instr.loadAt 31 (.pointer (some ⟨b,o,none⟩))).run Tryz.prog w=.ok (.agg #[.int .i64 k,.string t,.int .i64 d]) w:=by
 go_simp
end
section
variable {P:Program} {a:Act} {w:World} {o:Oper} {QE:Exit→Act→World→Prop}
theorem Q0y {f:FuncId} {x:Operand} {ts:Array TypeId} (vx:Value) (ho:o.op=.call { callee:=.value (.func f),args:=#[x],argTypes:=ts }) {fn:Func} {c:Code} (hf:P.funcs[f]? =some fn) {Post:Ending→World→Prop} (hc:Calls P f #[vx] w Post)
 {K : Act → World → Prop} (h : ∀ e w', Post e w' → ∃ v, e = .returned v ∧ K (a.put o.dst v) w') (hx : a.eval x = vx := by kernel_rfl) (hn : (fn.name == "runtime.NumGoroutine") = false := by kernel_rfl) (hb : fn.body = some c := by rfl) : Oper.wp P o a w K QE :=
 J0 (Z8p x ts vx ho hx (enters_of hf hn hb _ _)) hc h
theorem Q2n {f:FuncId} {x y:Operand} {ts:Array TypeId} (vx vy:Value) (ho:o.op=.call { callee:=.value (.func f),args:=#[x,y],argTypes:=ts }) {fn:Func} {c:Code} (hf:P.funcs[f]? =some fn) {Post:Ending→World→Prop} (hc:Calls P f #[vx,vy] w Post)
 {K : Act → World → Prop} (h : ∀ e w', Post e w' → ∃ v, e = .returned v ∧ K (a.put o.dst v) w') (hx : a.eval x = vx := by kernel_rfl) (hy : a.eval y = vy := by kernel_rfl) (hn : (fn.name == "runtime.NumGoroutine") = false := by kernel_rfl) (hb : fn.body = some c := by rfl) : Oper.wp P o a w K QE :=
 J0 (Z8q x y ts vx vy ho hx hy (enters_of hf hn hb _ _)) hc h
end
theorem Z0w (t:ByteArray) (off:Int) {B g:Nat} {u:List Tk} {cs:List Int} {ops:List Tk} {cnt:Nat} {w:World} (h:MSt B g u cs ops cnt w) (hl:u.length+1≤512) (hlu:X2 u≤1000000) (hc:cs.length+1≤1024) (hn:cnt≤500):
 Calls Tryz.prog 122 #[.pointer (some ⟨g,0,none⟩),.agg #[.int .i64 4,.string t,.int .i64 0],.int .i64 off] w (Z1i B g (u++[⟨4,t,((cnt+1:Nat):Int)⟩]) (cs++[off]) ops (cnt+1) w):=by
 have hB:=h.bsz;have hg:=h.gsz;obtain ⟨iv,tv,cv,ov,its,tx,hm,hs⟩:=h.ex;clear h;obtain ⟨A,c,rfl⟩:=Q0 hm.own;have hk:∀ v∈[iv,tv,cv,.slice A ops.length c],v.ownBlock≠some w.heap.size:=by
  intro v hv e;simp only [List.mem_cons,List.not_mem_nil,or_false] at hv;rcases hv with rfl | rfl | rfl | rfl
  ·have:=(hm.bd.its.lt _ e).2;omega
  ·have:=(hm.bd.txt.lt _ e).2;omega
  ·have:=(hm.bd.cuts.lt _ e).2;omega
  ·have:=(hm.own.lt _ e).2;omega
 have H0:=zW (hm.alloc (.cells #[.int .i64 4,.string t,.int .i64 0] 31));have ha:yK ((w.alloc (.cells #[.int .i64 4,.string t,.int .i64 0] 31)).heap[w.heap.size]? =some (.cells #[.int .i64 4,.string t,.int .i64 0] 31)):=Array.getElem?_push_size;have hd:=zW ((Below.refl B w).alloc hB (.cells #[.int .i64 4,.string t,.int .i64 0] 31));have HS:=zW hs;clear hm hs;obtain ⟨p,hp⟩:∃ p,yK (p=w.heap.size):=⟨_,rfl⟩;go_enter Tryz.func122,Tryz.ntmps122
 go_upto_region 1 with fail
 rw [←hp.o] at ha hk hg ⊢;generalize w.alloc (.cells #[.int .i64 4,.string t,.int .i64 0] 31)=w0 at H0 ha hd ⊢;obtain ⟨x0,x1,x2,x3⟩:=bx3 ha.o;have q4:w0.cell? ⟨g,4,none⟩=some (.int .i64 (cnt:Int)):=H0.o.bd.cellR (i:=1) rfl;have f4:=H0.o.bd.frozen 4;go_upto_region 8 with fail
 rw [show (cnt:Int)+1=((cnt+1:Nat):Int) by omega];obtain ⟨c1,hh⟩:∃ c1,yK (c1=cnt+1):=⟨_,rfl⟩;rw [←hh.o];have H1:=zW (H0.o.count c1);have hb:yK ((w0.setCell ⟨g,4,none⟩ (.int .i64 (c1:Int))).heap[p]? =some (.cells #[.int .i64 4,.string t,.int .i64 0] 31)):=by
  show _=_;rw [Below.heap_setCell _ _ _ _ (by show p≠g;omega)];exact ha.o
 have he:=zW (hd.o.setCell (p:=⟨g,4,none⟩) H0.o.bd.lt (.int .i64 (c1:Int)));clear q4 f4 x0 x1 x2 x3 H0 ha hd;generalize w0.setCell ⟨g,4,none⟩ (.int .i64 (c1:Int))=w1 at H1 hb he ⊢;obtain ⟨x0,x1,x2,x3,x4,x5⟩:=bx3 hb.o;have q4:w1.cell? ⟨g,4,none⟩=some (.int .i64 (c1:Int)):=H1.o.bd.cellR (i:=1) rfl;go_upto_region 9 with fail
 have H2:=zW (H1.o.other p 2 (.int .i64 (c1:Int)) yY hk);have hi:yK ((w1.setCell ⟨p,2,none⟩ (.int .i64 (c1:Int))).heap[p]? =some (.cells #[.int .i64 4,.string t,.int .i64 (c1:Int)] 31)):=by
  show _=_;rw [R3 hb.o];rfl
 have hf:=zW (he.o.setCell (p:=⟨p,2,none⟩) (by show B≤p;have:=hp.o;omega) (.int .i64 (c1:Int)));clear q4 x0 x1 x2 x3 x4 x5 H1 hb he;generalize w1.setCell ⟨p,2,none⟩ (.int .i64 (c1:Int))=w8 at H2 hi hf ⊢;obtain ⟨x0,x1,x2,_⟩:=bx3 hi.o;have H8:yK (MSt B g u cs ops c1 w8):=⟨⟨_,_,_,_,_,_,H2.o,HS.o⟩⟩;have CB:=zW (fun w (h:MSt B g u cs ops c1 w)=>Y1z ⟨4,t,(c1:Int)⟩ (by show (4:Int)≠1;decide) off h hl hlu hc);go_wp2_with fail
 go_region_with (first
  | (go_at_call 127;refine (CB.o _ (by exact H8.o.below (Q1 (Below.refl _ _) 1))).mono ?_;rintro e w9 ⟨rfl,hj,ho⟩;have hq:=zW hj;have hr:=zW ((Q1 hf.o 1).trans ho);clear hj ho)
  | (go_at_call 124;refine (Q2d _).mono ?_;rintro e w' ⟨rfl,rfl⟩))
 all_goals (
  go_wp2_with fail
  go_ret
  rw [←hh.o];exact ⟨rfl,hq.o,hr.o⟩)
theorem Z0v (t:ByteArray) (y:Tk) (off m:Int) {B g:Nat} {u:List Tk} {cs:List Int} {ops:List Tk} {cnt:Nat} {w:World} (h:MSt B g u cs (ops++[y]) cnt w) (hl:u.length+1≤512) (hlu:X2 u≤1000000) (hc:cs.length+1≤1024) (ho:ops.length≤500) (hy:J8 y.t=t) (hys:y.t.size≤1000000) (hm0:w.cell? ⟨0,0,none⟩=some (.int .i64 m)):
 Calls Tryz.prog 122 #[.pointer (some ⟨g,0,none⟩),.agg #[.int .i64 3,.string t,.int .i64 0],.int .i64 off] w (Z1i B g (u++[⟨3,t,y.d⟩]) (cs++[off]) ops cnt w):=by
 have hB:=h.bsz;have hg:=h.gsz;have hF:=Q2i hm0;obtain ⟨iv,tv,cv,ov,its,tx,hm,hs⟩:=h.ex;clear h;obtain ⟨A,c,hv⟩:=Q0 hm.own;rw [show (ops++[y]).length=ops.length+1 by simp] at hv;subst hv;have hw:∀ v∈[iv,tv,cv,.slice A (ops.length+1) c],v.ownBlock≠some w.heap.size:=by
  intro v hv e;simp only [List.mem_cons,List.not_mem_nil,or_false] at hv;rcases hv with rfl | rfl | rfl | rfl
  ·have:=(hm.bd.its.lt _ e).2;omega
  ·have:=(hm.bd.txt.lt _ e).2;omega
  ·have:=(hm.bd.cuts.lt _ e).2;omega
  ·have:=(hm.own.lt _ e).2;omega
 obtain ⟨b,o,hA,hn,_,p1,p2⟩:=RdT.at_ (OwnE.rd Q5 hm.own) ops.length yW;subst hA;rw [show (ops++[y])[ops.length]'yW=y by simp] at p1 p2;have HN:yK (∀ w,w.cell? ⟨0,0,none⟩=some (.int .i64 m)→Calls Tryz.prog 41 #[.string y.t] w fun e w'=>e=.returned (.string t)∧∃ n,w'=w.drewN n):=fun w hm=>by
  have h:=Q4r y.t m w hys hm;have e:ofL (Z1 y.t.data.toList)=t:=by
   rw [←hy,←Q8w];exact Q8y _
  rw [e] at h;exact h
 have hq:ops.length≤c:=by
  obtain ⟨A',c',hG,hE,_⟩:=(OwnE.rd Q5 hm.own).shape;injection hG with e1 e2 e3;rw [List.length_append,List.length_singleton] at hE;omega
 obtain ⟨yk,yt,yd⟩:=y;simp only at p1 p2 HN hys;have hx:w.heap.size≠b:=yY;have a1:(w.alloc (.cells #[.int .i64 3,.string t,.int .i64 0] 31)).cell? ⟨b,o+ops.length * 3+1,none⟩=some (.string yt):=(by rw [World.cell?_alloc_past _ _ _ hn];exact p1);have a2:(w.alloc (.cells #[.int .i64 3,.string t,.int .i64 0] 31)).cell? ⟨b,o+ops.length * 3+2,none⟩=some (.int .i64 yd):=(by rw [World.cell?_alloc_past _ _ _ hn];exact p2);have HM:yK ((w.alloc (.cells #[.int .i64 3,.string t,.int .i64 0] 31)).cell? ⟨0,0,none⟩=some (.int .i64 m)):=(by show _=_;rw [World.cell?_alloc_past _ _ _ hF];exact hm0);have H0:=zW (hm.alloc (.cells #[.int .i64 3,.string t,.int .i64 0] 31));have hd:yK ((w.alloc (.cells #[.int .i64 3,.string t,.int .i64 0] 31)).heap[w.heap.size]? =some (.cells #[.int .i64 3,.string t,.int .i64 0] 31)):=Array.getElem?_push_size;have hh:=zW ((Below.refl B w).alloc hB (.cells #[.int .i64 3,.string t,.int .i64 0] 31));have HS:=zW hs;clear hm hs p1 p2 hm0;obtain ⟨p,hp⟩:∃ p,yK (p=w.heap.size):=⟨_,rfl⟩;go_enter Tryz.func122,Tryz.ntmps122
 go_upto_region 1 with fail
 rw [←hp.o] at hd hw hg hx ⊢;generalize w.alloc (.cells #[.int .i64 3,.string t,.int .i64 0] 31)=w0 at H0 hd hh HM a1 a2 ⊢;obtain ⟨x0,x1,x2,x3⟩:=bx3 hd.o;have q3:w0.cell? ⟨g,3,none⟩=some (.slice (some ⟨b,o,none⟩) (ops.length+1) c):=H0.o.bd.cellR (i:=0) rfl;go_upto_region 3 with fail
 have t1:(((ops.length:Int)+1)==0)=false:=(by rw [beq_eq_false_iff_ne];omega);have t2:(ops.length:Int) < (ops.length:Int)+1:=yY;have t3:(0:Int)≤(ops.length:Int):=yY;have hH:IntKind.i64.wrap (ops.length:Int)=(ops.length:Int):=(by rw [IntKind.wrap_i64];omega);refine zqR (l0:=#[false,false,false,false,false,false,false,false,false,false,false,false,false,false,false,false,false]) 17 rfl ?_;refine zqM 0 16 (.int .i64 ((ops.length:Int)+1)) rfl ?_;refine zqB 1 17 (.bool false) rfl rfl (.int .i64 ((ops.length:Int)+1)) (.int .i64 0) ?_;refine zqM 2 18 (.bool false) rfl ?_;refine zqM 3 19 (.pointer (some ⟨g,0,none⟩)) rfl ?_;refine zzA 4 (.pointer (some ⟨g,0,none⟩)) (some 20) rfl (fun _=>Q5r _ _ rfl yZ) ?_;refine zqF 5 21 (.pointer (some ⟨g,3,none⟩)) rfl rfl (.pointer (some ⟨g,0,none⟩)) ?_;refine zqM 7 23 (.int .i64 ((ops.length:Int)+1)) rfl ?_;refine zqB 8 24 (.int .i64 (ops.length:Int)) rfl rfl (.int .i64 ((ops.length:Int)+1)) (.int .i64 1) ?_;refine zqF 13 29 (.pointer (some ⟨p,1,none⟩)) rfl rfl (.pointer (some ⟨p,0,none⟩)) ?_;simp only [Act.put,zZ,zY,zX];refine zqt 6 14 rfl rfl ?_ ?_;refine zqL (.slice (some ⟨b,o,none⟩) (ops.length+1) c) rfl (.pointer (some ⟨g,3,none⟩)) (Q7k (w:=w0.drew) q3) ?_;refine zqI 9 25 (.pointer (some ⟨b,o+ops.length * 3,none⟩)) rfl rfl (.slice (some ⟨b,o,none⟩) (ops.length+1) c) (.int .i64 (ops.length:Int)) ?_;refine zqF 10 26 (.pointer (some ⟨b,o+ops.length * 3+1,none⟩)) rfl rfl (.pointer (some ⟨b,o+ops.length * 3,none⟩)) ?_;simp only [Act.put,zZ,zY,zX];refine zqt 11 14 rfl rfl ?_ ?_;refine zqL (.string yt) rfl (.pointer (some ⟨b,o+ops.length * 3+1,none⟩)) (L0 (w:=w0.drew) a1) ?_;simp only [Act.put,zZ,zY,zX];refine zqt 12 14 rfl rfl ?_ ?_;refine Q0y (.string yt) rfl Tryz.func41 (HN.o _ (by exact HM.o)) ?_;rintro e w1 ⟨rfl,n1,rfl⟩;refine ⟨.string t,rfl,?_⟩;simp only [Act.put,zZ,zY,zX];refine zqo 14 rfl ?_;refine zqL (.string t) rfl (.pointer (some ⟨p,1,none⟩)) (L0 (w:=w0.drew.drewN n1) x1) ?_;refine zqB 15 31 (.bool false) rfl rfl (.string t) (.string t) ?_;refine zqP 16 32 (.bool false) rfl rfl false ?_;refine wpAny_done yZ ?_ _;simp only [Act.put,zZ,zY,zX];have ha:yK (∃ n,w0.drew.drewN n1=w0.drewN n):=⟨1+n1,by simp⟩;obtain ⟨n2,hb⟩:=ha.o;rw [hb];clear hb ha;rotate_left 1
 refine zqL (.string t) rfl (.pointer (some ⟨p,1,none⟩)) (L0 (w:=w0.drew) x1) ?_;simp only [Act.put,zZ,zY,zX];refine zqo 12 rfl ?_;refine Q0y (.string yt) rfl Tryz.func41 (HN.o _ (by exact HM.o)) ?_;rintro e w1 ⟨rfl,n1,rfl⟩;refine ⟨.string t,rfl,?_⟩;refine zqB 15 31 (.bool false) rfl rfl (.string t) (.string t) ?_;refine zqP 16 32 (.bool false) rfl rfl false ?_;refine wpAny_done yZ ?_ _;simp only [Act.put,zZ,zY,zX];have ha:yK (∃ n,w0.drew.drewN n1=w0.drewN n):=⟨1+n1,by simp⟩;obtain ⟨n2,hb⟩:=ha.o;rw [hb];clear hb ha;rotate_left 1
 refine zqL (.string t) rfl (.pointer (some ⟨p,1,none⟩)) (L0 (w:=w0.drew) x1) ?_;simp only [Act.put,zZ,zY,zX];refine zqo 11 rfl ?_;refine zqL (.string yt) rfl (.pointer (some ⟨b,o+ops.length * 3+1,none⟩)) (L0 (w:=w0.drew) a1) ?_;simp only [Act.put,zZ,zY,zX];refine zqo 12 rfl ?_;refine Q0y (.string yt) rfl Tryz.func41 (HN.o _ (by exact HM.o)) ?_;rintro e w1 ⟨rfl,n1,rfl⟩;refine ⟨.string t,rfl,?_⟩;refine zqB 15 31 (.bool false) rfl rfl (.string t) (.string t) ?_;refine zqP 16 32 (.bool false) rfl rfl false ?_;refine wpAny_done yZ ?_ _;simp only [Act.put,zZ,zY,zX];have ha:yK (∃ n,w0.drew.drewN n1=w0.drewN n):=⟨1+n1,by simp⟩;obtain ⟨n2,hb⟩:=ha.o;rw [hb];clear hb ha;rotate_left 1
 refine zqL (.string t) rfl (.pointer (some ⟨p,1,none⟩)) (L0 (w:=w0.drew) x1) ?_;simp only [Act.put,zZ,zY,zX];refine zqo 6 rfl ?_;refine zqL (.slice (some ⟨b,o,none⟩) (ops.length+1) c) rfl (.pointer (some ⟨g,3,none⟩)) (Q7k (w:=w0.drew) q3) ?_;refine zqI 9 25 (.pointer (some ⟨b,o+ops.length * 3,none⟩)) rfl rfl (.slice (some ⟨b,o,none⟩) (ops.length+1) c) (.int .i64 (ops.length:Int)) ?_;refine zqF 10 26 (.pointer (some ⟨b,o+ops.length * 3+1,none⟩)) rfl rfl (.pointer (some ⟨b,o+ops.length * 3,none⟩)) ?_;simp only [Act.put,zZ,zY,zX];refine zqo 11 rfl ?_;refine zqL (.string yt) rfl (.pointer (some ⟨b,o+ops.length * 3+1,none⟩)) (L0 (w:=w0.drew) a1) ?_;simp only [Act.put,zZ,zY,zX];refine zqo 12 rfl ?_;refine Q0y (.string yt) rfl Tryz.func41 (HN.o _ (by exact HM.o)) ?_;rintro e w1 ⟨rfl,n1,rfl⟩;refine ⟨.string t,rfl,?_⟩;refine zqB 15 31 (.bool false) rfl rfl (.string t) (.string t) ?_;refine zqP 16 32 (.bool false) rfl rfl false ?_;refine wpAny_done yZ ?_ _;simp only [Act.put,zZ,zY,zX];have ha:yK (∃ n,w0.drew.drewN n1=w0.drewN n):=⟨1+n1,by simp⟩;obtain ⟨n2,hb⟩:=ha.o;rw [hb];clear hb ha;all_goals (
  have H1:=zW (H0.o.drewN n2);have hf:yK ((w0.drewN n2).heap[p]? =some (.cells #[.int .i64 3,.string t,.int .i64 0] 31)):=hd.o;have hi:=zW (Q1 hh.o n2);have b2:(w0.drewN n2).cell? ⟨b,o+ops.length * 3+2,none⟩=some (.int .i64 yd):=a2;clear H0 hd hh HM a1 a2 x0 x1 x2 x3 q3 t1;generalize w0.drewN n2=w1 at H1 hf hi b2 ⊢;obtain ⟨x0,x1,x2,x3,x4,x5⟩:=bx3 hf.o;have q3:w1.cell? ⟨g,3,none⟩=some (.slice (some ⟨b,o,none⟩) (ops.length+1) c):=H1.o.bd.cellR (i:=0) rfl;go_upto_region 6 with fail
  have H2:=zW (H1.o.other p 2 (.int .i64 yd) yY hw);have hk:yK ((w1.setCell ⟨p,2,none⟩ (.int .i64 yd)).heap[p]? =some (.cells #[.int .i64 3,.string t,.int .i64 yd] 31)):=by
   show _=_;rw [R3 hf.o];rfl
  have hj:=zW (hi.o.setCell (p:=⟨p,2,none⟩) (by show B≤p;have:=hp.o;omega) (.int .i64 yd));clear q3 x0 x1 x2 x3 x4 x5 H1 hf hi b2;generalize w1.setCell ⟨p,2,none⟩ (.int .i64 yd)=w2 at H2 hk hj ⊢;have q3:w2.cell? ⟨g,3,none⟩=some (.slice (some ⟨b,o,none⟩) (ops.length+1) c):=H2.o.bd.cellR (i:=0) rfl;have f3:=H2.o.bd.frozen 3;have he:(ops.length:Int)≤(c:Int):=yY;go_upto_region 9 with fail
  have H3:yK (Ms B g iv tv cv (.slice (some ⟨b,o,none⟩) ops.length c) its tx cs ops cnt (w2.setCell ⟨g,3,none⟩ (.slice (some ⟨b,o,none⟩) ops.length c))):=by
   have h:=H2.o.pop ops.length yW;rw [List.take_left] at h;exact h
  have ht:yK ((w2.setCell ⟨g,3,none⟩ (.slice (some ⟨b,o,none⟩) ops.length c)).heap[p]? =some (.cells #[.int .i64 3,.string t,.int .i64 yd] 31)):=by
   show _=_;rw [Below.heap_setCell _ _ _ _ (by show p≠g;omega)];exact hk.o
  have hr:=zW (hj.o.setCell (p:=⟨g,3,none⟩) H2.o.bd.lt (.slice (some ⟨b,o,none⟩) ops.length c));clear q3 f3 H2 hk hj;generalize w2.setCell ⟨g,3,none⟩ (.slice (some ⟨b,o,none⟩) ops.length c)=w8 at H3 ht hr ⊢;obtain ⟨x0,x1,x2,_⟩:=bx3 ht.o;have H8:yK (MSt B g u cs ops cnt w8):=⟨⟨_,_,_,_,_,_,H3.o,HS.o⟩⟩;clear t2 t3 hH he hq hx hn hy hys HN;have CB:=zW (fun w (h:MSt B g u cs ops cnt w)=>Y1z ⟨3,t,yd⟩ (by show (3:Int)≠1;decide) off h hl hlu hc);go_wp2_with fail
  go_region_with (first
   | (go_at_call 127;refine (CB.o _ (by exact H8.o.below (Q1 (Below.refl _ _) 1))).mono ?_;rintro e w9 ⟨rfl,hu,hz⟩;have hC:=zW hu;have hD:=zW ((Q1 hr.o 1).trans hz);clear hu hz)
   | (go_at_call 124;refine (Q2d _).mono ?_;rintro e w' ⟨rfl,rfl⟩)))
 all_goals (
  go_wp2_with fail
  go_ret
  exact ⟨rfl,hC.o,hD.o⟩)
def X4x (B g:Nat) (u:List Tk) (cs:List Int) (ops:List Tk) (cnt n:Nat) (w:World) (e:Ending) (w':World):Prop:=
 e=.returned (.tuple #[.int .i64 n,.int .i64 0])∧MSt B g u cs ops cnt w'∧Below B w w'
theorem Z5n (raw s:ByteArray) (k:Nat) (c:UInt8) (r:List UInt8) {B g:Nat} {u:List Tk} {cs:List Int} {ops:List Tk} {cnt:Nat} {w:World} (h:MSt B g u cs ops cnt w) (hl:u.length+1≤512) (hlu:X2 u≤1000000) (hc:cs.length+1≤1024)
 (hk:k < raw.size) (hr:raw.size≤1000000) (hs:raw.extract k raw.size=s) (hcr:s.data.toList=c::r) (h0:c≠60) (h1:c≠38) (h2:c≠123):
 Calls Tryz.prog 81 #[.pointer (some ⟨g,0,none⟩),.string raw,.int .i64 k] w (X4x B g (u++[chI c]) (cs++[(k:Int)]) ops cnt 1 w):=by
 have hh:0 < s.size:=(by rw [Lib.size_eq,hcr];simp);have ha:s[0]=c:=by
  have:s.data.toList[0]'(by rw [hcr];simp)=c:=(by simp only [hcr];rfl);exact this
 have CB:=zW (fun w (h:MSt B g u cs ops cnt w)=>V0b s[0] (k:Int) h hl hlu hc);have n0:((s[0].toNat:Int)==60)=false:=D2 s[0] 60 (by rw [ha];exact h0);have n1:((s[0].toNat:Int)==38)=false:=D2 s[0] 38 (by rw [ha];exact h1);have n2:((s[0].toNat:Int)==123)=false:=D2 s[0] 123 (by rw [ha];exact h2);have HS:=zW hs;have hf:=zW ha;have H:=zW h;clear h hl hlu hc hcr h0 h1 h2 ha hs;go_enter Tryz.func81,Tryz.ntmps81
 go_upto_region 2 with fail
 rw [HS.o];go_wp2_with fail
 go_region_with (first
  | (go_at_call 125;refine (CB.o _ (by exact H.o.below (Q1 (Below.refl _ _) 1))).mono ?_;rintro e w1 ⟨rfl,hb,hd⟩;have he:=zW hb;have hg:=zW ((Q1 (Below.refl B w) 1).trans hd);clear hb hd)
  | (go_at_call 124;refine (Q2d _).mono ?_;rintro e w' ⟨rfl,rfl⟩))
 all_goals (
  go_wp2_with fail
  go_ret2
  refine ⟨rfl,?_,hg.o⟩;rw [←hf.o];exact he.o)
theorem Y9e (raw s:ByteArray) (k:Nat) (q:List UInt8) (c:UInt8) (r:List UInt8) {B g:Nat} {u:List Tk} {cs:List Int} {ops:List Tk} {cnt:Nat} {w:World} (h:MSt B g u cs ops cnt w) (hl:u.length+1≤512) (hlu:X2 u≤1000000) (hc:cs.length+1≤1024)
 (hk:k < raw.size) (hr:raw.size≤1000000) (hs:raw.extract k raw.size=s) (hcr:s.data.toList=q++r) (hq:(q,c)∈X3w):
 Calls Tryz.prog 81 #[.pointer (some ⟨g,0,none⟩),.string raw,.int .i64 k] w (X4x B g (u++[chI c]) (cs++[(k:Int)]) ops cnt q.length w):=by
 obtain ⟨q',hd⟩:∃ q',q=38::q':=by
  simp only [X3w,List.mem_cons,Prod.mk.injEq,List.not_mem_nil,or_false] at hq;rcases hq with ⟨rfl,_⟩ | ⟨rfl,_⟩ | ⟨rfl,_⟩ | ⟨rfl,_⟩ | ⟨rfl,_⟩<;>exact ⟨_,rfl⟩
 have hh:0 < s.size:=(by rw [Lib.size_eq,hcr,hd];simp);have he:s[0]=38:=by
  have:s.data.toList[0]'(by rw [hcr,hd];simp)=38:=(by simp only [hcr,hd];rfl);exact this
 have CR:=zW (fun w=>V8d s r q c hq hcr w);have CB:=zW (fun w (h:MSt B g u cs ops cnt w)=>V0b c (k:Int) h hl hlu hc);have n0:((s[0].toNat:Int)==60)=false:=D2 s[0] 60 (by rw [he];decide);have n1:((s[0].toNat:Int)==38)=true:=M5 s[0] 38 he;have HS:=zW hs;have H:=zW h;generalize q.length=ql at CR ⊢;clear h hl hlu hc hcr he hs hq hd;go_enter Tryz.func81,Tryz.ntmps81
 go_upto_region 2 with fail
 rw [HS.o];go_wp2_with (first
  | (go_at_call 123;refine (CR.o _).mono ?_;rintro e w' ⟨rfl,rfl⟩)
  | (go_at_call 125;refine (CB.o _ (by exact H.o)).mono ?_;rintro e w1 ⟨rfl,ha,hb⟩;have hf:=zW ha;have hg:=zW hb;clear ha hb)
  | (go_at_call 124;refine (Q2d _).mono ?_;rintro e w' ⟨rfl,rfl⟩))
 first | (go_region_with (first
  | (go_at_call 125;refine (CB.o _ (by exact H.o.below (Q1 (Below.refl _ _) 1))).mono ?_;rintro e w1 ⟨rfl,ha,hb⟩;have hf:=zW ha;have hg:=zW ((Q1 (Below.refl B w) 1).trans hb);clear ha hb)
  | (go_at_call 124;refine (Q2d _).mono ?_;rintro e w' ⟨rfl,rfl⟩))) | skip
 all_goals (
  first | (go_wp2_with fail) | skip
  go_ret2
  exact ⟨rfl,hf.o,hg.o⟩)
theorem Y5m (raw s nm:ByteArray) (k:Nat) (r:List UInt8) {B g:Nat} {u:List Tk} {cs:List Int} {ops:List Tk} {cnt:Nat} {w:World} (h:MSt B g u cs ops cnt w) (hl:u.length+1≤512) (hlu:X2 u≤1000000) (hc:cs.length+1≤1024)
 (hk:k < raw.size) (hr:raw.size≤1000000) (hs:raw.extract k raw.size=s) (hcr:s.data.toList=123::nm.data.toList++125::r) (hn:V8 nm.data.toList=true):
 Calls Tryz.prog 81 #[.pointer (some ⟨g,0,none⟩),.string raw,.int .i64 k] w (X4x B g (u++[⟨5,nm,0⟩]) (cs++[(k:Int)]) ops cnt (nm.size+2) w):=by
 have hi:s.size=nm.size+2+r.length:=(by rw [Lib.size_eq,hcr,Lib.size_eq nm];simp;omega);have hm:0 < s.size:=yY;have hj:s.size≤raw.size:=(by rw [←hs,ByteArray.size_extract];omega);have ha:s[0]=123:=by
  have:s.data.toList[0]'(by rw [hcr];simp)=123:=(by simp only [hcr];rfl);exact this
 have hh:nm.size≤1000000:=yY;have hg:s.extract 1 (nm.size+1)=nm:=D7 _ _ _ _ (Q2e (p:=[123]) (q:=125::r) (by rw [hcr];simp) rfl (by rw [←Lib.size_eq];omega));have CI:=zW (T8 s 125 ((nm.size+1:Nat):Int) (by rw [hcr,Lib.size_eq nm];exact X7o nm.data.toList r hn));have CN:=zW (fun w=>L5 nm w (by unfold maxLen;omega));rw [hn] at CN;have CB:=zW (fun w (h:MSt B g u cs ops cnt w)=>Y1z ⟨5,nm,0⟩ (by show (5:Int)≠1;decide) (k:Int) h hl hlu hc);have n0:((s[0].toNat:Int)==60)=false:=D2 s[0] 60 (by rw [ha];decide);have n1:((s[0].toNat:Int)==38)=false:=D2 s[0] 38 (by rw [ha];decide);have n2:((s[0].toNat:Int)==123)=true:=M5 s[0] 123 ha;have HR:yK (IntKind.i64.wrap ((nm.size:Int)+1+1)=((nm.size+2:Nat):Int)):=(by show _=_;rw [IntKind.wrap_i64];omega);have HS:=zW hs;have H:=zW h;clear h hl hlu hc hcr hs ha;go_enter Tryz.func81,Tryz.ntmps81
 go_upto_region 2 with fail
 rw [HS.o];go_wp2_with (first
  | (go_at_call 126;refine (CI.o _).mono ?_;rintro e w' ⟨rfl,rfl⟩)
  | (go_at_call 114;refine (CN.o _).mono ?_;rintro e w' ⟨rfl,rfl⟩))
 go_region_with (first
  | (go_at_call 127;refine (CB.o _ (by exact H.o.below (Q1 (Below.refl _ _) 1))).mono ?_;rintro e w1 ⟨rfl,hb,hd⟩;have he:=zW hb;have hf:=zW ((Q1 (Below.refl B w) 1).trans hd);clear hb hd)
  | (go_at_call 124;refine (Q2d _).mono ?_;rintro e w' ⟨rfl,rfl⟩))
 all_goals (
  go_wp2_with fail
  go_ret2
  refine ⟨Q4w ?_,he.o,hf.o⟩;rw [HR.o];rfl)
theorem Q8v (raw s t:ByteArray) (k:Nat) (kk m:Int) (n:Nat) (r:List UInt8) {B g:Nat} {u u':List Tk} {cs cs':List Int} {ops ops':List Tk} {cnt cnt':Nat} {w:World} (h:MSt B g u cs ops cnt w) (hm:w.cell? ⟨0,0,none⟩=some (.int .i64 m))
 (hk:k < raw.size) (hr:raw.size≤1000000) (hs:raw.extract k raw.size=s) (hcr:s.data.toList=60::r) (ht:t.size≤1000000) (hT:Calls Tryz.prog 121 #[.string s] w (X1t kk t n w)) (hb:J4 (Z1 t.data.toList)=false)
 (hG:∀ w',MSt B g u cs ops cnt w'→w'.cell? ⟨0,0,none⟩=some (.int .i64 m)→Calls Tryz.prog 122 #[.pointer (some ⟨g,0,none⟩),.agg #[.int .i64 kk,.string t,.int .i64 0],.int .i64 k] w' (Z1i B g u' cs' ops' cnt' w')):
 Calls Tryz.prog 81 #[.pointer (some ⟨g,0,none⟩),.string raw,.int .i64 k] w (X4x B g u' cs' ops' cnt' n w):=by
 have hB:=h.bsz;have hu:0 < s.size:=(by rw [Lib.size_eq,hcr];simp);have hl:s[0]=60:=by
  have:s.data.toList[0]'(by rw [hcr];simp)=60:=(by simp only [hcr];rfl);exact this
 have n0:((s[0].toNat:Int)==60)=true:=M5 s[0] 60 hl;have HS:=zW hs;have H:=zW h;have HM:=zW hm;have HT:=zW hT;have HG:=zW hG;have HN:=zW (fun w (hm:w.cell? ⟨0,0,none⟩=some (.int .i64 m))=>Q4r t m w ht hm);have hg:=zW (fun w=>Q2a (ofL (Z1 t.data.toList)) w (by simpa [ofL] using hb));generalize ofL (Z1 t.data.toList)=tn at HN hg;clear h hm hcr hs hl hT hG hb ht;go_enter Tryz.func81,Tryz.ntmps81
 go_upto_region 2 with fail
 rw [HS.o];go_wp2_with (go_at_call 121;refine (HT.o).mono ?_;rintro e w1 ⟨rfl,he⟩;have hc:=zW he;have hq:=he.size;clear he)
 have ha:=zW (X6 HM.o hc.o);have HX:yK ((w1.alloc (.cells #[.int .i64 kk,.string t,.int .i64 0] 31)).heap[w1.heap.size]? =some (.cells #[.int .i64 kk,.string t,.int .i64 0] 31)):=Array.getElem?_push_size;refine (HN.o _ (by rw [World.cell?_alloc_past _ _ _ (Q2i ha.o)];exact ha.o)).mono ?_;rintro e w2 ⟨rfl,n2,rfl⟩;have hh:yK (((w1.alloc (.cells #[.int .i64 kk,.string t,.int .i64 0] 31)).drewN n2).cell? ⟨0,0,none⟩=some (.int .i64 m)):=by
  show (w1.alloc (.cells #[.int .i64 kk,.string t,.int .i64 0] 31)).cell? ⟨0,0,none⟩=_;rw [World.cell?_alloc_past _ _ _ (Q2i ha.o)];exact ha.o
 have hi:yK (((w1.alloc (.cells #[.int .i64 kk,.string t,.int .i64 0] 31)).drewN n2).heap[w1.heap.size]? =some (.cells #[.int .i64 kk,.string t,.int .i64 0] 31)):=HX.o;have hd:=Q1 (hc.o.alloc hq (.cells #[.int .i64 kk,.string t,.int .i64 0] 31)) n2;have H2:=zW (H.o.below hd);have hf:=zW (hd.mono hB);clear H HM HX hc ha HN hd;generalize (w1.alloc (.cells #[.int .i64 kk,.string t,.int .i64 0] 31)).drewN n2=w3 at hh hi H2 hf ⊢;obtain ⟨x0,x1,x2,_⟩:=bx3 hi.o;go_wp2_with (first
  | (go_at_call 40;refine (hg.o _).mono ?_;rintro e w' ⟨rfl,rfl⟩)
  | (go_at_call 122;refine (HG.o _ H2.o hh.o).mono ?_;rintro e w4 ⟨rfl,hj,hn⟩;have ho:=zW hj;have hp:=zW (hf.o.trans hn);clear hj hn))
 go_ret2
 exact ⟨rfl,ho.o,hp.o⟩
theorem X4o (x:Tk) (c:Nat) (op:List Tk) (h:x.k=1∨x.k=5):O9 [x] c op=(c,op):=by
 rw [O9,if_neg yY,if_neg yY,if_neg yY];rfl
theorem Q9w (fmt:Int) (r:List UInt8) (x:Tk) (h:ElOk fmt r (some x)):x.t.size≤64:=by
 cases h with
 | slot _ n hn=>obtain ⟨c,l,rfl,_,hl,_⟩:=C8 n hn;rw [Lib.size_eq];simp [ofL];omega
 | opn t d h hb=>have:=(U7 t h).1;rw [Lib.size_eq];simpa [ofL] using this
 | cls t d h hb=>obtain ⟨c,l,rfl,_,hl,_⟩:=C8 t h;rw [Lib.size_eq];simp [ofL];omega
 | emp t d h hb=>have:=(U7 t h).1;rw [Lib.size_eq];simpa [ofL] using this
 | _=>show (1:Nat)≤64;decide
theorem X6b (fmt:Int) (ts:Els) (h:∀ e∈ts,ElOk fmt e.1 e.2):∀ x∈X1 ts,x.t.size≤64:=by
 intro x hx;obtain ⟨e,he,hx⟩:=List.mem_filterMap.1 hx;have:=h e he;rw [hx] at this;exact Q9w _ _ _ this
theorem Q3r:∀ (u:List Tk) (c:Nat) (op:List Tk),∀ y∈(O9 u c op).2,y∈op∨y∈u
 | [],_,_,y,h=>.inl h
 | x::u,c,op,y,h=>by
   rw [O9] at h;split at h
   ·rcases Q3r u _ _ y h with h | h
    ·rcases List.mem_cons.1 h with rfl | h
     ·exact .inr yW
     ·exact .inl h
    ·exact .inr (by simp [h])
   ·split at h
    ·rcases Q3r u _ _ y h with h | h
     ·exact .inl h
     ·exact .inr (by simp [h])
    ·split at h
     ·rcases Q3r u _ _ y h with h | h
      ·exact .inl (List.mem_of_mem_drop h)
      ·exact .inr (by simp [h])
     ·rcases Q3r u _ _ y h with h | h
      ·exact .inl h
      ·exact .inr (by simp [h])
theorem Y9d (raw:ByteArray) (k:Nat) (m:Int) (rest':List UInt8) (v:List Tk) {B g:Nat} {u:List Tk} {cs:List Int} {op:List Tk} {cnt:Nat} {w:World} (h:MSt B g u cs op.reverse cnt w) (hm:w.cell? ⟨0,0,none⟩=some (.int .i64 m)) (hl:u.length+1≤512) (hlu:X2 u≤1000000) (hc:cs.length+1≤1024)
 (ho:op.length≤500) (hn:cnt≤500) (hos:∀ y∈op,y.t.size≤64) (hk:k < raw.size) (hr:raw.size≤1000000) (x:Tk) (hx:NumOk (x::v) cnt op):∀ (fmt:Int) (r:List UInt8) (o:Option Tk),ElOk fmt r o→fmt=1→o=some x→raw.data.toList.drop k=r++rest'→
 Calls Tryz.prog 81 #[.pointer (some ⟨g,0,none⟩),.string raw,.int .i64 k] w (X4x B g (u++[x]) (cs++[(k:Int)]) (O9 [x] cnt op).2.reverse (O9 [x] cnt op).1 r.length w):=by
 intro fmt r o he hf hox hd;have ha:=Q1x raw k;rw [hd] at ha;have hi:(raw.extract k raw.size).size≤1000000:=(by rw [ByteArray.size_extract];omega);cases he with
 | slot _ n hn=>
   injection hox with hox;subst hox;rw [X4o _ _ _ (.inr rfl)];have e:(123::n++[125]).length=(ofL n).size+2:=(by rw [Lib.size_eq];simp [ofL]);rw [e];exact Y5m raw _ (ofL n) k rest' h hl hlu hc hk hr rfl (by rw [ha];simp [ofL]) (by simpa [ofL] using hn)
 | ch1 c hc1=>
   injection hox with hox;subst hox;rw [X4o _ _ _ (.inl rfl)];exact Z5n raw _ k c rest' h hl hlu hc hk hr rfl (by rw [ha];rfl) hc1.1 hc1.2.1 hc1.2.2
 | ref _ c hc1=>
   injection hox with hox;subst hox;rw [X4o _ _ _ (.inl rfl)];exact Y9e raw _ k _ c rest' h hl hlu hc hk hr rfl ha hc1
 | opn t d ht hb=>
   injection hox with hox;subst hox;unfold NumOk at hx;rw [if_pos rfl] at hx;have hd':d=((cnt+1:Nat):Int):=hx.1;subst hd';have et:(ofL t).data.toList=t:=(by simp [ofL]);have hj:(ofL t).size≤64:=Q9w 1 _ _ (ElOk.opn t ((cnt+1:Nat):Int) ht hb);have hg:(ofL t).size=t.length:=(by rw [Lib.size_eq,et]);have e1:O9 [(⟨2,ofL t,((cnt+1:Nat):Int)⟩:Tk)] cnt op=(cnt+1,⟨2,ofL t,((cnt+1:Nat):Int)⟩::op):=rfl;rw [e1,show (60::t++[(62:UInt8)]).length=t.length+2 by simp];rw [List.reverse_cons];refine Q8v raw _ (ofL t) k 2 m _ (t++62::rest') h hm hk hr rfl (by rw [ha];simp) yY ?_ (by rw [et];exact hb) fun w' h' hh=>Z0x (ofL t) k h' hl hlu hc (by simpa using ho) hn;have:=Y2w _ (ofL t) rest' m w hm (by rw [ha,et];simp) hi (by rw [et];exact ht);rwa [hg] at this
 | cls t d ht hb=>
   injection hox with hox;subst hox;unfold NumOk at hx;rw [if_neg (show ¬ (3:Int)=2 by decide),if_neg (show ¬ (3:Int)=4 by decide),if_pos rfl] at hx;obtain ⟨y,op',rfl,hy,hq,_⟩:=hx;have hyd':d=y.d:=hq;subst hyd';have et:(ofL t).data.toList=t:=(by simp [ofL]);have hj:(ofL t).size≤64:=Q9w 1 _ _ (ElOk.cls t y.d ht hb);have hg:(ofL t).size=t.length:=(by rw [Lib.size_eq,et]);have e1:O9 [(⟨3,ofL t,y.d⟩:Tk)] cnt (y::op')=(cnt,op'):=rfl;rw [e1,show (60::47::t++[(62:UInt8)]).length=t.length+3 by simp];rw [List.reverse_cons] at h;have hp:J4 (Z1 (ofL t).data.toList)=false:=(by rw [et,X2y t ht];exact hb);refine Q8v raw _ (ofL t) k 3 m _ (47::t++62::rest') h hm hk hr rfl (by rw [ha];simp) yY ?_ hp fun w' h' hh=>Z0v (ofL t) y k m h' hl hlu hc (by simp at ho ⊢;omega) hy (by have:=hos y yW;omega) hh;have:=V5z _ (ofL t) rest' m w hm (by rw [ha,et];simp) hi (by rw [et];exact ht);rwa [hg] at this
 | emp t d ht hb=>
   injection hox with hox;subst hox;unfold NumOk at hx;rw [if_neg (show ¬ (4:Int)=2 by decide),if_pos rfl] at hx;have hd':d=((cnt+1:Nat):Int):=hx.1;subst hd';have et:(ofL t).data.toList=t:=(by simp [ofL]);have hj:(ofL t).size≤64:=Q9w 1 _ _ (ElOk.emp t ((cnt+1:Nat):Int) ht hb);have hg:(ofL t).size=t.length:=(by rw [Lib.size_eq,et]);have e1:O9 [(⟨4,ofL t,((cnt+1:Nat):Int)⟩:Tk)] cnt op=(cnt+1,op):=rfl;rw [e1,show (60::t++[(47:UInt8),62]).length=t.length+3 by simp];refine Q8v raw _ (ofL t) k 4 m _ (t++47::62::rest') h hm hk hr rfl (by rw [ha];simp) yY ?_ (by rw [et];exact hb) fun w' h' hh=>Z0w (ofL t) k h' hl hlu hc hn;have:=Z3q _ (ofL t) rest' m w hm (by rw [ha,et];simp) hi (by rw [et];exact ht);rwa [hg] at this
 | ch2=>exact absurd hf yX
 | esc=>exact absurd hf yX
 | cont=>exact absurd hf yX
 | ch3=>exact absurd hf yX
 | two=>exact absurd hf yX
def opJ (ts:Els) (j:Nat):Nat×List Tk:=O9 (X1 (ts.take j)) 0 []
theorem X6k (raw:ByteArray) (ts:Els) (m:Int) (w:World) (hm:w.cell? ⟨0,0,none⟩=some (.int .i64 m)) (h:Rdb 1 raw ts) (hnum:NumOk (X1 ts) 0 []):
 Calls Tryz.prog 42 #[.string raw] w (fun e w'=>∃ g rest,e=.returned (.tuple #[.pointer (some ⟨g,0,none⟩),.int .i64 0,.int .i64 0])∧BS w.heap.size g 93 rest (X1 ts) (csE ts) w'∧Below w.heap.size w w'):=by
 obtain ⟨R,hs⟩:∃ R:Ending→World→Prop,yK (R=fun e w'=>∃ g rest,e=.returned (.tuple #[.pointer (some ⟨g,0,none⟩),.int .i64 0,.int .i64 0])∧BS w.heap.size g 93 rest (X1 ts) (csE ts) w'∧Below w.heap.size w w'):=⟨_,rfl⟩;rw [←hs.o];have hg:yK (MSt w.heap.size w.heap.size [] [] [] 0 (w.alloc (.cells #[.slice none 0 0,.slice none 0 0,.slice none 0 0,.slice none 0 0,.int .i64 0] 93))):=
  ⟨⟨_,_,_,_,[],⟨#[]⟩,⟨Bd.start yQ rfl yX,OwnE.nil,fun k hk=>by cases hk⟩,BSt.nil⟩⟩
 have hh:=zW ((Below.refl w.heap.size w).alloc yQ (.cells #[.slice none 0 0,.slice none 0 0,.slice none 0 0,.slice none 0 0,.int .i64 0] 93));have hG:raw.size=(Q2 ts).length:=(by rw [Lib.size_eq,h.eq]);have ht:=zW hG;have H:=zW h;have hr:=zW hnum;have HM:=zW hm;clear h hG hnum hm;go_enter Tryz.func42,Tryz.ntmps42
 go_wp2_with fail
 go_loopg [6] ts.length (fun gk iv wr=>∃ j,iv=.int .i64 (D3 ts j:Nat)∧j≤ts.length∧yK (MSt w.heap.size w.heap.size (X1 (ts.take j)) (csE (ts.take j)) (opJ ts j).2.reverse (opJ ts j).1 wr)∧yK (Below w.heap.size w wr)∧ts.length - j≤gk)
 case atStart=>exact ⟨0,rfl,Nat.zero_le _,hg.o,hh.o,yQ⟩
 case round=>
  obtain ⟨j,rfl,hj,HB,HL,hgk⟩:=hrel;by_cases hlt:j < ts.length
  ·have ha:=List.getElem_mem hlt;have hc:=H.o.els _ ha;have hp:=X4p ts j hlt (X5n _ _ _ hc);have hF:D3 ts j < raw.size:=(by rw [ht.o];exact hp);have hd:=Q7p ts j hlt;rw [←H.o.eq] at hd;have hw:=Q0o ts (j+1);have hK:=H.o.len;have hM:=H.o.sz;obtain ⟨x,hx⟩:=Option.ne_none_iff_exists'.1 (Q9t _ _ _ hc yX);have hf:=X0i ts j hlt x hx;have hv:=Z1m ts j hlt fun e he=>Q9t _ _ _ (H.o.els e he) yX;rw [hf,List.length_append,List.length_singleton] at hw;have hL:X2 (X1 (ts.take j))≤500:=Nat.le_trans (M8 _ (Q2s 1 (ts.take j) fun e he=>H.o.els e (List.mem_of_mem_take he))) yY;have hn:=Q0s (X1 (ts.take j)) 0 [];have hz:NumOk (x::X1 (ts.drop (j+1))) (opJ ts j).1 (opJ ts j).2:=by
    have e1:X1 ts=X1 (ts.take j)++(x::X1 (ts.drop (j+1))):=by
     conv=>lhs;rw [←List.take_append_drop j ts,I6,List.drop_eq_getElem_cons hlt]
     congr 1;rw [show X1 (ts[j]::ts.drop (j+1))=X1 [ts[j]]++X1 (ts.drop (j+1)) from I6 [ts[j]] _];simp [X1,hx]
    have h1:=hr.o;rw [e1] at h1;exact S9 _ _ _ _ h1
   have hB:opJ ts (j+1)=O9 [x] (opJ ts j).1 (opJ ts j).2:=by
    unfold opJ;rw [hf,Q3q]
   have hD:∀ y∈(opJ ts j).2,y.t.size≤64:=fun y hy=>by
    rcases Q3r _ _ _ y hy with h | h
    ·simp at h
    ·exact X6b 1 (ts.take j) (fun e he=>H.o.els e (List.mem_of_mem_take he)) y h
   have hC:=Y9d raw (D3 ts j) m _ _ HB.o (X6 HM.o HL.o) yY yY (by rw [Q4h];omega) (by simp at hn;unfold opJ;omega) (by simp at hn;unfold opJ;omega) hD hF hM x hz 1 _ _ hc rfl hx hd;rw [←hf,←hv,←hB] at hC;have HC:=zW hC;have hi:yK (D3 ts (j+1)=D3 ts j+ts[j].1.length):=Q1m ts j hlt;have hE:D3 ts j+ts[j].1.length≤raw.size:=by
    have:=congrArg List.length hd;rw [List.length_drop,List.length_append,←Lib.size_eq] at this;omega
   clear hC hf hv hx hd hc ha hg hh hw hL hp hD hB hz hn HB;have ho:((D3 ts j:Nat):Int) < (raw.size:Int):=yY;generalize D3 ts j=pj at hF ho HC hi hE ⊢;generalize ts[j].1.length=ln at HC hi hE ⊢;have hb:((pj:Int)+(ln:Int))=((D3 ts (j+1):Nat):Int):=(by rw [hi.o];omega);have hl:=zW hb;clear hb;go_wp2_with fail
   refine (HC.o).mono ?_;rintro e w1 ⟨rfl,hb1,hw1⟩;have hH:=zW hb1;have hJ:=zW (HL.o.trans hw1);clear hb1 hw1;go_wp2_with fail
   rw [hl.o];go_roundg (ts.length - (j+1))
   case measure=>omega
   case rel=>exact ⟨j+1,rfl,hlt,hH.o,hJ.o,yY⟩
  ·obtain rfl:j=ts.length:=yY;have he:D3 ts ts.length=raw.size:=(by rw [ht.o];exact X0q ts);have hA:(opJ ts ts.length).2=[]:=by
    unfold opJ;rw [List.take_length];exact Y5w _ hr.o
   rw [he];rw [List.take_length,hA] at HB;have hq:∃ A c,wr.cell? ⟨w.heap.size,3,none⟩=some (.slice A 0 c):=by
    obtain ⟨iv,tv,cv,ov,its,tx,h,_⟩:=HB.o.ex;obtain ⟨A,c,rfl⟩:=Q0 h.own;exact ⟨A,c,h.bd.cellR (i:=0) rfl⟩
   obtain ⟨A,c,q3⟩:=hq;obtain ⟨rest,hu⟩:=HB.o.bs;have hI:=zW hu;clear hg hh he hA hu;go_wp2_with fail
   first | go_ret3 | skip
   rw [hs.o];exact ⟨_,_,rfl,hI.o,HL.o⟩
theorem Q1f (raw:ByteArray) (ts:Els) (m:Int) (w:World) (hm:w.cell? ⟨0,0,none⟩=some (.int .i64 m)) (h:Rdb 1 raw ts) (hnum:NumOk (X1 ts) 0 []):
 Calls Tryz.prog 13 #[.string raw] w (fun e w'=>∃ v,e=.returned (.tuple #[v,.int .i64 0,.int .i64 0])∧OwnT 31 w' w.heap.size v (Q9 (X1 ts))∧Below w.heap.size w w'):=by
 have HR:=zW (X6k raw ts m w hm h hnum);have HL:yK ((X1 ts).length≤500):=h.len;have HU:yK (X2 (X1 ts)≤500):=Nat.le_trans (M8 _ (Q2s 1 ts h.els)) h.len;clear h hnum hm;go_enter Tryz.func13,Tryz.ntmps13
 go_wp2_with fail
 refine (HR.o).mono ?_;rintro e w1 ⟨g,rest,rfl,hb,hw⟩;have HI:=zW (Y1a hb (by have:=HL.o;omega) (by have:=HU.o;omega));have HW:=zW hw;clear hb hw HR;go_wp2_with fail
 refine (HI.o).mono ?_;rintro e w2 ⟨v,rfl,ho,hw2⟩;have HO:=zW ho;have ha:=zW (HW.o.trans hw2);obtain ⟨A,c,rfl⟩:=Q0 ho;clear ho hw2;go_wp2_with fail
 go_ret3
 exact ⟨_,rfl,HO.o,ha.o⟩
theorem X6j (raw:ByteArray) (ts:Els) (m:Int) (w:World) (hm:w.cell? ⟨0,0,none⟩=some (.int .i64 m)) (h:Rdb 1 raw ts) (hnum:NumOk (X1 ts) 0 []):
 Calls Tryz.prog 106 #[.string raw] w (fun e w'=>∃ v,e=.returned (.tuple #[v,.int .i64 0])∧OwnE 3 V6 1 w' w.heap.size v (csE ts++[((Q2 ts).length:Int)])∧Below w.heap.size w w'):=by
 have HR:=zW (X6k raw ts m w hm h hnum);have HL:yK ((csE ts).length≤500):=(by show _≤_;rw [Q4h];exact h.len);have ha:(Q2 ts).length=raw.size:=(by rw [Lib.size_eq,h.eq]);rw [ha];clear h ha hnum hm;go_enter Tryz.func106,Tryz.ntmps106
 go_wp2_with fail
 refine (HR.o).mono ?_;rintro e w1 ⟨g,rest,rfl,hb,hw⟩;have HI:=zW (Y8d (raw.size:Int) hb (by have:=HL.o;omega));have HW:=zW hw;clear hb hw HR;go_wp2_with fail
 refine (HI.o).mono ?_;rintro e w2 ⟨v,rfl,ho,hw2⟩;have HO:=zW ho;have hc:=zW (HW.o.trans hw2);obtain ⟨A,c,hv⟩:=Q0 ho;rw [show (csE ts++[(raw.size:Int)]).length=(csE ts).length+1 by simp] at hv;subst hv;clear ho hw2;go_wp2_with fail
 go_ret2
 exact ⟨_,rfl,HO.o,hc.o⟩
end Go.Proofs.YtfkojnofbpdjdaaGreatDoor
namespace Go.Proofs.YtfkojnofbpdjdaaGreatDoor
def G9 (us:List Un):List Pt:=us.flatMap fun u=>[⟨false,ofL [],ofL u.sk⟩,⟨true,ofL u.key,ofL (Q2 u.ts)⟩]
def Z2 (us:List Un):List UInt8:=us.flatMap fun u=>u.sk++Q2 u.ts
theorem V0r (a b:List Un):G9 (a++b)=G9 a++G9 b:=by simp [G9]
theorem Q6j (a b:List Un):Z2 (a++b)=Z2 a++Z2 b:=by simp [Z2]
theorem Q4u:∀ (us:List Un) (tl:List UInt8),B8 us tl=G9 us++[⟨false,ofL [],ofL tl⟩]
 | [],tl=>rfl
 | u::us,tl=>by rw [B8,Q4u us tl];rfl
theorem Q5o:∀ (us:List Un) (tl:List UInt8),P3 us tl=Z2 us++tl
 | [],tl=>rfl
 | u::us,tl=>by
   rw [P3,Q5o us tl,show Z2 (u::us)=(u.sk++Q2 u.ts)++Z2 us from rfl];simp
theorem P6 (us:List Un):(G9 us).length=2 * us.length:=by
 induction us with
 | nil=>rfl
 | cons u us ih=>rw [show G9 (u::us)=[⟨false,ofL [],ofL u.sk⟩,⟨true,ofL u.key,ofL (Q2 u.ts)⟩]++G9 us from rfl,List.length_append,ih,List.length_cons];simp;omega
/-! ### Resource files: lines, each with its end -/
inductive RL where
 | skip (l:List UInt8)
 | unit (key:List UInt8) (ts:Els)
def K7:RL→List UInt8
 | .skip l=>l++[10]
 | .unit key ts=>key++(61::(Q2 ts++[10]))
def Q0p (c:UInt8):Bool:=decide ((97≤c.toNat∧c.toNat≤122)∨(48≤c.toNat∧c.toNat≤57)∨c.toNat=46∨c.toNat=95∨c.toNat=45)
def Q2l (c:UInt8):Bool:=c==32 || c==9
def Q5h (l:List UInt8):Bool:=match l.dropWhile Q2l with
 | []=>true
 | c::_=>c==35
def X8g:RL→Prop
 | .skip l=>(∀ c∈l,c≠10)∧Q5h l=true
 | .unit key ts=>1≤key.length∧key.length≤64∧(∀ c∈key,Q0p c=true)∧RawOk 2 ts
def L7 (st:List Un×List UInt8):RL→List Un×List UInt8
 | .skip l=>(st.1,st.2++(l++[10]))
 | .unit key ts=>(st.1++[⟨st.2++(key++[61]),key,ts⟩],[10])
def Y0 (ls:List RL):List Un×List UInt8:=ls.foldl L7 ([],[])
def Y8 (ls:List RL):List (List UInt8):=ls.filterMap fun x=>match x with
 | .skip _=>none
 | .unit k _=>some k
theorem X3e:∀ (ls:List RL) (st:List Un×List UInt8),Z2 (ls.foldl L7 st).1++(ls.foldl L7 st).2=Z2 st.1++st.2++ls.flatMap K7
 | [],st=>by simp
 | x::ls,st=>by
   rw [List.foldl_cons,X3e ls,List.flatMap_cons];cases x with
   | skip l=>
     show Z2 st.1++(st.2++(l++[10]))++_=_++(l++[10]++_);simp
   | unit key ts=>
     show Z2 (st.1++[⟨st.2++(key++[61]),key,ts⟩])++[10]++_=_++(key++(61::(Q2 ts++[10]))++_);rw [Q6j];simp [Z2]
theorem Q9h (ls:List RL):P3 (Y0 ls).1 (Y0 ls).2=ls.flatMap K7:=by
 rw [Q5o];have h:=X3e ls ([],[]);rw [show Z2 ([]:List Un)=[] from rfl,List.nil_append,List.nil_append] at h;exact h
def Z9:Els→Nat→Els
 | _,0=>[]
 | [],_+1=>[]
 | (r,none)::ts,p+1=>(r,none)::Z9 ts (p+1)
 | (r,some x)::ts,p+1=>(r,some x)::Z9 ts p
def J7:Els→Nat→Els
 | ts,0=>ts
 | [],_+1=>[]
 | (_,none)::ts,p+1=>J7 ts (p+1)
 | (_,some _)::ts,p+1=>J7 ts p
theorem G3:∀ (ts:Els) (p:Nat),Z9 ts p++J7 ts p=ts
 | ts,0=>by cases ts<;>rfl
 | [],_+1=>rfl
 | (r,none)::ts,p+1=>by rw [Z9,J7,List.cons_append,G3 ts (p+1)]
 | (r,some x)::ts,p+1=>by rw [Z9,J7,List.cons_append,G3 ts p]
theorem Q7i:∀ (ts:Els) (p:Nat),X1 (Z9 ts p)=(X1 ts).take p
 | ts,0=>by cases ts<;>simp [Z9,X1]
 | [],_+1=>rfl
 | (r,none)::ts,p+1=>by rw [Z9];exact Q7i ts (p+1)
 | (r,some x)::ts,p+1=>by
   rw [Z9,show X1 ((r,some x)::Z9 ts p)=x::X1 (Z9 ts p) from rfl,Q7i ts p,show X1 ((r,some x)::ts)=x::X1 ts from rfl,List.take_succ_cons]
theorem Q1j:∀ (ts:Els) (p:Nat),X1 (J7 ts p)=(X1 ts).drop p
 | ts,0=>by cases ts<;>rfl
 | [],_+1=>rfl
 | (r,none)::ts,p+1=>by rw [J7];exact Q1j ts (p+1)
 | (r,some x)::ts,p+1=>by
   rw [J7,Q1j ts p,show X1 ((r,some x)::ts)=x::X1 ts from rfl,List.drop_succ_cons]
theorem Q4i:∀ (ts:Els) (a b:Nat),J7 (J7 ts a) b=J7 ts (a+b)
 | ts,0,b=>by
   rw [Nat.zero_add];cases ts<;>rfl
 | [],a+1,b=>by
   rw [show a+1+b=(a+b)+1 by omega];cases b<;>rfl
 | (r,none)::ts,a+1,b=>by
   rw [J7,Q4i ts (a+1) b,show a+1+b=(a+b)+1 by omega,J7]
 | (r,some x)::ts,a+1,b=>by
   rw [J7,Q4i ts a b,show a+1+b=(a+b)+1 by omega,J7]
def V2l (ts:Els):List Nat:=Q3j ts 0 0++[T6 ts 0 0]
theorem Y1g:∀ (ts:Els) (p at_ b:Nat),p≤(X1 ts).length→(∀ q,p=q+1→True)→(Q3j ts at_ b++[T6 ts at_ b])[p]? =some (if p=0 then b else at_+(Q2 (Z9 ts p)).length)
 | [],p,at_,b,h,_=>by
   have:p=0:=(by simpa [X1] using h);subst this;rfl
 | (r,none)::ts,0,at_,b,h,_=>by
   rw [Q3j,T6];exact Y1g ts 0 _ b (Nat.zero_le _) (fun _ _=>trivial)
 | (r,none)::ts,p+1,at_,b,h,_=>by
   rw [Q3j,T6,Y1g ts (p+1) (at_+r.length) b h (fun _ _=>trivial),if_neg yY,if_neg yY,Z9,show Q2 ((r,none)::Z9 ts (p+1))=r++Q2 (Z9 ts (p+1)) from rfl,List.length_append,Nat.add_assoc]
 | (r,some x)::ts,0,at_,b,h,_=>rfl
 | (r,some x)::ts,p+1,at_,b,h,_=>by
   rw [Q3j,T6,List.cons_append,List.getElem?_cons_succ,Y1g ts p (at_+r.length) (at_+r.length) (by simpa [X1] using h) (fun _ _=>trivial),if_neg (show ¬ p+1=0 by omega),Z9,show Q2 ((r,some x)::Z9 ts p)=r++Q2 (Z9 ts p) from rfl,List.length_append];by_cases hp:p=0
   ·subst hp;rw [if_pos rfl,show Z9 ts 0=[] by cases ts<;>rfl];simp [Q2]
   ·rw [if_neg hp,Nat.add_assoc]
theorem V2m (ts:Els) (p:Nat) (h:p≤(X1 ts).length):(V2l ts)[p]? =some (Q2 (Z9 ts p)).length:=by
 have e:=Y1g ts p 0 0 h (fun _ _=>trivial);unfold V2l;rw [e];by_cases hp:p=0
 ·subst hp;rw [if_pos rfl,show Z9 ts 0=[] by cases ts<;>rfl];rfl
 ·rw [if_neg hp,Nat.zero_add]
def F6 (ts:Els):Nat→List (Nat×Nat)→List Els→Els
 | at_,r::rl,t::tg=>Z9 (J7 ts at_) (r.1 - at_)++t++F6 ts r.2 rl tg
 | at_,_,_=>J7 ts at_
theorem R1 (ts:Els) (p:Nat):Q2 ts=Q2 (Z9 ts p)++Q2 (J7 ts p):=by rw [←P7,G3]
theorem Q2z:∀ (ts:Els) (a b:Nat),Z9 ts (a+b)=Z9 ts a++Z9 (J7 ts a) b
 | ts,0,b=>by
   rw [Nat.zero_add];cases ts<;>rfl
 | [],a+1,b=>by
   rw [show a+1+b=(a+b)+1 by omega];cases b<;>rfl
 | (r,none)::ts,a+1,b=>by
   rw [show a+1+b=(a+b)+1 by omega,Z9,Z9,J7,List.cons_append,←Q2z ts (a+1) b,show a+1+b=a+b+1 by omega]
 | (r,some x)::ts,a+1,b=>by
   rw [show a+1+b=(a+b)+1 by omega,Z9,Z9,J7,List.cons_append,←Q2z ts a b]
theorem V5a (ts:Els) (a b:Nat) (h:a≤b):((Q2 ts).take (Q2 (Z9 ts b)).length).drop (Q2 (Z9 ts a)).length=Q2 (Z9 (J7 ts a) (b - a)):=by
 obtain ⟨d,rfl⟩:∃ d,b=a+d:=⟨b - a,yY⟩;rw [Nat.add_sub_cancel_left];rw [R1 ts (a+d),List.take_left];rw [Q2z,P7,List.drop_left]
theorem V0u (ts:Els) (a:Nat):(Q2 ts).drop (Q2 (Z9 ts a)).length=Q2 (J7 ts a):=by
 rw [R1 ts a,List.drop_left]
instance (x:Tk):Decidable (N1 x):=by unfold N1;exact inferInstance
def J2:List Tk→List Int→List Int
 | [],seen=>seen
 | x::u,seen=>if N1 x∧x.d∉seen then J2 u (seen++[x.d]) else J2 u seen
def Q1c (n:Nat):List Int:=(List.range n).map fun (k:Nat)=>((k+1:Nat):Int)
theorem X9e (n:Nat):Q1c (n+1)=Q1c n++[((n+1:Nat):Int)]:=by simp [Q1c,List.range_succ]
theorem X5e (n:Nat) (d:Int):d∈Q1c n↔1≤d∧d≤n:=by
 unfold Q1c;rw [List.mem_map];constructor
 ·rintro ⟨k,hk,rfl⟩;have:=List.mem_range.1 hk;omega
 ·intro h;exact ⟨d.toNat - 1,List.mem_range.2 yY,yY⟩
theorem Q0j (n:Nat):(Q1c n).length=n:=by simp [Q1c]
theorem L6:∀ (u:List Tk) (c:Nat) (op:List Tk),NumOk u c op→(∀ y∈op,1≤y.d∧y.d≤(c:Int))→J2 u (Q1c c)=Q1c (O9 u c op).1∧(∀ x∈u,N1 x→1≤x.d∧x.d≤((O9 u c op).1:Int))∧c≤(O9 u c op).1
 | [],c,op,_,_=>⟨rfl,fun x hx=>by simp at hx,yQ⟩
 | x::u,c,op,h,ho=>by
   unfold NumOk at h;rw [O9,J2];split at h
   ·rename_i h2;rw [if_pos h2,if_pos ⟨Or.inl h2,fun hm=>by have:=(X5e c x.d).1 hm;rw [h.1] at this;omega⟩,h.1,←X9e];obtain ⟨e1,e2,e3⟩:=L6 u (c+1) (x::op) h.2 (fun y hy=>by
     rcases List.mem_cons.1 hy with rfl | hy
     ·rw [h.1];omega
     ·have:=ho y hy;omega)
    refine ⟨e1,fun z hz ht=>?_,yY⟩;rcases List.mem_cons.1 hz with rfl | hz
    ·have:=h.1;omega
    ·exact e2 z hz ht
   ·rename_i h2;rw [if_neg h2];split at h
    ·rename_i h4;rw [if_pos h4,if_pos ⟨Or.inr (Or.inr h4),fun hm=>by have:=(X5e c x.d).1 hm;rw [h.1] at this;omega⟩,h.1,←X9e];obtain ⟨e1,e2,e3⟩:=L6 u (c+1) op h.2 (fun y hy=>by have:=ho y hy;omega);refine ⟨e1,fun z hz ht=>?_,yY⟩;rcases List.mem_cons.1 hz with rfl | hz
     ·have:=h.1;omega
     ·exact e2 z hz ht
    ·rename_i h4;rw [if_neg h4];split at h
     ·rename_i h3;rw [if_pos h3];obtain ⟨y,op',rfl,hn,hd,h⟩:=h;have hy:=ho y yW;rw [if_neg (fun hh=>hh.2 ((X5e c x.d).2 (by rw [hd];exact hy)))];obtain ⟨e1,e2,e3⟩:=L6 u c op' h (fun z hz=>ho z (by simp [hz]));refine ⟨e1,fun z hz ht=>?_,e3⟩;rcases List.mem_cons.1 hz with rfl | hz
      ·have e4:(O9 u c (List.drop 1 (y::op'))).1=(O9 u c op').1:=rfl;have:=hd;omega
      ·exact e2 z hz ht
     ·rename_i h3;rw [if_neg h3];have ha:¬ N1 x:=fun ht=>by rcases ht with a | a | a<;>contradiction
      rw [if_neg (fun hh=>ha hh.1)];obtain ⟨e1,e2,e3⟩:=L6 u c op h ho;refine ⟨e1,fun z hz ht=>?_,e3⟩;rcases List.mem_cons.1 hz with rfl | hz
      ·exact absurd ht ha
      ·exact e2 z hz ht
theorem H4:∀ (u v:List Tk) (s:List Int),J2 (u++v) s=J2 v (J2 u s)
 | [],_,_=>rfl
 | x::u,v,s=>by
   rw [List.cons_append,J2,J2];split
   ·exact H4 u v _
   ·exact H4 u v _
theorem Q2g (x:Tk) (s:List Int) (hk:x.k=1):J2 [x] s=s:=by
 rw [J2,if_neg (fun h=>by have:=h.1;unfold N1 at this;omega)];rfl
theorem Y9i (out:List Tk) (x:Tk) (s:List Int):J2 (X3 out x) s=J2 (out++[x]) s:=by
 by_cases hk:x.k=1
 ·rw [H4,Q2g x _ hk];by_cases h2:x.t.size=0
  ·rw [G1 out x hk h2]
  ·rcases List.eq_nil_or_concat out with rfl | ⟨o,y,rfl⟩
   ·rw [V7 x hk h2];exact Q2g _ _ rfl
   ·rw [List.concat_eq_append];by_cases hy:y.k=1
    ·rw [J3 o y x hk h2 hy,H4,H4,Q2g y _ hy];exact Q2g _ _ rfl
    ·rw [D1 o y x hk h2 hy,H4];exact Q2g _ _ rfl
 ·rw [K6 out x hk]
theorem X6s:∀ (f out:List Tk) (s:List Int),J2 (f.foldl X3 out) s=J2 (out++f) s
 | [],out,s=>by simp
 | x::f,out,s=>by
   rw [List.foldl_cons,X6s f,H4,Y9i,←H4];simp
theorem Y9h (f:List Tk) (s:List Int):J2 (Q9 f) s=J2 f s:=by
 have:=X6s f [] s;simpa [Q9] using this
def Q2m (u:List Tk):Nat→List (Nat×Nat)→List (List Tk)→List Tk
 | at_,r::rl,t::tg=>(u.take r.1).drop at_++Y2 t++Q2m u r.2 rl tg
 | at_,_,_=>u.drop at_
theorem Q7h (fmt:Int) (ts:Els):∀ (rl:List (Nat×Nat)) (tg:List (List Tk)) (at_:Nat),X1 (F6 ts at_ rl (tg.map (tsF fmt)))=Q2m (X1 ts) at_ rl tg
 | [],tg,at_=>by
   cases tg<;>exact Q1j ts at_
 | r::rl,[],at_=>Q1j ts at_
 | r::rl,t::tg,at_=>by
   rw [List.map_cons,F6,I6,I6,Q7h fmt ts rl tg,Q7i,Q1j,V3z,Q2m,List.drop_take]
/-! ### Tables -/
inductive Fl where
 | bare (l:List UInt8)
 | quo (l:List UInt8)
def Q3u:Fl→List UInt8
 | .bare l=>l
 | .quo l=>34::l++[34]
def Q5m:Fl→Prop
 | .bare l=>∀ c∈l,c≠34∧c≠44∧c≠10
 | .quo l=>∀ c∈l,c≠34
def F1 (fs:List Fl):List UInt8:=fs.flatMap fun f=>Q3u f++[44]
def T5 (fs:List Fl):List UInt8:=fs.flatMap fun f=>44::Q3u f
structure Rc where
 pre:List Fl
 key:List UInt8
 ts:Els
 post:List Fl
def Q6l (r:Rc):List UInt8:=F1 r.pre++(34::(Q2 r.ts++(34::T5 r.post)))
def P2 (st:List Un×List UInt8) (r:Rc):List Un×List UInt8:=(st.1++[⟨st.2++(10::(F1 r.pre++[34])),r.key,r.ts⟩],34::T5 r.post)
def P8:List UInt8:=[116,101,120,116]
def R2 (a b:List Fl):List UInt8:=F1 a++(P8++T5 b)
def Z4 (a b:List Fl) (rs:List Rc):List Un×List UInt8:=rs.foldl P2 ([],R2 a b)
theorem X3f:∀ (rs:List Rc) (st:List Un×List UInt8),Z2 (rs.foldl P2 st).1++(rs.foldl P2 st).2=Z2 st.1++st.2++rs.flatMap fun r=>10::Q6l r
 | [],st=>by simp
 | r::rs,st=>by
   rw [List.foldl_cons,X3f rs,List.flatMap_cons];show Z2 (st.1++[_])++(34::T5 r.post)++_=_;rw [Q6j];simp [Z2,Q6l]
theorem Q9i (a b:List Fl) (rs:List Rc):P3 (Z4 a b rs).1 (Z4 a b rs).2=R2 a b++rs.flatMap fun r=>10::Q6l r:=by
 rw [Q5o];have h:=X3f rs ([],R2 a b);rw [show Z2 ([]:List Un)=[] from rfl,List.nil_append] at h;exact h
/-! ### Markup -/
inductive MK where
 | byte (c:UInt8)
 | note
 | tag (t:List UInt8)
 | blk (t key:List UInt8) (ts:Els)
def Y5t:List UInt8:=[60,33,45,45,32,60,112,62,32,45,45,62]
def G6 (t:List UInt8):List UInt8:=60::47::(Z1 t++[62])
def Y3:MK→List UInt8
 | .byte c=>[c]
 | .note=>Y5t
 | .tag t=>60::t++[62]
 | .blk t _ ts=>60::t++(62::(Q2 ts++G6 t))
def V2j (t:List UInt8):Prop:=(N5 t=true∧J4 (Z1 t)=false)∨∃ u,t=u++[47]∧N5 u=true∧J4 (Z1 u)=false
def X8f:MK→Prop
 | .byte c=>c≠60
 | .note=>True
 | .tag t=>V2j t
 | .blk t _ ts=>N5 t=true∧J4 (Z1 t)=true∧RawOk 1 ts
def P1 (st:List Un×List UInt8):MK→List Un×List UInt8
 | .blk t key ts=>(st.1++[⟨st.2++(60::t++[62]),key,ts⟩],G6 t)
 | x=>(st.1,st.2++Y3 x)
def Y5 (ms:List MK):List Un×List UInt8:=ms.foldl P1 ([],[])
theorem X3d:∀ (ms:List MK) (st:List Un×List UInt8),Z2 (ms.foldl P1 st).1++(ms.foldl P1 st).2=Z2 st.1++st.2++ms.flatMap Y3
 | [],st=>by simp
 | x::ms,st=>by
   rw [List.foldl_cons,X3d ms,List.flatMap_cons];cases x with
   | blk t key ts=>
     show Z2 (st.1++[_])++G6 t++_=_++(60::t++(62::(Q2 ts++G6 t))++_);rw [Q6j];simp [Z2]
   | byte c=>show Z2 st.1++(st.2++Y3 (.byte c))++_=_;simp
   | note=>show Z2 st.1++(st.2++Y3 .note)++_=_;simp
   | tag t=>show Z2 st.1++(st.2++Y3 (.tag t))++_=_;simp
theorem Q5a (ms:List MK):P3 (Y5 ms).1 (Y5 ms).2=ms.flatMap Y3:=by
 rw [Q5o];have h:=X3d ms ([],[]);rw [show Z2 ([]:List Un)=[] from rfl,List.nil_append,List.nil_append] at h;exact h
theorem Y4x (l sub:List UInt8):-1≤Lib.index l sub:=by
 induction l with
 | nil=>rw [Lib.index];split<;>omega
 | cons b l ih=>rw [Lib.index];split;omega;split<;>omega
theorem X0h (sub s:List UInt8) (n:Nat) (hs:Lib.index s sub=(n:Int)):∀ (r:List UInt8),(∀ i,i < r.length→sub.isPrefixOf ((r++s).drop i)=false)→Lib.index (r++s) sub=((r.length+n:Nat):Int)
 | [],_=>by rw [List.nil_append,hs];simp
 | c::r,h=>by
   have h0:=h 0 yW;rw [List.drop_zero] at h0;have ih:=X0h sub s n hs r (fun i hi=>by
    have:=h (i+1) yV;rwa [List.cons_append,List.drop_succ_cons] at this)
   rw [List.cons_append] at h0 ⊢;rw [Lib.index,if_neg (by simp [h0]),ih,if_neg (by rw [beq_iff_eq];omega),List.length_cons];omega
theorem H5 (c d:UInt8) (p s:List UInt8) (h:c≠d):List.isPrefixOf (c::p) (d::s)=false:=by
 rw [List.isPrefixOf];have:(c==d)=false:=(by simpa using h);rw [this,Bool.false_and]
theorem X0r (a:UInt8) (p s:List UInt8):List.isPrefixOf (a::p) (a::s)=List.isPrefixOf p s:=by
 rw [List.isPrefixOf];simp
theorem Y6c:∀ (n m s:List UInt8),(∀ b∈n,b≠62)→(∀ b∈m,b≠62)→List.isPrefixOf (n++[62]) (m++62::s)=true→n=m
 | [],[],_,_,_,_=>rfl
 | [],c::m,s,_,hm,h=>by
   exfalso;rw [List.nil_append,List.cons_append,H5 62 c [] _ (fun e=>hm c yW e.symm)] at h;cases h
 | c::n,[],s,hn,_,h=>by
   exfalso;rw [List.nil_append,List.cons_append,H5 c 62 _ _ (hn c yW)] at h;cases h
 | c::n,d::m,s,hn,hm,h=>by
   rw [List.cons_append,List.cons_append] at h;by_cases e:c=d
   ·subst e;rw [X0r] at h;rw [Y6c n m s (fun b hb=>hn b (by simp [hb])) (fun b hb=>hm b (by simp [hb])) h]
   ·rw [H5 c d _ _ e] at h;cases h
theorem Y1p (r s:List UInt8) (i:Nat) (hi:i < r.length):∃ q,(r++s).drop i=r[i]::q:=by
 refine ⟨(r++s).drop (i+1),?_⟩;rw [List.drop_eq_getElem_cons yV,List.getElem_append_left hi]
theorem V0c (nm r s:List UInt8) (i:Nat) (hi:i < r.length) (h:r[i]≠60):List.isPrefixOf (60::47::(nm++[62])) ((r++s).drop i)=false:=by
 obtain ⟨q,hq⟩:=Y1p r s i hi;rw [hq];exact H5 _ _ _ _ (fun e=>h e.symm)
theorem Y9g (nm r s:List UInt8) (h:∀ b∈r,b≠60):∀ i,i < r.length→List.isPrefixOf (60::47::(nm++[62])) ((r++s).drop i)=false:=fun i hi=>V0c nm r s i hi (h _ (List.getElem_mem hi))
theorem Y2b (nm r s:List UInt8) (h0:List.isPrefixOf (60::47::(nm++[62])) (60::r++s)=false) (h:∀ b∈r,b≠60):∀ i,i < (60::r).length→List.isPrefixOf (60::47::(nm++[62])) ((60::r++s).drop i)=false:=by
 intro i hi;cases i with
 | zero=>exact h0
 | succ i=>
   rw [List.cons_append,List.drop_succ_cons];have ha:i < r.length:=(by simpa using hi);exact V0c nm r s i ha (h _ (List.getElem_mem ha))
theorem V9d (nm:List UInt8) (hnm:∀ b∈nm,b≠62) (hbl:J4 nm=true) (r:List UInt8) (x:Option Tk) (s:List UInt8) (h:ElOk 1 r x):∀ i,i < r.length→List.isPrefixOf (60::47::(nm++[62])) ((r++s).drop i)=false:=by
 generalize hf:(1:Int)=fmt at h;cases h with
 | slot _ n hn=>
   refine Y9g nm _ s fun b hb=>?_;rw [List.mem_append,List.mem_cons] at hb;rcases hb with (rfl | hb) | hb
   ·decide
   ·exact I7 n hn 60 yW b hb
   ·rw [List.mem_singleton.1 hb];decide
 | ch1 c hc=>exact Y9g nm _ s fun b hb=>by rw [List.mem_singleton.1 hb];exact hc.1
 | ref r c hr=>
   refine Y9g nm _ s fun b hb=>?_;simp only [X3w,List.mem_cons,List.not_mem_nil,or_false,Prod.mk.injEq] at hr;rcases hr with ⟨rfl,_⟩ | ⟨rfl,_⟩ | ⟨rfl,_⟩ | ⟨rfl,_⟩ | ⟨rfl,_⟩<;>revert b<;>decide
 | opn t d ht hb=>
   obtain ⟨c,q,rfl,hc⟩:=E4 t ht;refine Y2b nm ((c::q)++[62]) s ?_ fun b hb=>?_
   ·rw [List.cons_append,List.cons_append,List.cons_append,X0r,H5 _ _ _ _ (fun e=>O3 c hc 47 yW e.symm)]
   ·rw [List.mem_append] at hb;rcases hb with hb | hb
    ·exact (Q0k _ ht).2 b hb
    ·rw [List.mem_singleton.1 hb];decide
 | emp t d ht hb=>
   obtain ⟨c,q,rfl,hc⟩:=E4 t ht;refine Y2b nm ((c::q)++[47,62]) s ?_ fun b hb=>?_
   ·rw [List.cons_append,List.cons_append,List.cons_append,X0r,H5 _ _ _ _ (fun e=>O3 c hc 47 yW e.symm)]
   ·rw [List.mem_append] at hb;rcases hb with hb | hb
    ·exact (Q0k _ ht).2 b hb
    ·simp at hb;rcases hb with rfl | rfl<;>decide
 | cls t d ht hb=>
   refine Y2b nm (47::t++[62]) s ?_ fun b hb=>?_
   ·cases hp:List.isPrefixOf (60::47::(nm++[62])) (60::(47::t++[62])++s) with
    | false=>rfl
    | true=>
      exfalso;rw [List.cons_append,X0r,List.cons_append,List.cons_append,X0r,List.append_assoc] at hp;have:=Y6c nm t s hnm (fun b hb=>I7 t ht 62 yW b hb) hp;rw [this,hb] at hbl;cases hbl
   ·rw [List.mem_append,List.mem_cons] at hb;rcases hb with (rfl | hb) | hb
    ·decide
    ·exact I7 t ht 60 yW b hb
    ·rw [List.mem_singleton.1 hb];decide
 | ch2 c hc=>cases hf
 | esc e c he=>cases hf
 | cont b hb=>cases hf
 | ch3 c hc=>cases hf
 | two c hc=>cases hf
theorem Y1q (nm:List UInt8) (hnm:∀ b∈nm,b≠62) (hbl:J4 nm=true) (rest:List UInt8):∀ (ts:Els),(∀ e∈ts,ElOk 1 e.1 e.2)→Lib.index (Q2 ts++(60::47::(nm++[62])++rest)) (60::47::(nm++[62]))=((Q2 ts).length:Int)
 | [],_=>by
   show Lib.index (60::(47::(nm++[62])++rest)) _=0;rw [Lib.index,if_pos];rw [List.isPrefixOf_iff_prefix];exact ⟨rest,rfl⟩
 | (r,x)::ts,h=>by
   have ih:=Y1q nm hnm hbl rest ts (fun e he=>h e (by simp [he]));have e:=X0h _ _ _ ih r (V9d nm hnm hbl r x _ (h (r,x) yW));rw [show Q2 ((r,x)::ts)=r++Q2 ts from rfl,List.append_assoc,e,List.length_append]
end Go.Proofs.YtfkojnofbpdjdaaGreatDoor
namespace Go.Proofs.YtfkojnofbpdjdaaGreatDoor
open Go.RowKit
theorem Y4y (s:ByteArray) (w:World) (h:J4 s.data.toList=true):Calls Tryz.prog 40 #[.string s] w fun e w'=>e=.returned (.bool true)∧w=w':=by
 rw [←Y4] at h;unfold J4 wP wH wLi wTd X3g at h;simp only [Bool.or_eq_true] at h;rcases h with (((h | h) | h) | h) | h
 ·go_enter Tryz.func40,Tryz.ntmps40
  go_wp2
  go_ret
  exact ⟨rfl,rfl⟩
 ·have n1:(s.toList==[112])=false:=(by rw [eq_of_beq h];decide);go_enter Tryz.func40,Tryz.ntmps40
  go_wp2
  go_ret
  exact ⟨rfl,rfl⟩
 ·have n1:(s.toList==[112])=false:=(by rw [eq_of_beq h];decide);have n2:(s.toList==[104])=false:=(by rw [eq_of_beq h];decide);go_enter Tryz.func40,Tryz.ntmps40
  go_wp2
  go_ret
  exact ⟨rfl,rfl⟩
 ·have n1:(s.toList==[112])=false:=(by rw [eq_of_beq h];decide);have n2:(s.toList==[104])=false:=(by rw [eq_of_beq h];decide);have n3:(s.toList==[108,105])=false:=(by rw [eq_of_beq h];decide);go_enter Tryz.func40,Tryz.ntmps40
  go_wp2
  go_ret
  exact ⟨rfl,rfl⟩
 ·have n1:(s.toList==[112])=false:=(by rw [eq_of_beq h];decide);have n2:(s.toList==[104])=false:=(by rw [eq_of_beq h];decide);have n3:(s.toList==[108,105])=false:=(by rw [eq_of_beq h];decide);have n4:(s.toList==[116,100])=false:=(by rw [eq_of_beq h];decide);go_enter Tryz.func40,Tryz.ntmps40
  go_wp2
  go_ret
  exact ⟨rfl,rfl⟩
def X4y (n:Nat) (bl:ByteArray) (w:World) (e:Ending) (w':World):Prop:=
 e=.returned (.tuple #[.int .i64 n,.string bl,.bool true])∧Below w.heap.size w w'
theorem at0 (s:ByteArray) (c:UInt8) (r:List UInt8) (h:s.data.toList=c::r) (h0:0 < s.size):s[0]=c:=by
 have:s.data.toList[0]'(by rw [h];simp)=c:=(by simp only [h];rfl);exact this
theorem V0f (s:ByteArray) (c:UInt8) (r:List UInt8) (hs:s.data.toList=c::r) (hc:c≠60) (w:World):
 Calls Tryz.prog 143 #[.string s] w (X4y 1 ⟨#[]⟩ w):=by
 have hb:0 < s.size:=(by rw [Lib.size_eq,hs];simp);have ha:=at0 s c r hs hb;have n0:((s[0].toNat:Int)==60)=false:=D2 s[0] 60 (by rw [ha];exact hc);have HB:=zW (Below.refl w.heap.size w);clear hs hc ha;go_enter Tryz.func143,Tryz.ntmps143
 go_wp2_with fail
 go_ret3
 exact ⟨rfl,HB.o⟩
theorem V0g (s:ByteArray) (r:List UInt8) (m:Int) (w:World) (hm:w.cell? ⟨0,0,none⟩=some (.int .i64 m)) (hs:s.data.toList=Y5t++r) (hsz:s.size≤1000000):
 Calls Tryz.prog 143 #[.string s] w (X4y 12 ⟨#[]⟩ w):=by
 have hz:12≤s.size:=(by rw [Lib.size_eq,hs,List.length_append];show 12≤12+_;omega);have hc:0 < s.size:=yY;have ha:=at0 s 60 _ (show s.data.toList=60::([33,45,45,32,60,112,62,32,45,45,62]++r) from hs) hc;have n0:((s[0].toNat:Int)==60)=true:=M5 s[0] 60 ha;have CP:=zW (U6 s (⟨#[60,33,45,45]⟩:ByteArray) true (by rw [hs];exact L1 [60,33,45,45] _));have hb:s.extract 4 s.size=ofL ([32,60,112,62,32,45,45,62]++r):=D7 _ _ _ _ (by
  rw [hs,Lib.size_eq,hs,List.take_length];show List.drop 4 (60::33::45::45::([32,60,112,62,32,45,45,62]++r))=(ofL ([32,60,112,62,32,45,45,62]++r)).data.toList;simp [ofL])
 have CI:=zW (Tryz.strings_Index (ofL ([32,60,112,62,32,45,45,62]++r)) (⟨#[45,45,62]⟩:ByteArray) m w (by rw [←hb];simp;omega) hm);rw [show Lib.index (ofL ([32,60,112,62,32,45,45,62]++r)).data.toList (⟨#[45,45,62]⟩:ByteArray).data.toList=5 by
  show Lib.index ([32,60,112,62,32,45,45,62]++r) [45,45,62]=5;simp [Lib.index,List.isPrefixOf]] at CI
 generalize ofL ([32,60,112,62,32,45,45,62]++r)=u at hb CI;have HB:=zW (Below.refl w.heap.size w);have h4:4≤s.size:=yY;clear hs hm ha;go_enter Tryz.func143,Tryz.ntmps143
 go_wp2_with (first
  | (go_at_call 130;refine (CP.o _).mono ?_;rintro e w' ⟨rfl,rfl⟩)
  | (go_at_call 144;refine (CI.o).mono ?_;rintro e w' ⟨rfl,rfl⟩))
 go_ret3
 exact ⟨rfl,HB.o⟩
theorem Z2r (s t:ByteArray) (r:List UInt8) (k:Int) (n:Nat) (m:Int) (w:World) (hm:w.cell? ⟨0,0,none⟩=some (.int .i64 m)) (hs:s.data.toList=60::r) (hnt:Lib.hasPrefix s.data.toList [60,33,45,45]=false) (hts:t.size≤1000000) (hn:n≤1000000)
 (CT:Calls Tryz.prog 121 #[.string s] w (X1t k t n w)) (hb:J4 (Z1 t.data.toList)=false):
 Calls Tryz.prog 143 #[.string s] w (X4y n ⟨#[]⟩ w):=by
 have hf:0 < s.size:=(by rw [Lib.size_eq,hs];simp);have he:=at0 s 60 _ hs hf;have n0:((s[0].toNat:Int)==60)=true:=M5 s[0] 60 he;have CP:=zW (U6 s (⟨#[60,33,45,45]⟩:ByteArray) false hnt);have CN:=zW (fun w hm=>Q4r t m w hts hm);have CB:=zW (fun w=>Q2a (ofL (Z1 t.data.toList)) w (by simpa [ofL] using hb));have HT:=zW CT;have HM:=zW hm;have HB:=zW (Below.refl w.heap.size w);clear hs hm he hnt hb CT;go_enter Tryz.func143,Tryz.ntmps143
 go_wp2_with (first
  | (go_at_call 130;refine (CP.o _).mono ?_;rintro e w' ⟨rfl,rfl⟩)
  | (go_at_call 121;refine (HT.o).mono ?_;rintro e w1 ⟨rfl,ha⟩;have hc:=zW ha;have hd:=zW ha.size;clear ha)
  | (go_at_call 41;refine (CN.o _ (by exact X6 HM.o (by exact hc.o.alloc hd.o _))).mono ?_;rintro e w2 ⟨rfl,n1,rfl⟩)
  | (go_at_call 40;refine (CB.o _).mono ?_;rintro e w' ⟨rfl,rfl⟩))
 go_ret3
 exact ⟨rfl,Q1 (hc.o.alloc hd.o _) _⟩
theorem V4o (s t:ByteArray) (r:List UInt8) (n:Nat) (m:Int) (w:World) (hm:w.cell? ⟨0,0,none⟩=some (.int .i64 m)) (hs:s.data.toList=60::r) (hnt:Lib.hasPrefix s.data.toList [60,33,45,45]=false) (hts:t.size≤1000000) (hn:n≤1000000)
 (CT:Calls Tryz.prog 121 #[.string s] w (X1t 2 t n w)) (hb:J4 (Z1 t.data.toList)=true):
 Calls Tryz.prog 143 #[.string s] w (X4y n (ofL (Z1 t.data.toList)) w):=by
 have hf:0 < s.size:=(by rw [Lib.size_eq,hs];simp);have he:=at0 s 60 _ hs hf;have n0:((s[0].toNat:Int)==60)=true:=M5 s[0] 60 he;have CP:=zW (U6 s (⟨#[60,33,45,45]⟩:ByteArray) false hnt);have CN:=zW (fun w hm=>Q4r t m w hts hm);have CB:=zW (fun w=>Y4y (ofL (Z1 t.data.toList)) w (by simpa [ofL] using hb));have HT:=zW CT;have HM:=zW hm;have HB:=zW (Below.refl w.heap.size w);clear hs hm he hnt hb CT;generalize ofL (Z1 t.data.toList)=nm at CN CB ⊢;go_enter Tryz.func143,Tryz.ntmps143
 go_wp2_with (first
  | (go_at_call 130;refine (CP.o _).mono ?_;rintro e w' ⟨rfl,rfl⟩)
  | (go_at_call 121;refine (HT.o).mono ?_;rintro e w1 ⟨rfl,hd⟩;have ha:=zW hd;have hc:=zW hd.size;clear hd)
  | (go_at_call 41;refine (CN.o _ (by exact X6 HM.o (by exact ha.o.alloc hc.o _))).mono ?_;rintro e w2 ⟨rfl,n1,rfl⟩)
  | (go_at_call 40;refine (CB.o _).mono ?_;rintro e w' ⟨rfl,rfl⟩))
 go_region_with (go_at_call 41;refine (CN.o _ ?hcell).mono ?_;(case hcell=>(refine X6 HM.o ?_;repeat' (first | exact ha.o.alloc hc.o _ | refine Q1 ?_ _ | refine Below.drew ?_)));rintro e w2 ⟨rfl,n2,rfl⟩)
 all_goals (
  go_wp2_with fail
  go_ret3
  refine ⟨rfl,?_⟩;repeat' (first | exact ha.o.alloc hc.o _ | refine Q1 ?_ _ | refine Below.drew ?_))
def V0e:MK→Nat
 | .byte _=>1
 | .note=>12
 | .tag t=>t.length+2
 | .blk t _ _=>t.length+2
def V7r:MK→ByteArray
 | .blk t _ _=>ofL (Z1 t)
 | _=>⟨#[]⟩
def X5 (ms:List MK):List UInt8:=ms.flatMap Y3
theorem Q6k (a b:List MK):X5 (a++b)=X5 a++X5 b:=by simp [X5]
def R4:Nat→List MK→Prop
 | _,[]=>True
 | k,.blk _ key _::ms=>key=Lib.decDigits (k+1)∧k < 99∧R4 (k+1) ms
 | k,_::ms=>R4 k ms
def K9:List MK→Nat
 | []=>0
 | .blk _ _ _::ms=>K9 ms+1
 | _::ms=>K9 ms
theorem Q3i:∀ (a b:List MK),K9 (a++b)=K9 a+K9 b
 | [],b=>by simp [K9]
 | x::a,b=>by
   have ih:=Q3i a b;cases x<;>(simp only [List.cons_append,K9];omega)
theorem S6:∀ (a b:List MK) (k:Nat),R4 k (a++b)→R4 (k+K9 a) b
 | [],b,k,h=>h
 | x::a,b,k,h=>by
   cases x with
   | byte c=>exact S6 a b k h
   | note=>exact S6 a b k h
   | tag t=>exact S6 a b k h
   | blk t key ts=>
     have:=S6 a b (k+1) h.2.2;rw [show k+K9 (.blk t key ts::a)=k+1+K9 a by show k+(K9 a+1)=_;omega];exact this
theorem Q6 (l:List UInt8):(ofL l).size=l.length:=by rw [Lib.size_eq];simp [ofL]
theorem X1k (t:List UInt8):(Z1 t).length≤t.length:=by
 obtain ⟨r,h⟩:=X1j t;have:=congrArg List.length h;rw [List.length_append] at this;omega
theorem X0m (c:UInt8) (r:List UInt8) (h:c≠33):Lib.hasPrefix (60::c::r) [60,33,45,45]=false:=by
 unfold Lib.hasPrefix;rw [List.isPrefixOf,List.isPrefixOf];have:(33==c)=false:=(by simpa using fun e:33=c=>h e.symm);simp [this]
theorem V4n (x:MK) (s:ByteArray) (r:List UInt8) (m:Int) (w:World) (hm:w.cell? ⟨0,0,none⟩=some (.int .i64 m)) (hx:X8f x) (hs:s.data.toList=Y3 x++r) (hsz:s.size≤1000000):
 Calls Tryz.prog 143 #[.string s] w (X4y (V0e x) (V7r x) w):=by
 have ha:s.size=(Y3 x).length+r.length:=(by rw [Lib.size_eq,hs,List.length_append]);cases x with
 | byte c=>exact V0f s c r hs hx w
 | note=>exact V0g s r m w hm hs hsz
 | tag t=>
   have hl:t.length+2≤1000000:=by
    have:(Y3 (.tag t)).length=t.length+2:=(by simp [Y3]);omega
   rcases hx with ⟨hc,hb⟩ | ⟨u,rfl,hc,hb⟩
   ·obtain ⟨c,q,hq,hh⟩:=E4 t hc;have h1:s.data.toList=60::(ofL t).data.toList++62::r:=(by rw [hs];simp [Y3,ofL]);have CT:=Y2w s (ofL t) r m w hm h1 hsz (by simpa [ofL] using hc);rw [Q6] at CT;exact Z2r s (ofL t) _ 2 (t.length+2) m w hm h1 (by rw [h1];simp only [ofL,hq];exact X0m c _ (O3 c hh 33 yW)) (by rw [Q6];omega) hl CT (by simpa [ofL] using hb)
   ·obtain ⟨c,q,hq,hh⟩:=E4 u hc;have h1:s.data.toList=60::(ofL u).data.toList++47::62::r:=(by rw [hs];simp [Y3,ofL]);have CT:=Z3q s (ofL u) r m w hm h1 hsz (by simpa [ofL] using hc);rw [Q6] at CT;have hd:(u++[47]).length=u.length+1:=yW;have e:V0e (.tag (u++[47]))=u.length+3:=(by show (u++[47]).length+2=_;omega);rw [e];exact Z2r s (ofL u) _ 4 (u.length+3) m w hm h1 (by rw [h1];simp only [ofL,hq];exact X0m c _ (O3 c hh 33 yW)) (by rw [Q6];omega) yY CT (by simpa [ofL] using hb)
 | blk t key ts=>
   have hl:t.length+2≤1000000:=by
    have:t.length+2≤(Y3 (.blk t key ts)).length:=(by simp [Y3]);omega
   obtain ⟨hc,hb,_⟩:=hx;obtain ⟨c,q,hq,hh⟩:=E4 t hc;have h1:s.data.toList=60::(ofL t).data.toList++62::(Q2 ts++G6 t++r):=(by rw [hs];simp [Y3,ofL]);have CT:=Y2w s (ofL t) _ m w hm h1 hsz (by simpa [ofL] using hc);rw [Q6] at CT;have:=V4o s (ofL t) _ (t.length+2) m w hm h1 (by rw [h1];simp only [ofL,hq];exact X0m c _ (O3 c hh 33 yW)) (by rw [Q6];omega) hl CT (by simpa [ofL] using hb);rw [show (ofL t).data.toList=t by simp [ofL]] at this;exact this
/-! ### Where one stands in the document -/
theorem Z8j (a b:List UInt8):(a++b).drop a.length=b:=List.drop_left
theorem P4 (data:ByteArray) (a b:List UInt8) (h:data.data.toList=a++b):data.extract a.length data.size=ofL b:=D7 _ _ _ _ (by
 rw [h,Lib.size_eq,h,List.take_length,Z8j];simp [ofL])
theorem N9 (data:ByteArray) (a b c:List UInt8) (n:Nat) (h:data.data.toList=a++b++c) (hn:a.length+b.length=n):data.extract a.length n=ofL b:=D7 _ _ _ _ (by
 rw [Q2e h rfl hn];simp [ofL])
theorem X1i (st:List Un×List UInt8) (x:MK) (h:∀ t k ts,x≠.blk t k ts):P1 st x=(st.1,st.2++Y3 x):=by
 cases x with
 | blk t k ts=>exact absurd rfl (h t k ts)
 | byte c=>rfl
 | note=>rfl
 | tag t=>rfl
theorem Q5b (ms:List MK) (x:MK):Y5 (ms++[x])=P1 (Y5 ms) x:=by
 unfold Y5;rw [List.foldl_append];rfl
theorem M3 (ms:List MK):(Y5 ms).1.length=K9 ms:=by
 suffices h:∀ (ms:List MK) (st:List Un×List UInt8),(ms.foldl P1 st).1.length=st.1.length+K9 ms by
  have:=h ms ([],[]);unfold Y5;simpa using this
 intro ms;induction ms with
 | nil=>intro st;simp [K9]
 | cons x ms ih=>
   intro st;rw [List.foldl_cons,ih];cases x with
   | byte c=>simp [P1,K9]
   | note=>simp [P1,K9]
   | tag t=>simp [P1,K9]
   | blk t key ts=>simp [P1,K9];omega
theorem W9 (ms:List MK):X5 ms=Z2 (Y5 ms).1++(Y5 ms).2:=by
 have:=X3d ms ([],[]);rw [show Z2 ([]:List Un)=[] from rfl,List.nil_append,List.nil_append] at this;exact this.symm
def ptC (p:Pt):List Value:=[.bool p.un,.string p.key,.string p.raw]
theorem K0 (p:Pt):(ptC p).length=3:=rfl
theorem X0v (p:Pt):∀ u∈ptC p,u.oneCell'=true:=by
 intro u hu;simp [ptC] at hu;rcases hu with rfl | rfl | rfl<;>rfl
theorem X0w:(Tryz.prog.info? 52).map (fun i=>(i.zero,i.size,i.bytes))=some (some (.agg #[.bool false,.string ⟨#[]⟩,.string ⟨#[]⟩]),3,40):=by kernel_rfl
theorem X0z {α:Type} (f:α→List Value) (m:Nat) (hm:∀ x,(f x).length=m) (w:World) (g:Nat) (hg:w.heap.size=g) (l:List α) (cs:Array Value) (hcs:cs=(l.flatMap f).toArray) (t:TypeId) (n:Nat) (hn:n=l.length) (h0:0 < n):RdE f m (w.alloc (.cells cs t)) (.slice (some ⟨g,0,none⟩) n n) l:=by
 subst hg hcs hn;refine ⟨some ⟨w.heap.size,0,none⟩,l.length,rfl,by simp,(fun h=>by cases h),fun _=>⟨w.heap.size,0,rfl,by simp,fun i y j u hi hj=>?_⟩⟩;have ha:j < m:=(by rw [←hm y];exact (List.getElem?_eq_some_iff.1 hj).1);have:=F4 w (l.flatMap f) t (i * m+j) u (by rw [Q1y f m hm l i j y hi ha];exact hj);rw [Addr.add_lit] at this;simpa using this
structure PsB (B g:Nat) (data:ByteArray) (fr:Nat) (lv:Value) (ps:List Pt) (w:World):Prop where
 box:w.heap[g]? =some (.cells #[.string data,.int .i64 fr,lv] 245)
 own:OwnE 52 ptC 3 w B lv ps
 lt:B≤g
section
variable {B g:Nat} {data:ByteArray} {fr:Nat} {lv lv':Value} {ps ps':List Pt} {w w':World}
theorem PsB.gsz (h:PsB B g data fr lv ps w):g < w.heap.size:=(Array.getElem?_eq_some_iff.1 h.box).1
theorem PsB.nL (h:PsB B g data fr lv ps w):X3j g lv:=Y1 h.own h.box yX
theorem PsB.below (h:PsB B g data fr lv ps w) (hb:Below w.heap.size w w'):PsB B g data fr lv ps w':=
 ⟨(hb.block g h.gsz).trans h.box,Q8 h.own fun k hk=>hb.block k (h.own.lt k hk).2,h.lt⟩
theorem PsB.alloc (h:PsB B g data fr lv ps w) (o:Obj):PsB B g data fr lv ps (w.alloc o):=h.below ((Below.refl _ _).alloc yQ o)
theorem PsB.drew (h:PsB B g data fr lv ps w):PsB B g data fr lv ps w.drew:=⟨h.box,h.own,h.lt⟩
theorem PsB.gr (h:PsB B g data fr lv ps w) (hg:w.grownBy w' lv.ownBlock):w'.heap[g]? =some (.cells #[.string data,.int .i64 fr,lv] 245):=(hg.block g h.gsz (fun e=>h.nL g e.symm rfl)).trans h.box
theorem PsB.put (h:PsB B g data fr lv ps w) (ho:OwnE 52 ptC 3 w' B lv' ps') (hg:w.grownBy w' lv.ownBlock):
 PsB B g data fr lv' ps' (w'.setCell ⟨g,2,none⟩ lv'):=by
 have hs:=Mod.set w' g 2 lv';have ha:=h.gr hg;exact ⟨by rw [K1 ha];rfl,hs.own ho fun k hk e=>Y1 ho ha yX k hk e,h.lt⟩
theorem PsB.to (h:PsB B g data fr lv ps w) (b:Nat):PsB B g data b lv ps (w.setCell ⟨g,1,none⟩ (.int .i64 b)):=by
 have hs:=Mod.set w g 1 (.int .i64 b);exact ⟨by rw [K1 h.box];rfl,hs.own h.own fun k hk e=>h.nL k hk e,h.lt⟩
end
theorem Q4s (data:ByteArray) (w:World):
 Calls Tryz.prog 142 #[.string data] w (fun e w'=>∃ g,e=.returned (.pointer (some ⟨g,0,none⟩))∧PsB w.heap.size g data 0 (.slice none 0 0) [] w'∧Below w.heap.size w w'):=by
 have HB:=zW (Below.refl w.heap.size w);have H:yK (PsB w.heap.size w.heap.size data 0 (.slice none 0 0) [] (w.alloc (.cells #[.string data,.int .i64 0,.slice none 0 0] 245))):=⟨Array.getElem?_push_size,OwnE.nil,yQ⟩;go_enter Tryz.func142,Tryz.ntmps142
 go_wp2_with fail
 go_ret
 exact ⟨_,rfl,H.o,HB.o.alloc yQ _⟩
theorem X3b (a b:Nat) (key:ByteArray) {B g:Nat} {data:ByteArray} {fr:Nat} {lv:Value} {ps:List Pt} {w:World} (h:PsB B g data fr lv ps w)
 (h1:fr≤a) (h2:a≤b) (h3:b≤data.size) (hd:data.size≤100000000) (hl:ps.length≤1000000):
 Calls Tryz.prog 145 #[.pointer (some ⟨g,0,none⟩),.int .i64 a,.int .i64 b,.string key] w (fun e w'=>(∃ v,e=.returned v)∧∃ lv',PsB B g data b lv' (ps++[⟨false,⟨#[]⟩,data.extract fr a⟩,⟨true,key,data.extract a b⟩]) w'∧Below B w w'∧∀ k,k < w.heap.size→k≠g→lv.ownBlock≠some k→w'.heap[k]? =w.heap[k]?):=by
 have hg:=Nat.le_trans h.lt (Nat.le_of_lt h.gsz);obtain ⟨q0,q1,q2,_⟩:=bx3 h.box;obtain ⟨A0,c0,rfl⟩:=Q0 h.own;have H:=zW h;have HB:=zW (Below.refl B w);have HA:=zW (h.drew.alloc (.cells (([⟨false,⟨#[]⟩,data.extract fr a⟩,⟨true,key,data.extract a b⟩]:List Pt).flatMap ptC).toArray 52));have hz:B≤w.drew.heap.size:=hg;have h4:a≤data.size:=yY;have p2:(w.alloc (.cells #[.bool false,.string ⟨#[]⟩,.string (data.extract fr a),.bool true,.string key,.string (data.extract a b)] 52)).cell? ⟨g,2,none⟩=some (.slice A0 ps.length c0):=(bx3 HA.o.box).2.2.1;have hf:yK (w.heap.size < (w.drew.alloc (.cells (([⟨false,⟨#[]⟩,data.extract fr a⟩,⟨true,key,data.extract a b⟩]:List Pt).flatMap ptC).toArray 52)).heap.size):=(by show _ < _;simp);clear h;go_enter Tryz.func145,Tryz.ntmps145
 go_wp2_with fail
 go_region_law (first
  | (refine T0 rfl (.tmp 12) (.tmp 33) 39 52 rfl Tryz.underlying39 _ ptC 3 40 X0w rfl yX K0 X0v B (.slice A0 ps.length c0) ps (by simp [Act.eval]) (by exact HA.o.own) (.slice (some ⟨w.drew.heap.size, 0, none⟩) 2 2) [⟨false, ⟨#[]⟩, data.extract fr a⟩, ⟨true, key, data.extract a b⟩] (by simp [Act.eval]) (by exact X0z ptC 3 K0 _ _ rfl _ _ rfl _ _ rfl yX) yV yX yV ?_
     intro v7 w7 hown7 hbel7 hgr7 hat7;obtain ⟨A7,c7,hb⟩:=Q0 hown7;rw [show (ps++[(⟨false,⟨#[]⟩,data.extract fr a⟩:Pt),⟨true,key,data.extract a b⟩]).length=ps.length+2 by simp] at hb;subst hb;have HP:=zW (HA.o.put hown7 hgr7);have hc:=zW (hbel7 B w yQ ((Below.refl B w).drew.alloc hz _));have he:=zW (fun (k:Nat) (hk:k < w.heap.size) (hv:(Value.slice A0 ps.length c0).ownBlock≠some k)=>(hgr7.block k (Nat.lt_trans hk hf.o) (fun e=>hv e.symm)).trans (Below.heap_alloc w.drew _ k hk));have z0:=(bx3 (HA.o.gr hgr7)).2.2.1;have y0:=(bx3 (HA.o.gr hgr7)).2.2.2.2.2;clear hown7 hbel7))
 all_goals (
  have hh:=(bx3 HP.o.box).2.1;have hi:=(bx3 HP.o.box).2.2.2.2.1;have HG:=zW H.o.lt;go_wp2_with fail
  refine bodyPost_end (results_none rfl _ _ _) rfl ?_;refine ⟨⟨_,rfl⟩,_,HP.o.to b,(hc.o.setCell (p:=⟨g,2,none⟩) HG.o _).setCell (p:=⟨g,1,none⟩) HG.o _,fun k hk ha hv=>?_⟩;rw [Below.heap_setCell _ _ _ _ ha,Below.heap_setCell _ _ _ _ ha];exact he.o k hk hv)
theorem V2e (a b:Nat) (key:ByteArray) {B g:Nat} {data:ByteArray} {fr:Nat} {lv:Value} {ps:List Pt} {w:World} (h:PsB B g data fr lv ps w)
 (h1:fr≤a) (h2:a≤b) (h3:b≤data.size) (hd:data.size≤100000000) (hl:ps.length≤1000000):
 Calls Tryz.prog 145 #[.pointer (some ⟨g,0,none⟩),.int .i64 a,.int .i64 b,.string key] w (fun e w'=>(∃ v,e=.returned v)∧∃ lv',PsB B g data b lv' (ps++[⟨false,⟨#[]⟩,data.extract fr a⟩,⟨true,key,data.extract a b⟩]) w'∧Below B w w'):=
 (X3b a b key h h1 h2 h3 hd hl).mono fun _ _ ⟨h1,lv',h2,h3,_⟩=>⟨h1,lv',h2,h3⟩
theorem X6i {B g:Nat} {data:ByteArray} {fr:Nat} {lv:Value} {ps:List Pt} {w:World} (h:PsB B g data fr lv ps w)
 (h1:fr≤data.size) (hd:data.size≤100000000) (hl:ps.length≤1000000):
 Calls Tryz.prog 147 #[.pointer (some ⟨g,0,none⟩)] w (fun e w'=>∃ v,e=.returned v∧OwnE 52 ptC 3 w' B v (ps++[⟨false,⟨#[]⟩,data.extract fr data.size⟩])∧Below B w w'):=by
 have he:=Nat.le_trans h.lt (Nat.le_of_lt h.gsz);obtain ⟨q0,q1,q2,_⟩:=bx3 h.box;obtain ⟨A0,c0,rfl⟩:=Q0 h.own;have HA:=zW (h.drew.alloc (.cells (([⟨false,⟨#[]⟩,data.extract fr data.size⟩]:List Pt).flatMap ptC).toArray 52));have hz:B≤w.drew.heap.size:=he;have p2:(w.alloc (.cells #[.bool false,.string ⟨#[]⟩,.string (data.extract fr data.size)] 52)).cell? ⟨g,2,none⟩=some (.slice A0 ps.length c0):=(bx3 HA.o.box).2.2.1;clear h;go_enter Tryz.func147,Tryz.ntmps147
 go_wp2_with fail
 go_region_law (first
  | (refine T0 rfl (.tmp 6) (.tmp 17) 39 52 rfl Tryz.underlying39 _ ptC 3 40 X0w rfl yX K0 X0v B (.slice A0 ps.length c0) ps (by simp [Act.eval]) (by exact HA.o.own) (.slice (some ⟨w.drew.heap.size, 0, none⟩) 1 1) [⟨false, ⟨#[]⟩, data.extract fr data.size⟩] (by simp [Act.eval]) (by exact X0z ptC 3 K0 _ _ rfl _ _ rfl _ _ rfl yX) yV yX yV ?_
     intro v7 w7 hown7 hbel7 hgr7 hat7;obtain ⟨A7,c7,ha⟩:=Q0 hown7;rw [show (ps++[(⟨false,⟨#[]⟩,data.extract fr data.size⟩:Pt)]).length=ps.length+1 by simp] at ha;subst ha;have hc:=zW hown7;have hb:=zW (hbel7 B w yQ ((Below.refl B w).drew.alloc hz _));clear hown7 hbel7 hgr7 hat7))
 all_goals (
  go_wp2_with fail
  go_ret
  exact ⟨_,rfl,hc.o,hb.o⟩)
def K4 (ps:List Pt) (w:World) (e:Ending) (w':World):Prop:=
 ∃ v,e=.returned (.tuple #[v,.int .i64 0,.int .i64 0])∧OwnE 52 ptC 3 w' w.heap.size v ps∧Below w.heap.size w w'
theorem Q1n (us:List Un) (u:Un):G9 (us++[u])=G9 us++[⟨false,ofL [],ofL u.sk⟩,⟨true,ofL u.key,ofL (Q2 u.ts)⟩]:=by
 rw [V0r];rfl
theorem Q1o (us:List Un) (u:Un):Z2 (us++[u])=Z2 us++(u.sk++Q2 u.ts):=by
 rw [Q6j];simp [Z2]
theorem B9 (l:List UInt8):(ofL l).toList=l:=by
 rw [Y4];simp [ofL]
theorem Q1l:∀ (ms:List MK) (k:Nat),R4 k ms→k≤99→k+K9 ms≤99
 | [],k,_,h=>h
 | x::ms,k,hk,h=>by
   cases x with
   | byte c=>exact Q1l ms k hk h
   | note=>exact Q1l ms k hk h
   | tag t=>exact Q1l ms k hk h
   | blk t key ts=>
     have:=Q1l ms (k+1) hk.2.2 (by have:=hk.2.1;omega);show k+(K9 ms+1)≤99;omega
theorem V4p (x:MK) (h:∀ t k ts,x≠.blk t k ts):V0e x=(Y3 x).length∧V7r x=⟨#[]⟩:=by
 cases x with
 | blk t k ts=>exact absurd rfl (h t k ts)
 | byte c=>exact ⟨rfl,rfl⟩
 | note=>exact ⟨rfl,rfl⟩
 | tag t=>exact ⟨by simp [V0e,Y3],rfl⟩
theorem X8z (dn:List MK) (x:MK) (h:∀ t k ts,x≠.blk t k ts):K9 (dn++[x])=K9 dn:=by
 rw [Q3i];cases x with
 | blk t k ts=>exact absurd rfl (h t k ts)
 | byte c=>rfl
 | note=>rfl
 | tag t=>rfl
theorem X3q (data:ByteArray) (ms:List MK) (m:Int) (w:World) (hm:w.cell? ⟨0,0,none⟩=some (.int .i64 m)) (hd:data.data.toList=X5 ms) (hok:∀ x∈ms,X8f x) (hk:R4 0 ms) (hsz:data.size≤65536):
 Calls Tryz.prog 94 #[.string data] w (K4 (B8 (Y5 ms).1 (Y5 ms).2) w):=by
 obtain ⟨R,hQ⟩:∃ R:Ending→World→Prop,yK (R=K4 (B8 (Y5 ms).1 (Y5 ms).2) w):=⟨_,rfl⟩;rw [←hQ.o];have CP:=zW (fun w=>Q4s data w);have HD:=zW hd;have Hf:=zW hok;have HK:=zW hk;have HM:=zW hm;clear hd hok hk hm;go_enter Tryz.func94,Tryz.ntmps94
 go_wp2_with (go_at_call 142;refine (CP.o _).mono ?_;rintro e w0 ⟨g,rfl,hY,hT⟩;have hP:=zW hY;have hM:=zW hT;clear hY hT)
 go_loopg [3,6] ms.length (fun gk av bv wr=>∃ dn td,yK (ms=dn++td)∧av=.int .i64 ((X5 dn).length:Nat)∧bv=.int .i64 (K9 dn:Nat)∧(∃ lv,yK (PsB w.heap.size g data (Z2 (Y5 dn).1).length lv (G9 (Y5 dn).1) wr))∧yK (Below w.heap.size w wr)∧td.length≤gk)
 case atStart=>exact ⟨[],ms,rfl,rfl,rfl,⟨_,hP.o⟩,hM.o,yQ⟩
 case round=>
  obtain ⟨dn,td,HE,rfl,rfl,⟨lv,HP⟩,HB,hgk⟩:=hrel;clear hP hM;cases td with
  | nil=>
    have he:ms=dn:=(by have:=HE.o;rwa [List.append_nil] at this);subst he;have hH:(X5 ms).length=data.size:=(by rw [Lib.size_eq,HD.o]);have hu:=P6 (Y5 ms).1;have hn:(Z2 (Y5 ms).1).length≤data.size:=by
     rw [←hH,W9,List.length_append];omega
    have hG:K9 ms≤65536:=(by have:=Q1l ms 0 HK.o yX;omega);rw [M3] at hu;have hl:data.extract (Z2 (Y5 ms).1).length data.size=ofL (Y5 ms).2:=P4 _ _ _ (by rw [HD.o,W9]);have HC:=zW (X6i HP.o hn yY yY);rw [hl,show (⟨#[]⟩:ByteArray)=ofL [] from rfl,←Q4u] at HC;clear hl hn hu hG;rw [hH];clear hH;go_wp2_with (go_at_call 147;refine (HC.o).mono ?_;rintro e w1 ⟨v,rfl,ho,hf⟩;have HO:=zW ho;have hh:=zW (HB.o.trans hf);obtain ⟨A,c,rfl⟩:=Q0 ho;clear ho hf)
    go_ret3
    rw [hQ.o];exact ⟨_,rfl,HO.o,hh.o⟩
  | cons x td=>
    have hx:=Hf.o x (by rw [HE.o];simp);have hV:=S6 dn (x::td) 0 (by rw [←HE.o];exact HK.o);have hi:data.data.toList=X5 dn++(Y3 x++X5 td):=(by rw [HD.o,HE.o,Q6k];rfl);have hp:(X5 dn).length+(Y3 x).length+(X5 td).length=data.size:=(by rw [Lib.size_eq,hi];simp;omega);have Ha:0 < (Y3 x).length:=by cases x<;>simp [Y3,Y5t]
    have hl:data.extract (X5 dn).length data.size=ofL (Y3 x++X5 td):=P4 _ _ _ hi;have HO:=zW (fun w hm=>V4n x (ofL (Y3 x++X5 td)) (X5 td) m w hm hx (by simp [ofL]) (by rw [Q6,List.length_append];omega));have hz:dn++[x]++td=dn++x::td:=yW;have hB:X5 (dn++[x])=X5 dn++Y3 x:=(by rw [Q6k];simp [X5]);by_cases hb:∃ t k ts,x=.blk t k ts
    ·obtain ⟨t,key,ts,rfl⟩:=hb;obtain ⟨hc,hy,ha⟩:=hx;obtain ⟨hs,hJ,_⟩:=hV;have Hb:(Y3 (.blk t key ts)).length=(t.length+2)+(Q2 ts).length+(G6 t).length:=(by simp [Y3];omega);have Hr:(Q2 ts).length≤65536:=yY;have hj:(X5 dn++(60::t++[62])).length=(X5 dn).length+(t.length+2):=yW;have Hi:data.extract ((X5 dn).length+(t.length+2)) data.size=ofL (Q2 ts++(G6 t++X5 td)):=by
      have:=P4 data (X5 dn++(60::t++[62])) (Q2 ts++(G6 t++X5 td)) (by rw [hi];simp [Y3]);rw [hj] at this;exact this
     have hR:data.extract ((X5 dn).length+(t.length+2)) ((X5 dn).length+(t.length+2)+(Q2 ts).length)=ofL (Q2 ts):=by
      have:=N9 data (X5 dn++(60::t++[62])) (Q2 ts) (G6 t++X5 td) ((X5 dn).length+(t.length+2)+(Q2 ts).length) (by rw [hi];simp [Y3]) yW;rw [hj] at this;exact this
     have hv:=W9 dn;have hS:data.extract (Z2 (Y5 dn).1).length ((X5 dn).length+(t.length+2))=ofL ((Y5 dn).2++(60::t++[62])):=
      N9 data (Z2 (Y5 dn).1) ((Y5 dn).2++(60::t++[62])) (Q2 ts++(G6 t++X5 td)) _ (by rw [hi,hv];simp [Y3]) (by rw [hv];simp;omega)
     have hn:(Z2 (Y5 dn).1).length≤(X5 dn).length+(t.length+2):=(by rw [hv,List.length_append];omega);have hW:∀ b∈Z1 t,b≠62:=fun b hb=>by
      obtain ⟨r,hr⟩:=X1j t;exact (Q0k _ hc).1 b (by rw [hr];exact List.mem_append.2 (.inl hb))
     have hq:Lib.index (ofL (Q2 ts++(G6 t++X5 td))).data.toList (ofL (G6 t)).data.toList=((Q2 ts).length:Int):=by
      rw [show ∀ l,(ofL l).data.toList=l from fun l=>by simp [ofL],show ∀ l,(ofL l).data.toList=l from fun l=>by simp [ofL]];exact Y1q (Z1 t) hW hy (X5 td) ts ha.els
     have HI:=zW (fun w hm=>Tryz.strings_Index (ofL (Q2 ts++(G6 t++X5 td))) (ofL (G6 t)) m w (by rw [Q6];simp;omega) hm);rw [hq] at HI;have hN:=zW (fun w hm=>Q1f (ofL (Q2 ts)) ts m w hm ⟨by simp [ofL],ha.els,ha.len,by rw [Q6];omega⟩ ha.num);have hG:=Q1l ms 0 HK.o yX;have hO:=zW (fun w=>Tryz.strconv_Itoa_small (K9 dn+1) yY w);rw [show (⟨(Lib.decDigits (K9 dn+1)).toArray⟩:ByteArray)=ofL key by rw [hs,Nat.zero_add];rfl,show ((K9 dn+1:Nat):Int)=(K9 dn:Int)+1 from rfl] at hO;have hu:=P6 (Y5 dn).1;rw [M3] at hu;have HU:=zW (fun (lv:Value) (w':World) (h:PsB w.heap.size g data (Z2 (Y5 dn).1).length lv (G9 (Y5 dn).1) w')=>V2e ((X5 dn).length+(t.length+2)) ((X5 dn).length+(t.length+2)+(Q2 ts).length) (ofL key) h hn yY yY yY yY);rw [hS,hR,show (⟨#[]⟩:ByteArray)=ofL [] from rfl,←Q1n (Y5 dn).1 ⟨(Y5 dn).2++(60::t++[62]),key,ts⟩,show (((X5 dn).length+(t.length+2)+(Q2 ts).length:Nat):Int)=((X5 dn).length:Int)+((t.length+2:Nat):Int)+((Q2 ts).length:Int) by omega,show (((X5 dn).length+(t.length+2):Nat):Int)=((X5 dn).length:Int)+((t.length+2:Nat):Int) by omega] at HU;have hw:yK (Y5 (dn++[.blk t key ts])=((Y5 dn).1++[⟨(Y5 dn).2++(60::t++[62]),key,ts⟩],G6 t)):=(by show _=_;rw [Q5b];rfl);have He:yK ((Z2 (Y5 (dn++[.blk t key ts])).1).length=(X5 dn).length+(t.length+2)+(Q2 ts).length):=by
      show _=_;rw [hw.o,Q1o,hv];simp;omega
     have hg:yK (((X5 dn).length:Int)+((t.length+2:Nat):Int)+((Q2 ts).length:Int)+((G6 t).length:Int)=((X5 (dn++[.blk t key ts])).length:Nat)):=(by show _=_;rw [hB,List.length_append,Hb];omega);have hC:yK ((K9 dn:Int)+1=((K9 (dn++[.blk t key ts]):Nat):Int)):=(by show _=_;rw [Q3i];rfl);have hD:yK (ms=dn++[.blk t key ts]++td):=(by show _=_;rw [hz];exact HE.o);have Hm:(ofL (Z1 t)).toList.isEmpty=false:=by
      rw [B9];cases htn:Z1 t with
      | nil=>rw [htn] at hy;revert hy;decide
      | cons c q=>rfl
     have ht:(⟨#[60,47]⟩:ByteArray)++ofL (Z1 t)++(⟨#[62]⟩:ByteArray)=ofL (G6 t):=by
      apply ByteArray.ext;apply Array.toList_inj.1;simp [ofL,G6]
     have Hk:(ofL (G6 t)).size=(G6 t).length:=Q6 _;have hK:(ofL (Z1 t)).size≤65536:=(by rw [Q6];have:=X1k t;omega);have Hn:((X5 dn).length:Int) < (data.size:Int):=yY;have hL:(X5 dn).length≤data.size:=yY;have Ho:(X5 dn).length+(t.length+2)≤data.size:=yY;have Hp:(X5 dn).length+(t.length+2)+(Q2 ts).length≤data.size:=yY;have Hq:(X5 dn).length+(t.length+2)+(Q2 ts).length+(G6 t).length≤data.size:=yY;have hI:td.length+1≤gk:=hgk;have Hj:K9 dn≤99:=yY;rw [show V0e (.blk t key ts)=t.length+2 from rfl,show V7r (.blk t key ts)=ofL (Z1 t) from rfl] at HO;clear hB hz Ha hi hs hJ hc hy ha Hb Hr hS hn hW hq hG hu hv hp hj;generalize ofL (Y3 (.blk t key ts)++X5 td)=u1 at hl HO;generalize ofL (Q2 ts++(G6 t++X5 td))=u2 at Hi HI;generalize ofL (Q2 ts)=u3 at hR hN;generalize ofL (Z1 t)=nm at HO Hm ht hK;generalize ofL (G6 t)=pat at HI ht Hk;generalize t.length+2=n at *;generalize (Q2 ts).length=l at *;generalize (G6 t).length=le at *;go_wp2_with (first
      | (go_at_call 143;refine (HO.o _ (by exact X6 HM.o HB.o)).mono ?_;rintro e w1 ⟨rfl,hf⟩;have hE:=zW (HP.o.below hf);have hh:=zW (HB.o.trans (hf.mono HB.o.size));clear hf)
      | (go_at_call 144;refine (HI.o _ (by exact X6 HM.o hh.o)).mono ?_;rintro e w' ⟨rfl,rfl⟩)
      | (go_at_call 13;refine (hN.o _ (by exact X6 HM.o hh.o)).mono ?_;rintro e w2 ⟨v2,rfl,hX,hF⟩;obtain ⟨A2,c2,rfl⟩:=Q0 hX;have Hg:=zW (hE.o.below hF);have Hc:=zW (hh.o.trans (hF.mono hh.o.size));clear hX hF)
      | (go_at_call 146;refine (hO.o _).mono ?_;rintro e w' ⟨rfl,rfl⟩)
      | (go_at_call 145;refine (HU.o _ _ (by exact Hg.o)).mono ?_;rintro e w3 ⟨⟨v3,rfl⟩,lv3,hZ,hU⟩;have Hh:=zW hZ;have Hd:=zW (Hc.o.trans hU);clear hZ hU))
     rw [hg.o,hC.o];go_roundg td.length
     case measure=>omega
     case rel=>
      refine ⟨dn++[MK.blk t key ts],td,hD.o,rfl,rfl,⟨lv3,?_⟩,Hd.o,yQ⟩;rw [He.o,hw.o];exact Hh.o
    ·have hA:∀ t k ts,x≠.blk t k ts:=fun t k ts e=>hb ⟨t,k,ts,e⟩;obtain ⟨o1,o2⟩:=V4p x hA;rw [o1,o2] at HO;have hC:=zW (X8z dn x hA);have hw:yK (Y5 (dn++[x])=((Y5 dn).1,(Y5 dn).2++Y3 x)):=(by show _=_;rw [Q5b,X1i _ _ hA]);have hg:yK (((X5 dn).length:Int)+((Y3 x).length:Int)=((X5 (dn++[x])).length:Nat)):=(by show _=_;rw [hB,List.length_append];simp);have hD:yK (ms=dn++[x]++td):=(by show _=_;rw [hz];exact HE.o);have Hn:((X5 dn).length:Int) < (data.size:Int):=yY;have hL:(X5 dn).length≤data.size:=yY;have Hl:(Y3 x).length≤65536:=yY;have hI:td.length+1≤gk:=hgk;clear hB hz hb hA o1 o2 Ha hV hx hi;generalize ofL (Y3 x++X5 td)=u at hl HO;generalize (Y3 x).length=ln at hp Hl HO hg;go_wp2_with (go_at_call 143;refine (HO.o _ (by exact X6 HM.o HB.o)).mono ?_;rintro e w1 ⟨rfl,hf⟩;have hE:=zW (HP.o.below hf);have hh:=zW (HB.o.trans (hf.mono HB.o.size));clear hf)
     rw [hg.o];go_roundg td.length
     case measure=>omega
     case rel=>
      refine ⟨dn++[x],td,hD.o,rfl,by rw [hC.o],⟨lv,?_⟩,hh.o,yQ⟩;rw [hw.o];exact hE.o
end Go.Proofs.YtfkojnofbpdjdaaGreatDoor
namespace Go.Proofs.YtfkojnofbpdjdaaGreatDoor
def U8 (tags:Bool) (L:List Int) (c:Int) (t:ByteArray) (op:List Tk) (id M:Nat):Tk×List Tk×Nat×Nat:=
 if c=0∨c=1 then (⟨5,R6.getD (X0 L M 3).toNat ⟨#[]⟩,0⟩,op,id,M+1)
 else if c=2∧tags=true then (⟨4,Q4j.getD (X0 L M 2).toNat ⟨#[]⟩,(id+1:Nat)⟩,op,id+1,M+1)
 else if (c=3∨c=4)∧tags=true then (⟨2,Q6d.getD (X0 L M 3).toNat ⟨#[]⟩,(id+1:Nat)⟩,op++[⟨2,Q6d.getD (X0 L M 3).toNat ⟨#[]⟩,(id+1:Nat)⟩],id+1,M+1)
 else if (c=5∨c=6)∧0 < op.length then (⟨3,J8 (op.getLastD ⟨0,⟨#[]⟩,0⟩).t,(op.getLastD ⟨0,⟨#[]⟩,0⟩).d⟩,op.dropLast,id,M)
 else (⟨1,t,0⟩,op,id,M)
def C7 (tags:Bool) (L:List Int) (s:FS):FS:=
 let ln:=D0 L s.N 3
 let x:=U8 tags L (X0 L ln.2 8) ln.1 s.op s.id (ln.2+1)
 ⟨Q9 (s.f++[x.1]),x.2.1,x.2.2.1,x.2.2.2⟩
def G4 (tags:Bool) (L:List Int):Nat→FS→FS
 | 0,s=>s
 | i+1,s=>G4 tags L i (C7 tags L s)
def F9 (op:List Tk):List Tk:=op.reverse.map fun y=>⟨3,J8 y.t,y.d⟩
def U3 (tags:Bool) (L:List Int) (N:Nat) (n:Int):List Tk×Nat:=
 let s:=G4 tags L (X0 L N (n+1)).toNat ⟨[],[],0,N+1⟩
 (s.f++F9 s.op,s.N)
structure FGK (tags:Bool) (s:FS) (r:Nat):Prop where
 len:s.f.length≤r
 bytes:X9 s.f≤18 * r
 oplen:s.op.length≤r
 opsz:∀ x∈s.op,x.t.size≤5
 id:s.id≤r
 normal:Normal s.f
 plain:tags=false→(∀ x∈s.f,V5 x)∧s.op=[]
theorem Y7l (k:Nat) (h:k < 3):V8 (R6.getD k ⟨#[]⟩).data.toList=true:=by
 rcases (show k=0∨k=1∨k=2 by omega) with rfl | rfl | rfl<;>decide
theorem X5z (tags:Bool) (L:List Int) (c:Int) (t:ByteArray) (op:List Tk) (id M r:Nat) (ht:t.size≤18) (h1:op.length≤r) (h2:∀ x∈op,x.t.size≤5) (h3:id≤r) (hp:tags=false→op=[]):
 ∀ x op' id' M',U8 tags L c t op id M=(x,op',id',M')→x.t.size≤18∧op'.length≤r+1∧(∀ x∈op',x.t.size≤5)∧id'≤r+1∧M'≤M+1∧(tags=false→V5 x∧op'=[]):=by
 intro x op' id' M' h;unfold U8 at h;have hs:=X2e R6 (X0 L M 3).toNat yX;have he:=X2e Q4j (X0 L M 2).toNat yX;have ho:=X2e Q6d (X0 L M 3).toNat yX;have hb:=X7 L M 3 yX;split at h
 ·cases h;exact ⟨Nat.le_trans hs yX,yY,h2,yY,yY,fun hf=>⟨Or.inr ⟨rfl,Y7l _ yY,rfl⟩,hp hf⟩⟩
 split at h
 ·rename_i hc;cases h;exact ⟨Nat.le_trans he yX,yY,h2,yY,yY,fun hf=>by rw [hf] at hc;cases hc.2⟩
 split at h
 ·rename_i hc;cases h
  refine ⟨Nat.le_trans ho yX,by simp;omega,fun y hy=>?_,yY,yY,fun hf=>by rw [hf] at hc;cases hc.2⟩;rcases List.mem_append.1 hy with hy | hy
  ·exact h2 y hy
  ·rw [List.mem_singleton.1 hy];exact ho
 split at h
 ·rename_i hc;cases h
  refine ⟨?_,by rw [List.length_dropLast];omega,fun y hy=>h2 y (List.dropLast_subset _ hy),yY,yY,fun hf=>by have:=hp hf;rw [this] at hc;simp at hc⟩;refine Nat.le_trans (Y9f _) ?_;cases hl:op.getLast? with
  | none=>rw [List.getLastD_eq_getLast?,hl];decide
  | some y=>
    rw [List.getLastD_eq_getLast?,hl,Option.getD_some];exact Nat.le_trans (h2 y (List.mem_of_getLast? hl)) yX
 ·cases h;exact ⟨ht,yY,h2,yY,yY,fun hf=>⟨Or.inl rfl,hp hf⟩⟩
theorem FGK.step (tags:Bool) (L:List Int) (s:FS) (r:Nat) (h:FGK tags s r):FGK tags (C7 tags L s) (r+1)∧(C7 tags L s).N≤s.N+9:=by
 obtain ⟨f,op,id,N⟩:=s;obtain ⟨h1,h2,h3,h4,h5,h8,h9⟩:=h;simp only at h1 h2 h3 h4 h5 h8 h9;have hl:=X6h L N 3 yX;unfold C7;simp only
 generalize hln:D0 L N 3=ln at hl;obtain ⟨t,M⟩:=ln;simp only at hl ⊢;generalize hx:U8 tags L (X0 L M 8) t op id (M+1)=x;obtain ⟨x,op',id',M'⟩:=x;have ht:t.size≤18:=hl.1;have hM:M≤N+7:=hl.2;obtain ⟨q1,q3,q4,q5,q6,q7⟩:=X5z tags L _ t op id (M+1) r ht h3 h4 h5 (fun hf=>(h9 hf).2) x op' id' M' hx;refine ⟨⟨?_,?_,q3,q4,q5,C9 _,fun hf=>⟨?_,(q7 hf).2⟩⟩,?_⟩
 ·have:=O8 (f++[x]);rw [List.length_append,List.length_singleton] at this;show (Q9 (f++[x])).length≤r+1;omega
 ·show X9 (Q9 (f++[x]))≤18 * (r+1);rw [Q6b,K5,D5];omega
 ·refine Y9t _ fun y hy=>?_;rcases List.mem_append.1 hy with hy | hy
  ·exact (h9 hf).1 y hy
  ·rw [List.mem_singleton.1 hy];exact (q7 hf).1
 ·show M'≤N+9;omega
theorem Q8q (tags:Bool) (L:List Int):∀ i s r,FGK tags s r→FGK tags (G4 tags L i s) (r+i)∧(G4 tags L i s).N≤s.N+9 * i
 | 0,_,_,h=>⟨h,yQ⟩
 | i+1,s,r,h=>by
   obtain ⟨g1,g2⟩:=FGK.step tags L s r h;obtain ⟨g3,g4⟩:=Q8q tags L i _ (r+1) g1;refine ⟨?_,?_⟩
   ·rw [show r+1+i=r+(i+1) by omega] at g3;exact g3
   ·show (G4 tags L i (C7 tags L s)).N≤_;omega
theorem Q7f (tags:Bool) (N:Nat):FGK tags ⟨[],[],0,N⟩ 0:=
 ⟨by simp,by simp [X9],by simp,by simp,by simp,trivial,fun _=>⟨fun x hx=>by simp at hx,rfl⟩⟩
theorem X3h:∀ f:List Tk,X2 f≤X9 f+f.length
 | []=>yQ
 | x::f=>by
   have h2:=X3h f;have e:X9 (x::f)=x.t.size+X9 f:=by
    have:=K5 [x] f;rw [D5] at this;exact this
   rw [X2,List.length_cons,e];have h3:wdI x≤x.t.size+1:=by
    unfold wdI;split<;>omega
   omega
theorem X3o (L:List Int) (N n:Nat) (hn:n≤8):Normal (U3 false L N n).1∧(∀ x∈(U3 false L N n).1,V5 x)∧(U3 false L N n).1.length≤8∧X2 (U3 false L N n).1≤152:=by
 have hb:=X7 L N ((n:Int)+1) yY;obtain ⟨h,_⟩:=Q8q false L (X0 L N ((n:Int)+1)).toNat ⟨[],[],0,N+1⟩ 0 (Q7f false (N+1));have hp:=h.plain rfl;have hl:=h.len;have hc:=h.bytes;have ha:=h.normal;have e:(U3 false L N n).1=(G4 false L (X0 L N ((n:Int)+1)).toNat ⟨[],[],0,N+1⟩).f:=by
  show _++F9 _=_;rw [hp.2];exact List.append_nil _
 rw [e];have:=X3h (G4 false L (X0 L N ((n:Int)+1)).toNat ⟨[],[],0,N+1⟩).f;exact ⟨ha,hp.1,yY,yY⟩
end Go.Proofs.YtfkojnofbpdjdaaGreatDoor
