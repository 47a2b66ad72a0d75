/-
  Contracts and plain laws that this claim leans on, part 4.
-/
import Derived.Test.YtfkojnofbpdjdaaGreatDoorPackK3
import Derived.Tactics2
import Derived.Defers
import Derived.Laws.Pointers
import Derived.Laws.LoneSync
import Derived.RegionTactic
import Derived.RegionCalls
import Derived.Test.YtfkojnofbpdjdaaGreatDoorPackK1
import Derived.Test.YtfkojnofbpdjdaaGreatDoorPackK2
import Derived.Maps.Own
import Derived.Maps.OwnOps
import Derived.Maps.OwnSet
import Derived.Maps.Views
import Derived.Lib.SliceRun
set_option linter.unusedVariables false
set_option linter.unusedSimpArgs false
set_option maxHeartbeats 16000000
set_option maxRecDepth 100000
namespace Go.Proofs.YtfkojnofbpdjdaaGreatDoor
open Go.RowKit
theorem X7u:(Tryz.prog.info? 9).map (fun i=>(i.zero,i.size,i.bytes))=some (some (.string ⟨#[]⟩),1,16):=by kernel_rfl
theorem V7q (w:World):(binOp .eql 89 (.slice none 0 0) (.slice none 0 0)).run Tryz.prog w=.ok (.bool true) w:=by
 kernel_rfl
theorem O2 (w:World) (c:UInt8):(convert 89 9 (.slice (some ⟨w.heap.size,0,none⟩) 1 1)).run Tryz.prog (w.alloc (.cells #[.int .u8 (c.toNat:Int)] 5))=.ok (.string (⟨#[c]⟩:ByteArray)) (w.alloc (.cells #[.int .u8 (c.toNat:Int)] 5)):=
 O6 (base:=w.heap.size) (⟨#[c]⟩:ByteArray) 89 9 Tryz.underlying89 Tryz.underlying5 Tryz.underlying9 ⟨rfl,.inr ⟨w.heap.size,1,_,rfl,yQ,heap_alloc_new w _,yQ,by unfold maxLen;decide,rfl,rfl⟩⟩ rfl yX
theorem X2w:∀ kp:List UInt8,((kp.map fun b=>(⟨#[b]⟩:ByteArray)).flatMap Q8e)=kp.map fun b=>Value.string (⟨#[b]⟩:ByteArray)
 | []=>rfl
 | x::l=>by rw [List.map_cons,List.flatMap_cons,X2w l];rfl
theorem Y2d {w:World} {B:Nat} {v:Value} {kp:List UInt8} {c:UInt8} (h:w.ownsRow B 9 1 v (kp.length+1) ((kp.map fun b=>Value.string (⟨#[b]⟩:ByteArray))++[.string (⟨#[c]⟩:ByteArray)])):OwnE 9 Q8e 1 w B v ((kp++[c]).map fun b=>(⟨#[b]⟩:ByteArray)):=by
 unfold OwnE;rw [X2w,List.length_map,List.length_append,List.map_append];exact h
theorem BsB.grQ {B:Nat} {w w':World} {Q:Nat} {ps:Prs} {ks:List UInt8} {cs:List Value} {tv:Value} (h:BsB B w Q ps ks cs tv) (hg:w.grownBy w' tv.ownBlock):w'.heap[Q]? =some (.cells cs.toArray 239):=(hg.block Q h.lt (fun e=>Y1 h.own h.box yX Q e.symm rfl)).trans h.box
def Y3g (ps:Prs) (w:World) (e:Ending) (w':World):Prop:=
 ∃ Q cs tv,e=.returned (.iface 240 (.pointer (some ⟨Q,0,none⟩)))∧BsB w.heap.size w' Q ps (ps.map (·.1)).reverse cs tv∧Below w.heap.size w w'
theorem Z3z (R:Nat) (ps:Prs) (d0 d1 d2 ov:Value) (w:World) (hbox:w.heap[R]? =some (.cells #[d0,d1,d2,.nilIface,ov] 161)) (hl:RdE Q8e 1 w ov (I0 ps)) (h2:2≤ps.length) (h10:ps.length≤10) (hp:Q5f ps):
 Calls Tryz.prog 119 #[.pointer (some ⟨R,0,none⟩)] w (Y3g ps w):=by
 obtain ⟨RR,hW⟩:∃ RR:Ending→World→Prop,yK (RR=Y3g ps w):=⟨_,rfl⟩;rw [←hW.o];obtain ⟨A,c,rfl,hn,_⟩:=hl.shape;have q4:w.cell? ⟨R,4,none⟩=some (.slice A (2 * ps.length) c):=by
  rw [←Q1i];exact Z8 (l:=[d0,d1,d2,.nilIface,.slice A (I0 ps).length c]) hbox 4 rfl
 rw [Q1i] at hn hl;obtain ⟨b,o,rfl,Hb,ha⟩:=hl.cells (by rw [Q1i];omega);have hT:yK (∀ (j:Nat) (p:UInt8×ByteArray),ps[j]? =some p→w.cell? ⟨b,o+2 * j,none⟩=some (.string (⟨#[p.1]⟩:ByteArray))∧w.cell? ⟨b,o+(2 * j+1),none⟩=some (.string p.2)):=fun j p h=>by
  obtain ⟨hs,rfl⟩:=List.getElem?_eq_some_iff.1 h;obtain ⟨h1,h3⟩:=Y4o ps j hs;have a1:=ha _ _ 0 _ h1 rfl;have a2:=ha _ _ 0 _ h3 rfl;rw [Nat.mul_one,Nat.add_zero] at a1 a2;exact ⟨a1,a2⟩
 have HP:=zW hp;clear hl ha hbox;have Hx:((2 * ps.length:Nat):Int)==2→False:=fun h=>by rw [beq_iff_eq] at h;omega
 have Hd:(((2 * ps.length:Nat):Int)==2)=false:=(by rw [beq_eq_false_iff_ne];omega);have He:¬ ((2 * ps.length:Nat):Int)=2:=yY;clear Hx;generalize hnn:ps.length=n at *;have hx:=zW hnn;clear hnn;obtain ⟨n2,hc⟩:∃ n2,yK (n2=2 * n):=⟨_,rfl⟩;rw [←hc.o] at hn q4 Hd He;have Hy:n2≤20:=(by have:=hc.o;omega);have Hz:4≤n2:=(by have:=hc.o;omega);obtain ⟨wo,hY⟩:∃ wo,yK (wo=w):=⟨w,rfl⟩;go_enter Tryz.func119,Tryz.ntmps119
 go_wp2_with fail
 go_loopg [4,5] n (fun gk av iv wr=>∃ (j:Nat) (bb:Bool),av=.bool bb∧iv=.int .i64 ((2 * j:Nat):Int)∧j≤n∧yK (0 < j→bb=false)∧yK (wr=wo)∧n - j≤gk)
 case atStart=>exact ⟨0,true,rfl,rfl,Nat.zero_le _,(fun h=>absurd h yX),hY.o.symm,yQ⟩
 case round=>
  obtain ⟨j,bb,rfl,rfl,hj,hS,HW,hgk⟩:=hrel;have HC:w=wr:=(HW.o.trans hY.o).symm;subst HC;by_cases hs:j < n
  ·obtain ⟨p,hM⟩:∃ p,ps[j]? =some p:=(by rw [←hx.o] at hs;exact ⟨_,List.getElem?_eq_getElem hs⟩);obtain ⟨q0,q1⟩:=hT.o j p hM;have hN:=(HP.o.1 p (List.mem_of_getElem? hM)).1;clear hM;obtain ⟨pc,pr⟩:=p;simp only at q0 q1 hN;obtain ⟨i2,hb⟩:∃ i2,yK (i2=2 * j):=⟨_,rfl⟩;have hi:(i2:Int) < (n2:Int):=(by have:=hb.o;have:=hc.o;omega);have Ht:(0:Int)≤(i2:Int):=yY;have Hu:(i2:Int)+1 < (n2:Int):=(by have:=hb.o;have:=hc.o;omega);have HJ:((pr.size:Int) != 1)=true:=(by rw [bne_iff_ne];omega);have HA:¬ (pr.size:Int)=1:=yY;have hE:yK ((i2:Int)+2=((2 * (j+1):Nat):Int)):=(by show _=_;have:=hb.o;omega);rw [←hb.o] at q0 q1 ⊢;go_wp2_with fail
   rw [hE.o];go_roundg (n - (j+1))
   case measure=>omega
   case rel=>exact ⟨j+1,false,rfl,rfl,hs,fun _=>rfl,HW.o,yY⟩
  ·obtain rfl:j=n:=yY;have Hp:=hS.o yY;subst Hp;rw [←hc.o];obtain ⟨ti,Hh,Hj,Hi,Hg⟩:=info_parts X7u;have hO:(n2:Int) / 2=(j:Int):=(by have:=hc.o;omega);have Hf:(n2:Int).tdiv 2=(j:Int):=(by rw [Int.tdiv_eq_ediv_of_nonneg yY];exact hO);clear q4 Hd He;go_wp2_with (at_make;go_loud (refine wpList_make_own _ rfl _ _ 79 rfl w.heap.size 9 ti _ 1 Tryz.underlying79 Hh Hj Hi _ _ _ j rfl rfl (by first | rfl | exact hO | exact Hf) (by rw [Hg];omega) (by unfold maxLen;omega) yQ ?_);intro w5 he hr;have hV:=zW he;have hD:=zW hr;clear he hr;go_loud (refine wpList_buildTo rfl 239 _ rfl (some 95) rfl (zB.setIfInBounds 256 (.slice (some ⟨w.heap.size,0,none⟩) 0 j)) (by simp only [List.map_toArray,List.map_cons,List.map_nil];exact V2z (some ⟨w.heap.size,0,none⟩) 0 j) ?_);refine Go.Great.wpList_allocTo rfl (some 11) rfl (.pointer (some ⟨w5.heap.size,0,none⟩)) (.cells zB 239) (V2n rfl) ?_;refine wpList_store_rowTo rfl 239 _ _ rfl rfl w5.heap.size (zB.setIfInBounds 256 (.slice (some ⟨w.heap.size,0,none⟩) 0 j)) rfl rfl 239 zB (heap_alloc_new w5 _) (by rw [Z3v];exact V6g) (by rw [Z3v];unfold zB;rw [Array.size_replicate]) (V8n _ _ _) ?_)
   have hy:=zW (BsB.start hV.o);have hX:=zW ((Below.refl w.heap.size w).grown hD.o yQ (fun k hk=>by cases hk));have hv:=hD.o.size;have hA:=zW ((hX.o.alloc hv (.cells zB 239)).trans ((X6l (w5.alloc (.cells zB 239)) w5.heap.size (zB.setIfInBounds 256 (.slice (some ⟨w.heap.size,0,none⟩) 0 j))).below (fun k hk=>by rw [hk];exact hv) yV));obtain ⟨Q,hQ⟩:∃ Q,yK (Q=w5.heap.size):=⟨_,rfl⟩;rw [←hQ.o] at hy hA hv ⊢;generalize (w5.alloc (.cells zB 239)).setRow Q (zB.setIfInBounds 256 (.slice (some ⟨w.heap.size,0,none⟩) 0 j))=w6 at hy hA ⊢;rw [show (n2:Int) - 2=2 * (j:Int) - 2 by have:=hc.o;omega];clear hV hD hX hO Hf Hh Hj Hi Hg hQ hS HW hgk hj;go_loopg [12] (j+1) (fun gk iv wz=>∃ (q:Nat) (cs:List Value) (tv:Value),iv=.int .i64 (2 * (q:Int) - 2)∧q≤j∧yK (BsB w.heap.size wz Q (ps.drop q) (((ps.drop q).map (·.1)).reverse) cs tv)∧yK (Below w.heap.size w wz)∧q≤gk)
   case atStart=>
    have Hm:yK (BsB w.heap.size w6 Q (ps.drop j) (((ps.drop j).map (·.1)).reverse) (zB.setIfInBounds 256 (.slice (some ⟨w.heap.size,0,none⟩) 0 j)).toList (.slice (some ⟨w.heap.size,0,none⟩) 0 j)):=by
     show BsB _ _ _ _ _ _ _;rw [List.drop_eq_nil_of_le (by rw [hx.o];exact yQ)];exact hy.o
    exact ⟨j,_,_,rfl,yQ,Hm.o,hA.o,Nat.le_succ _⟩
   case round=>
    clear hy hA;obtain ⟨q,cs,tv,rfl,hq,HS,HW,hgk⟩:=hrel;cases q with
    | zero=>
      rw [List.drop_zero] at HS;have Hw:(2 * ((0:Nat):Int) - 2)=-2:=yX;rw [Hw];go_wp2_with fail
      first | go_ret | skip
      rw [hW.o];exact ⟨Q,cs,tv,rfl,HS.o,HW.o⟩
    | succ q=>
      obtain ⟨I2,hb⟩:∃ I2,yK (I2=2 * q):=⟨_,rfl⟩;rw [show 2 * ((q+1:Nat):Int) - 2=((2 * q:Nat):Int) by omega,←hb.o];have hP:q < ps.length:=(by rw [hx.o];omega);obtain ⟨p,ht⟩:∃ p,ps[q]? =some p:=⟨_,List.getElem?_eq_getElem hP⟩;have hI:ps.drop q=p::ps.drop (q+1):=by
       rw [List.drop_eq_getElem_cons hP];congr 1;rw [List.getElem?_eq_getElem hP] at ht;exact Option.some.inj ht
      obtain ⟨p0,p1⟩:=hT.o q p ht;have hJ:=HP.o.2;have hL:lk (ps.drop (q+1)) p.1=none:=by
       refine Z2m _ _ fun hm=>?_;rw [←List.take_append_drop q ps,List.map_append,hI,List.map_cons] at hJ;exact (List.nodup_cons.1 (List.nodup_append.1 hJ).2.1).1 hm
      have hN:=HP.o.1 p (List.mem_of_getElem? ht);have hU:=zW hI;clear hI hJ ht;obtain ⟨pc,pr⟩:=p;simp only at p0 p1 hL hN;have q0:=(HW.o.cell (p:=⟨b,o+2 * q,none⟩) Hb).trans p0;have q1:=(HW.o.cell (p:=⟨b,o+(2 * q+1),none⟩) Hb).trans p1;rw [←hb.o] at q0 q1;have hi:(I2:Int) < (n2:Int):=(by have:=hb.o;have:=hc.o;omega);have Ht:(0:Int)≤(I2:Int):=yY;have Hu:(I2:Int)+1 < (n2:Int):=(by have:=hb.o;have:=hc.o;omega);have HG:∀ (z:UInt8) h,((⟨#[z]⟩:ByteArray)[0]'h).toNat=z.toNat:=fun _ _=>rfl;have hZ:=UInt8.toNat_lt pc;have ha:wr.cell? ⟨Q,pc.toNat,none⟩=some (.slice none 0 0):=by
       rcases HS.o.bsIn.cell pc with ⟨_,h⟩ | ⟨r,_,_,h,_⟩
       ·exact h
       ·rw [hL] at h;cases h
      obtain ⟨kp,hF⟩:∃ kp,yK (kp=((ps.drop (q+1)).map (·.1)).reverse):=⟨_,rfl⟩;rw [←hF.o] at HS;have HI:kp.length≤10:=by
       rw [hF.o,List.length_reverse,List.length_map,List.length_drop,hx.o];omega
      obtain ⟨A',c',Hk⟩:=Q0 HS.o.own;rw [List.length_map] at Hk;subst Hk;have HB:=Z8 HS.o.box 256 HS.o.tov;have hG:yK (wr.ownsRow w.heap.size 9 1 (.slice A' kp.length c') kp.length (kp.map fun b=>Value.string (⟨#[b]⟩:ByteArray))):=by
       have h:=HS.o.own;unfold OwnE at h;rw [List.length_map] at h;rw [X2w] at h;exact h
      clear p0 p1;have hK:=V7q wr;go_upto_region 33 with fail
      have Hq:=O2 wr pc;have hz:=zW ((HS.o.below ((Below.refl _ wr).alloc yQ (.cells #[.int .u8 (pc.toNat:Int)] 5))).below ((Below.refl _ _).alloc yQ (.cells #[.string (⟨#[pc]⟩:ByteArray)] 9)));have HE:=HW.o.size;go_upto_region 34 with (at_builtin;go_loud (refine Z5 rfl (.tmp 119) (.tmp 123) 79 9 rfl Tryz.underlying79 _ 1 16 X7u rfl yX w.heap.size _ kp.length _ rfl (by exact (hG.o.alloc _).alloc _) ⟨wr.heap.size+1,0,none⟩ 1 [.string (⟨#[pc]⟩:ByteArray)] rfl rfl (by exact O1 _ _ yW _ _) (by intro u hu;rw [List.mem_singleton.1 hu];rfl) yY yX yV ?_);intro g8 cap8 w8 hf HH hh hd;have hw:=zW (hz.o.push (Y2d hf) hd);have y0:=hz.o.grQ hd;have z1:=Z8 y0 256 hz.o.tov;have y1:=Y9 y0 256;have hg:=zW (Below.setCell (p:=⟨Q,256,none⟩) (Below.grown ((HW.o.alloc HE (.cells #[.int .u8 (pc.toNat:Int)] 5)).alloc yV (.cells #[.string (⟨#[pc]⟩:ByteArray)] 9)) hd yV (fun k hk=>(hG.o.lt k hk).1)) hv (.slice (some ⟨g8,0,none⟩) (kp.length+1) cap8));clear y0 hh hf hd)
      obtain ⟨tv8,hR⟩:∃ tv8,yK (tv8=Value.slice (some ⟨g8,0,none⟩) (kp.length+1) cap8):=⟨_,rfl⟩;rw [←hR.o] at hw hg ⊢;clear y1 z1 hz hG HS ha HB q0 q1 Hq hK HW;generalize w8.setCell ⟨Q,256,none⟩ tv8=w9 at hw hg ⊢;have ho:=run_bytes_of_string (P:=Tryz.prog) w9 9 89 5 pr Tryz.underlying9 Tryz.underlying89 Tryz.underlying5;have hC:=zW (Y8g w9 pr (grownCap_ge w9 pr.size 0 5));have HD:=hg.o.size;generalize grownCap w9 pr.size 0 5=gc at ho hC;obtain ⟨Ob,Ho⟩:∃ Ob,yK (Ob=Obj.cells (bytesRow pr gc) 5 ((bytesRow pr gc).size,(bytesRow pr gc).size+1)):=⟨_,rfl⟩;rw [←Ho.o] at ho hC;have Ha:=((Below.refl w9.heap.size w9).drew).alloc (by exact yQ) Ob;have hB:=zW (hw.o.below Ha);have Hn:=zW ((hg.o.drew).alloc (by exact HD) Ob);have ha:(w9.drew.alloc Ob).cell? ⟨Q,pc.toNat,none⟩=some (.slice none 0 0):=by
       rcases hB.o.bsIn.cell pc with ⟨_,h⟩ | ⟨r,_,_,h,_⟩
       ·exact h
       ·rw [hL] at h;cases h
      have Hr:=Y9 hB.o.box pc.toNat;have HK:w9.drew.heap.size=w9.heap.size:=rfl;clear Ha hw hg;have hH:(w9.alloc Ob).cell? ⟨Q,pc.toNat,none⟩=some (.slice none 0 0):=ha;have Hs:(w9.alloc Ob).frozen? ⟨Q,pc.toNat,none⟩=false:=Hr;have Hc:(I2:Int) - 2=2 * (q:Int) - 2:=(by have:=hb.o;omega);have Hl:=zW Hc;clear Hc;go_wp2_with fail
      rw [Hl.o];go_roundg q
      case measure=>omega
      case rel=>
       have HF:=hB.o.put pc pr _ hC.o;rw [←hU.o] at HF;have Hv:kp++[pc]=((ps.drop q).map (·.1)).reverse:=by
        rw [hU.o,List.map_cons,List.reverse_cons,←hF.o]
       rw [Hv] at HF;exact ⟨q,_,_,rfl,yY,HF,Hn.o.setCell (p:=⟨Q,pc.toNat,none⟩) hv _,yQ⟩
theorem X0n (w:World):(callFunc 204 #[]).run Tryz.prog w=.ok (.value (.tuple #[])) w:=run_call_mark0 Tryz.func204 yZ yZ yZ .disable yZ w
theorem X3t (w:World):(callFunc 206 #[]).run Tryz.prog w=.ok (.value (.tuple #[])) w:=run_call_mark0 Tryz.func206 yZ yZ yZ .enable yZ w
theorem Y2c (a:Addr) (w:World):(callFunc 207 #[.pointer (some a)]).run Tryz.prog w=.ok (.value (.tuple #[])) w:=run_call_marked Tryz.func207 yZ yZ yZ .acquire yZ a w
theorem X0o (a:Addr) (w:World):(callFunc 209 #[.pointer (some a)]).run Tryz.prog w=.ok (.value (.tuple #[])) w:=run_call_marked Tryz.func209 yZ yZ yZ .releaseMerge yZ a w
theorem Y9k (a:Addr) (x:Value) (u:FrameMode) (w:World) (hc:w.cell? a=some x) (hz:w.frozen? a=false):
 CallsD Tryz.prog 160 #[.pointer (some a),.bool true] u w fun e u' w'=>u'=u∧(e=.returned (.tuple #[])∧w'=w.drew.setCell a (.int .u32 1)):=by
 have hc':w.drew.cell? a=some x:=yU;have hz':w.drew.frozen? a=false:=yU;have ha:=run_call_store (P:=Tryz.prog) Tryz.func183 yZ yZ yZ yZ (k:=.u32) (y:=1) hc' hz';go_enter_d Tryz.func160,Tryz.ntmps160
 go_wp2
 go_region_calls
 all_goals (go_end0;exact ⟨rfl,rfl⟩)
theorem Y5v (a:Addr) (u:FrameMode) (w:World) (hc:w.cell? a=some (.int .i32 1)) (hz:w.frozen? a=false):
 CallsD Tryz.prog 159 #[.pointer (some a)] u w fun e u' w'=>u'=u∧(e=.returned (.tuple #[])∧w'=w.setCell a (.int .i32 0)):=by
 have hd:=X0n;have he:=X3t;have hr:=X0o;have ha:=run_call_add (P:=Tryz.prog) Tryz.func210 yZ yZ yZ .i32 yZ (y:=-1) (s:=0) hc hz (by simp [go_sem];rfl);have hb:=run_convert_to_unsafe (P:=Tryz.prog) (src:=281) (dst:=203) Tryz.underlying281 Tryz.underlying203 yZ hc;go_enter_d Tryz.func159,Tryz.ntmps159
 go_wp2
 go_end0
 go_wp2
 go_end0
 exact ⟨rfl,rfl⟩
theorem Z5t (a:Addr) (w:World) (hc:w.cell? a=some (.int .i32 0)) (hz:w.frozen? a=false):
 Calls Tryz.prog 158 #[.pointer (some a)] w fun e w'=>e=.returned (.tuple #[])∧w'=w.setCell a (.int .i32 1):=by
 have hd:=X0n;have he:=X3t;have ha:=Y2c;have hb:=run_call_cas_hit (P:=Tryz.prog) Tryz.func205 yZ yZ yZ .i32 yZ (y:=1) hc hz;have hc':(w.setCell a (.int .i32 1)).cell? a=some (.int .i32 1):=World.cell?_setCell_same w a _ hc;have hf:=run_convert_to_unsafe (P:=Tryz.prog) (src:=281) (dst:=203) Tryz.underlying281 Tryz.underlying203 yZ hc';go_enter Tryz.func158,Tryz.ntmps158
 go_wp2
 first | go_end0 | (simp only [Exit.inBlock,Exit.then];refine bodyPost_ret (results_none rfl _ _ _) rfl ?_) | refine bodyPost_ret (results_none rfl _ _ _) rfl ?_
 go_wp2
 go_end0
 exact ⟨rfl,rfl⟩
theorem BsB.mod {B R:Nat} {w w':World} {Q:Nat} {ps:Prs} {ks:List UInt8} {cs:List Value} {tv:Value} (h:BsB B w Q ps ks cs tv) (hm:Mod (fun k=>k=R) w w') (hR:R < B) {c:Array Value} (hr:w.heap[R]? =some (.cells c 161)):BsB B w' Q ps ks cs tv:=by
 refine ⟨(hm.block Q h.lt fun e=>?_).trans h.box,h.len,fun b=>?_,h.tov,hm.own h.own fun k hk e=>by have:=(h.own.lt k hk).1;omega⟩
 ·have:=h.box;rw [show Q=R from e,hr] at this;injection this with this;injection this with _ e2 _;revert e2
  decide
 ·obtain ⟨v,h1,h2,h3⟩:=h.at_ b;refine ⟨v,h1,h2,fun r hx=>(h3 r hx).keep fun g cur fr hg=>hm.block g (Array.getElem?_eq_some_iff.1 hg).1 fun e=>?_⟩;rw [show g=R from e,hr] at hg;injection hg with hg;injection hg with _ e2 _;revert e2
  decide
theorem V0h {B R:Nat} {w w':World} {v:Value} {l:List ByteArray} (h:OwnE 9 Q8e 1 w B v l) (hm:Mod (fun k=>k=R) w w') {c:Array Value} (hr:w.heap[R]? =some (.cells c 161)):OwnE 9 Q8e 1 w' B v l:=
 hm.own h fun k hk e=>Y1 h hr yX k hk e
def rpC (d0 d1 z x ov:Value):Obj:=.cells #[d0,d1,z,x,ov] 161
def ifB (Q:Nat):Value:=.iface 240 (.pointer (some ⟨Q,0,none⟩))
def RpB (w:World) (R:Nat) (ps:Prs) (d0 d1:Value):Prop:=∃ z Q cs tv B,R < B∧w.heap[R]? =some (rpC d0 d1 z (ifB Q) (.slice none 0 0))∧BsB B w Q ps (ps.map (·.1)).reverse cs tv
def RpF (w:World) (R:Nat) (ps:Prs) (d0 d1:Value):Prop:=∃ z ov B,w.heap[R]? =some (rpC d0 d1 z .nilIface ov)∧OwnE 9 Q8e 1 w B ov (I0 ps)
def RpIn (w:World) (R:Nat) (ps:Prs):Prop:=RpF w R ps (.int .u32 0) (.int .i32 0)∨RpB w R ps (.int .u32 1) (.int .i32 0)
theorem RpF.lt {w:World} {R:Nat} {ps:Prs} {d0 d1:Value} (h:RpF w R ps d0 d1):R < w.heap.size:=by
 obtain ⟨_,_,_,h,_⟩:=h;exact (Array.getElem?_eq_some_iff.1 h).1
theorem RpB.lt {w:World} {R:Nat} {ps:Prs} {d0 d1:Value} (h:RpB w R ps d0 d1):R < w.heap.size:=by
 obtain ⟨_,_,_,_,_,_,h,_⟩:=h;exact (Array.getElem?_eq_some_iff.1 h).1
theorem RpF.below {w w':World} {R:Nat} {ps:Prs} {d0 d1:Value} (h:RpF w R ps d0 d1) (hb:Below w.heap.size w w'):RpF w' R ps d0 d1:=by
 have hl:=h.lt;obtain ⟨z,ov,B,h1,h2⟩:=h;exact ⟨z,ov,B,(hb.block R hl).trans h1,(Mod.of_below hb).own h2 fun _ _ hf=>hf⟩
theorem RpB.below {w w':World} {R:Nat} {ps:Prs} {d0 d1:Value} (h:RpB w R ps d0 d1) (hb:Below w.heap.size w w'):RpB w' R ps d0 d1:=by
 have hl:=h.lt;obtain ⟨z,Q,cs,tv,B,h0,h1,h2⟩:=h;exact ⟨z,Q,cs,tv,B,h0,(hb.block R hl).trans h1,h2.below hb⟩
theorem RpIn.below {w w':World} {R:Nat} {ps:Prs} (h:RpIn w R ps) (hb:Below w.heap.size w w'):RpIn w' R ps:=h.imp (fun h=>h.below hb) (fun h=>h.below hb)
theorem RpF.set {w:World} {R:Nat} {ps:Prs} {d0 d1:Value} (h:RpF w R ps d0 d1) (v:Value):RpF (w.setCell ⟨R,1,none⟩ v) R ps d0 v:=by
 obtain ⟨z,ov,B,h1,h2⟩:=h;exact ⟨z,ov,B,by rw [K1 h1];rfl,V0h h2 (Mod.set w R 1 v) h1⟩
theorem RpB.set0 {w:World} {R:Nat} {ps:Prs} {d0 d1:Value} (h:RpB w R ps d0 d1) (v:Value):RpB (w.setCell ⟨R,0,none⟩ v) R ps v d1:=by
 obtain ⟨z,Q,cs,tv,B,h0,h1,h2⟩:=h;exact ⟨z,Q,cs,tv,B,h0,by rw [K1 h1];rfl,h2.mod (Mod.set w R 0 v) h0 h1⟩
theorem RpB.set1 {w:World} {R:Nat} {ps:Prs} {d0 d1:Value} (h:RpB w R ps d0 d1) (v:Value):RpB (w.setCell ⟨R,1,none⟩ v) R ps d0 v:=by
 obtain ⟨z,Q,cs,tv,B,h0,h1,h2⟩:=h;exact ⟨z,Q,cs,tv,B,h0,by rw [K1 h1];rfl,h2.mod (Mod.set w R 1 v) h0 h1⟩
theorem X8k (R:Nat) (ps:Prs) (d0 d1:Value) (w:World) (h:RpF w R ps d0 d1) (h2:2≤ps.length) (h10:ps.length≤10) (hp:Q5f ps):
 Calls Tryz.prog 79 #[.pointer (some ⟨R,0,none⟩)] w (fun e w'=>e=.returned (.tuple #[])∧RpB w' R ps d0 d1∧Mod (fun k=>k=R) w w'):=by
 have hl:=h.lt;obtain ⟨z,ov,B,h1,ho⟩:=h;have HC:=zW (Z3z R ps d0 d1 z ov w h1 (OwnE.rd (fun _=>rfl) ho) h2 h10 hp);have H1:=zW h1;clear h1 ho h2 h10 hp;go_enter Tryz.func79,Tryz.ntmps79
 go_wp2_with fail
 refine (HC.o).mono ?_;rintro e w1 ⟨Q,cs,tv,rfl,hbs,hw1⟩;have he:=zW hbs;have hg:=zW hw1;have ha:yK (w1.heap[R]? =some (.cells [d0,d1,z,.nilIface,ov].toArray 161)):=(hw1.block R hl).trans H1.o;have q3:=Z8 ha.o 3 rfl;have f3:=Y9 ha.o 3;have hb:yK ((w1.setCell ⟨R,3,none⟩ (ifB Q)).heap[R]? =some (.cells [d0,d1,z,ifB Q,ov].toArray 161)):=by
  show _=_;rw [K1 ha.o];rfl
 have q4:=Z8 hb.o 4 rfl;have f4:=Y9 hb.o 4;unfold ifB at q4 f4;clear hbs hw1;go_wp2_with fail
 refine bodyPost_end (results_none rfl _ _ _) rfl ?_;have hc:=Mod.set w1 R 3 (ifB Q);have hd:=Mod.set (w1.setCell ⟨R,3,none⟩ (ifB Q)) R 4 (.slice none 0 0);refine ⟨rfl,⟨z,Q,cs,tv,w.heap.size,hl,?_,?_⟩,?_⟩
 ·show ((w1.setCell ⟨R,3,none⟩ (ifB Q)).setCell ⟨R,4,none⟩ (.slice none 0 0)).heap[R]? =_;rw [K1 hb.o];rfl
 ·exact (he.o.mod hc hl ha.o).mod hd hl hb.o
 ·exact (((Mod.of_below hg.o).weak (T:=fun k=>k=R) fun _ hf _=>hf.elim).trans hc fun i hi _=>hi).trans hd fun i hi _=>hi
theorem Z5u (R:Nat) (ps:Prs) (w:World) (h:RpF w R ps (.int .u32 0) (.int .i32 0)) (h2:2≤ps.length) (h10:ps.length≤10) (hp:Q5f ps):
 Calls Tryz.prog 118 #[.pointer (some ⟨R,0,none⟩),.func (.func 79) #[.pointer (some ⟨R,0,none⟩)] #[]] w fun e w'=>e=.returned (.tuple #[])∧RpB w' R ps (.int .u32 1) (.int .i32 0)∧Mod (fun k=>k=R) w w':=by
 have hg:=Mod.set w R 1 (.int .i32 1);have he:=h.set (.int .i32 1);have HC:=zW (X8k R ps (.int .u32 0) (.int .i32 1) _ he h2 h10 hp);obtain ⟨z1,ov1,B1,hj,_⟩:=he;obtain ⟨z,ov,B,hr,ho⟩:=h;have c0:=Z8 (l:=[.int .u32 0,.int .i32 1,z1,.nilIface,ov1]) hj 0 rfl;have k1:=Z8 (l:=[.int .u32 0,.int .i32 0,z,.nilIface,ov]) hr 1 rfl;have f1:=Y9 hr 1;have hl:=run_call_load (P:=Tryz.prog) Tryz.func157 yZ yZ yZ .u32 yZ (w:=w.setCell ⟨R,1,none⟩ (.int .i32 1)) (a:=⟨R,0,none⟩) (x:=0) c0;have ht:∀ (x:Bool) (w:World),(Op.unary .not (.bool x)).run Tryz.prog w=.ok (.bool (!x)) w:=fun _ _=>rfl;have hn:=zW hg;clear hg hr hj ho;go_enter_defers Tryz.func118,Tryz.ntmps118
 go_wp2_with (first
  | (go_at_call 158;refine (Z5t ⟨R,1,none⟩ _ k1 f1).mono ?_;rintro e w' ⟨rfl,rfl⟩)
  | (go_at_call 117;go_in)
  | (go_at_call 79;refine (HC.o).mono ?_;rintro e w2 ⟨rfl,hf,hh⟩;have hd:=zW hf;have hq:=zW hh;clear hf hh))
 have hb:=hd.o;obtain ⟨z2,Q,cs,tv,B2,hu,hk,hv⟩:=hb;have e0:=Z8 (l:=[.int .u32 0,.int .i32 1,z2,ifB Q,.slice none 0 0]) hk 0 rfl;have g0:=Y9 hk 0;have HS:=zW ((hd.o.below ((Below.refl _ w2).drew)).set0 (.int .u32 1));have hs:=HS.o;obtain ⟨z3,Q3,cs3,tv3,B3,_,hm,_⟩:=hs;have e1:=Z8 (l:=[.int .u32 1,.int .i32 1,z3,ifB Q3,.slice none 0 0]) hm 1 rfl;have g1:=Y9 hm 1;refine leaves_cons (f:=160) (args:=#[.pointer (some ⟨R,0,none⟩),.bool true]) yW (by simp [go_sem]) ?_;refine (Y9k ⟨R,0,none⟩ _ .returning _ e0 g0).mono ?_;rintro e u' w'' ⟨rfl,rfl,rfl⟩;refine leaves_cons (f:=159) (args:=#[.pointer (some ⟨R,1,none⟩)]) (by simp [settle]) (by simp [go_sem]) ?_;refine (Y5v ⟨R,1,none⟩ _ _ (by exact e1) (by exact g1)).mono ?_;rintro e u' w'' ⟨rfl,rfl,rfl⟩;have ha:RpB ((w2.drew.setCell ⟨R,0,none⟩ (.int .u32 1)).setCell ⟨R,1,none⟩ (.int .i32 0)) R ps (.int .u32 1) (.int .i32 0):=HS.o.set1 (.int .i32 0);have hc:Mod (fun k=>k=R) w ((w2.drew.setCell ⟨R,0,none⟩ (.int .u32 1)).setCell ⟨R,1,none⟩ (.int .i32 0)):=
  ((((hn.o.trans hq.o fun i hi _=>hi).drew).trans (Mod.set w2.drew R 0 (.int .u32 1)) fun i hi _=>hi).trans (Mod.set _ R 1 (.int .i32 0)) fun i hi _=>hi)
 simp [Leaves,settle,results,Tryz.results118];exact ⟨ha,hc⟩
theorem V4m (R:Nat) (ps:Prs) (w:World) (h:RpIn w R ps) (h2:2≤ps.length) (h10:ps.length≤10) (hp:Q5f ps):
 Calls Tryz.prog 78 #[.pointer (some ⟨R,0,none⟩),.func (.func 79) #[.pointer (some ⟨R,0,none⟩)] #[]] w fun e w'=>e=.returned (.tuple #[])∧RpB w' R ps (.int .u32 1) (.int .i32 0)∧Mod (fun k=>k=R) w w':=by
 have he:∀ (x:Bool) (w:World),(Op.unary .not (.bool x)).run Tryz.prog w=.ok (.bool (!x)) w:=fun _ _=>rfl;rcases h with h | h
 ·have HC:=zW (Z5u R ps w h h2 h10 hp);obtain ⟨z,ov,B,hr,_⟩:=h;have c0:=Z8 (l:=[.int .u32 0,.int .i32 0,z,.nilIface,ov]) hr 0 rfl;have hl:=run_call_load (P:=Tryz.prog) Tryz.func157 yZ yZ yZ .u32 yZ (w:=w) (a:=⟨R,0,none⟩) (x:=0) c0;clear hr;go_enter Tryz.func78,Tryz.ntmps78
  go_wp2_with (first
   | (go_at_call 117;go_in)
   | (go_at_call 118;refine (HC.o).mono ?_;rintro e w2 ⟨rfl,ha,hb⟩;have hc:=zW ha;have hd:=zW hb;clear ha hb))
  go_end0
  exact ⟨rfl,hc.o,hd.o⟩
 ·have H:=zW h;obtain ⟨z,Q,cs,tv,B,_,hr,_⟩:=h;have c0:=Z8 (l:=[.int .u32 1,.int .i32 0,z,ifB Q,.slice none 0 0]) hr 0 rfl;have hl:=run_call_load (P:=Tryz.prog) Tryz.func157 yZ yZ yZ .u32 yZ (w:=w) (a:=⟨R,0,none⟩) (x:=1) c0;clear hr;go_enter Tryz.func78,Tryz.ntmps78
  go_wp2_with (go_at_call 117;go_in)
  go_end0
  exact ⟨rfl,H.o,Mod.refl _ _⟩
theorem Q6o (R:Nat) (ps:Prs) (s:ByteArray) (w:World) (h:RpIn w R ps) (h2:2≤ps.length) (h10:ps.length≤10) (hp:Q5f ps) (hs:s.size≤100000):
 Calls Tryz.prog 39 #[.pointer (some ⟨R,0,none⟩),.string s] w fun e w'=>e=.returned (.string (ofL (G0 ps s.data.toList)))∧RpIn w' R ps∧Mod (fun k=>k=R) w w':=by
 have HC:=zW (V4m R ps w h h2 h10 hp);have hj:∀ (fn:Fn) (first cap:Array Value) (w:World),(Instr.makeFunc fn first cap).run Tryz.prog w=.ok (.func fn first cap) w:=fun _ _ _ _=>rfl;have HP:=zW hp;clear h hp;go_enter Tryz.func39,Tryz.ntmps39
 go_wp2_with fail
 refine (HC.o).mono ?_;rintro e w1 ⟨rfl,hb1,hm1⟩;have he:=zW hb1;have hg:=zW hm1;obtain ⟨z,Q,cs,tv,B,hh,hr,hd⟩:=hb1;have q3:=Z8 (l:=[.int .u32 1,.int .i32 0,z,ifB Q,.slice none 0 0]) hr 3 rfl;unfold ifB at q3;have HR:=zW (X8j Q ps _ cs tv s w1 hd.bsIn HP.o (List.pairwise_reverse.2 (HP.o.2.imp fun h=>Ne.symm h)) (fun c=>by
  rw [List.mem_reverse];constructor
  ·intro hm hn;obtain ⟨r,hr⟩:=Z2n ps c hm;rw [hr] at hn;cases hn
  ·intro hn;cases hk:lk ps c with
   | none=>exact absurd hk hn
   | some r=>exact List.mem_map.2 ⟨_,Q6a ps c r hk,rfl⟩) (by rw [List.length_reverse,List.length_map];exact h10) hs)
 clear hr hd hm1;obtain ⟨res,ha⟩:∃ res,yK (res=ofL (G0 ps s.data.toList)):=⟨_,rfl⟩;rw [←ha.o] at HR;have hl : ∀ w : World, (method 444 240 (.pointer (some ⟨Q, 0, none⟩)) "Replace").run Tryz.prog w = .ok (266, .pointer (some ⟨Q, 0, none⟩)) w := fun _ =>yZ
 go_wp2_with (go_at_call 266;refine (HR.o).mono ?_;rintro e w2 ⟨rfl,hc⟩;have hb:=zW hc;clear hc)
 go_ret
 exact ⟨by rw [ha.o];rfl,.inr (he.o.below hb.o),hg.o.trans ((Mod.of_below hb.o).weak (T:=fun k=>k=R) fun _ hf _=>hf.elim) fun i hi _=>hi⟩
def V6s (ps:Prs) (w:World) (e:Ending) (w':World):Prop:=∃ R,e=.returned (.pointer (some ⟨R,0,none⟩))∧w.heap.size≤R∧RpIn w' R ps∧Below w.heap.size w w'
theorem Q1a (ps:Prs) (v:Value) (w:World) (h:RdE Q8e 1 w v (I0 ps)) (h10:ps.length≤10) (h1:1≤ps.length):
 Calls Tryz.prog 38 #[v] w (V6s ps w):=by
 obtain ⟨A,c,rfl,hi,_⟩:=h.shape;have hj:(((I0 ps).length:Int)) % 2=0:=(by rw [Q1i];omega);have hk:(((I0 ps).length:Int)).tmod 2=0:=(by rw [Int.tmod_eq_emod_of_nonneg yY];exact hj);have hl:(I0 ps).length≤20:=(by rw [Q1i];omega);have H:=zW h;clear h;generalize hn:(I0 ps).length=n at *;have HN:=zW hn;clear hn;go_enter Tryz.func38,Tryz.ntmps38
 have hc:yK (w.ownsRow w.heap.size 9 1 (.slice none 0 0) ([]:List ByteArray).length (([]:List ByteArray).flatMap Q8e)):=World.ownsRow_nil _ _ _ _;go_wp2_with (at_builtin;refine V1 rfl (.const (.slice none 0 0)) (.tmp 8) 79 9 rfl Tryz.underlying79 _ Q8e 1 16 X7u rfl yX (fun _=>rfl) (fun x u hu=>by rw [List.mem_singleton.1 hu];rfl) w.heap.size (.slice none 0 0) [] rfl hc.o (.slice A n c) (I0 ps) rfl H.o (by rw [HN.o];simp;omega) yX yQ ?_;intro v5 w5 ha hb hd;obtain ⟨A5,c5,hf⟩:=Q0 ha;rw [List.nil_append,HN.o] at hf;subst hf;have hh:=zW ha;have he:=zW (hb w.heap.size w yQ (Below.refl _ _));clear ha hb hd)
 have hg:=he.o.size;have HL:=zW (he.o.alloc hg (rpC (.int .u32 0) (.int .i32 0) (.int .u32 0) .nilIface (.slice A5 n c5)));go_ret
 exact ⟨w5.heap.size,rfl,hg,.inl ⟨_,_,w.heap.size,heap_alloc_new w5 _,World.ownsRow.alloc hh.o _⟩,HL.o⟩
end Go.Proofs.YtfkojnofbpdjdaaGreatDoor
namespace Go.Proofs.YtfkojnofbpdjdaaGreatDoor
theorem Q1g (a b:List UInt8):ofL a++ofL b=ofL (a++b):=by
 apply ByteArray.ext;apply Array.toList_inj.1;simp [ofL]
theorem Q9x (fmt:Int) (c:UInt8):(F5 fmt c).length≤5:=by
 unfold F5;repeat' split
 all_goals simp
theorem Q5p (fmt:Int):∀ l:List UInt8,(l.flatMap (F5 fmt)).length≤5 * l.length
 | []=>yQ
 | c::l=>by
   have h1:=Q9x fmt c;have h2:=Q5p fmt l;rw [List.flatMap_cons,List.length_append,List.length_cons];omega
theorem Q1w (fmt:Int) (x:Tk):(V3 fmt x).length≤5 * x.t.size+3:=by
 have h:=Q5p fmt x.t.data.toList;rw [←Lib.size_eq] at h;have hs:=Lib.size_eq x.t;unfold V3;split
 ·omega
 ·split
  ·rw [List.length_append,List.length_cons,←hs];simp;omega
  ·split
   ·rw [List.length_append,List.length_cons,List.length_cons,←hs];simp;omega
   ·split
    ·rw [List.length_append,List.length_cons,←hs];simp;omega
    ·rw [List.length_append,List.length_cons,←hs];simp;omega
theorem V6f (x:Tk) (h:WfI x) (h1:x.k=1→x.t.size≤1024):x.t.size≤1024:=by
 have hs:=Lib.size_eq x.t;have nm:V8 x.t.data.toList=true→x.t.size≤1024:=fun hn=>by
  obtain ⟨c,r,e,_,hl,_⟩:=C8 _ hn;rw [hs,e,List.length_cons];omega
 have ct:N5 x.t.data.toList=true→x.t.size≤1024:=fun hc=>by
  have:=(U7 _ hc).1;omega
 rcases h with h | ⟨_,h,_⟩ | ⟨_,h,_⟩ | ⟨_,h,_⟩
 ·exact h1 h
 ·exact nm h
 ·exact ct h
 ·exact nm h
theorem Z9v (f:List Tk) (x:Tk) (h:x∈f) (hk:x.k=1):x.t.size≤X2 f:=by
 induction f with
 | nil=>simp at h
 | cons y f ih=>
   show _≤wdI y+X2 f;rcases List.mem_cons.1 h with rfl | h
   ·unfold wdI;rw [if_pos hk];omega
   ·have:=ih h;omega
theorem X1p (f:List Tk) (h:ValF f):∀ x∈f,x.t.size≤1024:=fun x hx=>V6f x (h.wf x hx) fun hk=>Nat.le_trans (Z9v f x hx hk) h.pos
theorem Q7b (fmt:Int) (f:List Tk) (i:Nat) (h:i < f.length):J5 fmt (f.take (i+1))=J5 fmt (f.take i)++V3 fmt f[i]:=by
 rw [List.take_succ_eq_append_getElem h,Y4d];simp [J5]
theorem Q7u (ps:Prs) (fmt:Int) (h:∀ c,Q6n ps c=F5 fmt c) (l:List UInt8):G0 ps l=l.flatMap (F5 fmt):=by
 unfold G0;congr 1;funext c;exact h c
end Go.Proofs.YtfkojnofbpdjdaaGreatDoor
namespace Go.Proofs.YtfkojnofbpdjdaaGreatDoor
open Go.RowKit
theorem Y2j (l:List ByteArray) (w:World) (t:TypeId):RdE Q8e 1 (w.alloc (.cells (l.map Value.string).toArray t)) (.slice (some ⟨w.heap.size,0,none⟩) l.length l.length) l:=by
 refine ⟨some ⟨w.heap.size,0,none⟩,l.length,rfl,yQ,(fun h=>by cases h),fun _=>⟨w.heap.size,0,rfl,by simp,fun i x j u hi hj=>?_⟩⟩;have ha:j=0:=by
  have:=(List.getElem?_eq_some_iff.1 hj).1;simpa [Q8e] using this
 subst ha;have hu:u=.string x:=by
  injection hj with hj;exact hj.symm
 subst hu;exact Z8 (heap_alloc_new w _) _ (by rw [List.getElem?_map];simp [hi])
theorem Y2s (f:List Tk) (v:Value) (m:Int) (w:World) (hm:w.cell? ⟨0,0,none⟩=some (.int .i64 m)) (h1:RdT w v f) (hv:ValF f) (hpl:∀ x∈f,V5 x):
 Calls Tryz.prog 12 #[v] w fun e w'=>e=.returned (.tuple #[.string (ofL (J5 3 f)),.int .i64 0])∧Below w.heap.size w w':=by
 obtain ⟨R,hj⟩:∃ R:Ending→World→Prop,yK (R=fun e w'=>e=.returned (.tuple #[.string (ofL (J5 3 f)),.int .i64 0])∧Below w.heap.size w w'):=⟨_,rfl⟩;rw [←hj.o];have hn:=X1p f hv;have CV:=zW (Q5e f v m w hm h1 hv (fun x hx=>by have:=hn x hx;omega));have hM:=hv.len;have HV:=zW hv;have H1:=zW h1;have HM:=zW hm;have HZ:=zW hn;have HP:=zW hpl;obtain ⟨A,c,rfl,hF,_⟩:=h1.shape;clear h1 hv hm hn hpl;go_enter Tryz.func12,Tryz.ntmps12
 go_wp2_with (go_at_call 37;refine (CV.o).mono ?_;rintro e w0 ⟨rfl,ho⟩;have hp:=zW ho;have hB:=ho.size;clear ho)
 have HN:=zW (Q1a X0u _ _ (Y2j (I0 X0u) w0 9) yX yX);have hs:=zW (hp.o.alloc hB (.cells ((I0 X0u).map Value.string).toArray 9));refine (HN.o).mono ?_;rintro e w3 ⟨Rp,rfl,hRp,hrp,hw3⟩;have hE:w.heap.size≤Rp:=(by simp at hRp;omega);have ht:=zW hrp;have hr:=zW (hs.o.trans (hw3.mono yV));clear HN hs hrp hw3 hRp hB hp;generalize w0.alloc _=w00 at *;go_wp2_with fail
 go_loopg [6,18] f.length (fun gk sv iv wr=>∃ i:Nat,iv=.int .i64 i∧sv=.string (ofL (J5 3 (f.take i)))∧i≤f.length∧yK ((ofL (J5 3 (f.take i))).size≤i * 6000)∧yK (RpIn wr Rp X0u)∧yK (Below w.heap.size w wr)∧f.length - i≤gk)
 case atStart=>exact ⟨0,rfl,rfl,Nat.zero_le _,(by show _≤_;rw [List.take_zero];decide),ht.o,hr.o,yQ⟩
 case round=>
  clear ht hr;obtain ⟨i,rfl,rfl,hi,hc,HR,HB,hgk⟩:=hrel;by_cases hlt:i < f.length
  ·have hL:(i:Int) < (f.length:Int):=yY;have hK:(0:Int)≤(i:Int):=yY;obtain ⟨b,o,hA,hl,p0,p1,p2⟩:=RdT.at_ H1.o i hlt;subst hA;have ha:=List.getElem_mem hlt;have hz:=HV.o.wf _ ha;have hy:=HZ.o _ ha;have hh:=zW (HP.o _ ha);have hg:=zW (Q7b 3 f i hlt);have hG:=Q1w 3 f[i];have he:yK ((ofL (J5 3 (f.take (i+1)))).size≤(i+1) * 6000):=by
    show _≤_;have h:=hc.o;rw [Lib.size_eq] at h ⊢;rw [Q3p] at h ⊢;rw [hg.o,List.length_append];omega
   have q0:=(HB.o.cell (p:=⟨b,o+i * 3,none⟩) hl).trans p0;have q1:=(HB.o.cell (p:=⟨b,o+i * 3+1,none⟩) hl).trans p1;have q2:=(HB.o.cell (p:=⟨b,o+i * 3+2,none⟩) hl).trans p2;have hI:=HB.o.size;obtain ⟨S,HS⟩:∃ S,yK (S=ofL (J5 3 (f.take i))):=⟨_,rfl⟩;rw [←HS.o] at hc ⊢;have hS:S.size≤4000000:=(by have:=hc.o;omega);clear hG ha;generalize f[i]=x at p0 p1 p2 q0 q1 q2 hz hy hg hh;obtain ⟨xk,xt,xd⟩:=x;simp only at p0 p1 p2 q0 q1 q2 hy;clear p0 p1 p2;have HY:yK ((wr.alloc (.cells #[.int .i64 xk,.string xt,.int .i64 xd] 31)).heap[wr.heap.size]? =some (.cells #[.int .i64 xk,.string xt,.int .i64 xd] 31)):=Array.getElem?_push_size;have hb:=zW (HB.o.alloc hI (.cells #[.int .i64 xk,.string xt,.int .i64 xd] 31));have hf:=zW (HR.o.below ((Below.refl _ wr).alloc yQ (.cells #[.int .i64 xk,.string xt,.int .i64 xd] 31)));obtain ⟨q,hq⟩:∃ q,yK (q=wr.heap.size):=⟨_,rfl⟩;go_upto_region 9 with fail
   rw [←hq.o] at HY ⊢;generalize wr.alloc (.cells #[.int .i64 xk,.string xt,.int .i64 xd] 31)=w1 at HY hb hf ⊢;obtain ⟨y0,y1,y2,_⟩:=bx3 HY.o;have hJ:=zW (X6 HM.o hb.o);rcases hz with hk | ⟨hk,hnm,hd⟩ | ⟨hk,hct,hd1,hd2⟩ | ⟨hk,hnm,hd1,hd2⟩
   ·have hk':xk=1:=hk;subst hk';have CR:=zW (Q6o Rp X0u xt w1 hf.o yX yX V4x yY);have hH:(ofL (G0 X0u xt.data.toList)).size≤6000:=by
     rw [Q7u X0u 3 V9o,Lib.size_eq,Q3p];have:=Q5p 3 xt.data.toList;rw [←Lib.size_eq] at this;omega
    have HE:yK (S++ofL (G0 X0u xt.data.toList)=ofL (J5 3 (f.take (i+1)))):=by
     show _=_;rw [hg.o,HS.o,←Q1g,Q7u X0u 3 V9o];rfl
    generalize ofL (G0 X0u xt.data.toList)=res at CR hH HE;go_wp2_with (go_at_call 39;refine (CR.o).mono ?_;rintro e w2 ⟨rfl,hw,hu⟩;have hD:=zW hw;have hC:=zW (hb.o.trans (hu.below (fun k hk=>by rw [hk];exact hE) hb.o.size));clear hw hu)
    rw [HE.o];go_roundg (f.length - (i+1))
    case measure=>omega
    case rel=>exact ⟨i+1,by go_num,rfl,hlt,he.o,hD.o,hC.o,yY⟩
   ·have hk':xk=5:=hk;subst hk';have HE:yK (S++(((⟨#[123]⟩:ByteArray)++xt)++(⟨#[125]⟩:ByteArray))=ofL (J5 3 (f.take (i+1)))):=by
     show _=_;rw [hg.o,HS.o,←Q1g];congr 1;all_goals (
      apply ByteArray.ext;apply Array.toList_inj.1;simp [ofL,V3])
    go_wp2_with fail
    rw [HE.o];go_roundg (f.length - (i+1))
    case measure=>omega
    case rel=>exact ⟨i+1,by go_num,rfl,hlt,he.o,by first | exact hf.o | exact hf.o.below (Q1 (Below.refl _ _) n2),by first | exact hb.o | exact Q1 hb.o n2,yY⟩
   ·exfalso;rcases hh.o with h | ⟨h,_⟩
    ·have h':xk=1:=h;omega
    ·have h':xk=5:=h;omega
   ·exfalso;have hk':xk=3:=hk;rcases hh.o with h | ⟨h,_⟩
    ·have h':xk=1:=h;omega
    ·have h':xk=5:=h;omega
  ·obtain rfl:i=f.length:=yY;rw [List.take_length] at hc ⊢;generalize ofL (J5 3 f)=res at hc hj;go_wp2_with fail
   first | go_ret2 | skip
   rw [hj.o];exact ⟨rfl,HB.o⟩
theorem Y2r (f:List Tk) (v:Value) (m:Int) (w:World) (hm:w.cell? ⟨0,0,none⟩=some (.int .i64 m)) (h1:RdT w v f) (hv:ValF f) (hpl:∀ x∈f,V5 x):
 Calls Tryz.prog 11 #[v] w fun e w'=>e=.returned (.tuple #[.string (ofL (J5 2 f)),.int .i64 0])∧Below w.heap.size w w':=by
 obtain ⟨R,hj⟩:∃ R:Ending→World→Prop,yK (R=fun e w'=>e=.returned (.tuple #[.string (ofL (J5 2 f)),.int .i64 0])∧Below w.heap.size w w'):=⟨_,rfl⟩;rw [←hj.o];have hn:=X1p f hv;have CV:=zW (Q5e f v m w hm h1 hv (fun x hx=>by have:=hn x hx;omega));have hM:=hv.len;have HV:=zW hv;have H1:=zW h1;have HM:=zW hm;have HZ:=zW hn;have HP:=zW hpl;obtain ⟨A,c,rfl,hF,_⟩:=h1.shape;clear h1 hv hm hn hpl;go_enter Tryz.func11,Tryz.ntmps11
 go_wp2_with (go_at_call 37;refine (CV.o).mono ?_;rintro e w0 ⟨rfl,ho⟩;have hp:=zW ho;have hB:=ho.size;clear ho)
 have HN:=zW (Q1a X0t _ _ (Y2j (I0 X0t) w0 9) yX yX);have hs:=zW (hp.o.alloc hB (.cells ((I0 X0t).map Value.string).toArray 9));refine (HN.o).mono ?_;rintro e w3 ⟨Rp,rfl,hRp,hrp,hw3⟩;have hE:w.heap.size≤Rp:=(by simp at hRp;omega);have ht:=zW hrp;have hr:=zW (hs.o.trans (hw3.mono yV));clear HN hs hrp hw3 hRp hB hp;generalize w0.alloc _=w00 at *;go_wp2_with fail
 go_loopg [6,18] f.length (fun gk sv iv wr=>∃ i:Nat,iv=.int .i64 i∧sv=.string (ofL (J5 2 (f.take i)))∧i≤f.length∧yK ((ofL (J5 2 (f.take i))).size≤i * 6000)∧yK (RpIn wr Rp X0t)∧yK (Below w.heap.size w wr)∧f.length - i≤gk)
 case atStart=>exact ⟨0,rfl,rfl,Nat.zero_le _,(by show _≤_;rw [List.take_zero];decide),ht.o,hr.o,yQ⟩
 case round=>
  clear ht hr;obtain ⟨i,rfl,rfl,hi,hc,HR,HB,hgk⟩:=hrel;by_cases hlt:i < f.length
  ·have hL:(i:Int) < (f.length:Int):=yY;have hK:(0:Int)≤(i:Int):=yY;obtain ⟨b,o,hA,hl,p0,p1,p2⟩:=RdT.at_ H1.o i hlt;subst hA;have ha:=List.getElem_mem hlt;have hz:=HV.o.wf _ ha;have hy:=HZ.o _ ha;have hh:=zW (HP.o _ ha);have hg:=zW (Q7b 2 f i hlt);have hG:=Q1w 2 f[i];have he:yK ((ofL (J5 2 (f.take (i+1)))).size≤(i+1) * 6000):=by
    show _≤_;have h:=hc.o;rw [Lib.size_eq] at h ⊢;rw [Q3p] at h ⊢;rw [hg.o,List.length_append];omega
   have q0:=(HB.o.cell (p:=⟨b,o+i * 3,none⟩) hl).trans p0;have q1:=(HB.o.cell (p:=⟨b,o+i * 3+1,none⟩) hl).trans p1;have q2:=(HB.o.cell (p:=⟨b,o+i * 3+2,none⟩) hl).trans p2;have hI:=HB.o.size;obtain ⟨S,HS⟩:∃ S,yK (S=ofL (J5 2 (f.take i))):=⟨_,rfl⟩;rw [←HS.o] at hc ⊢;have hS:S.size≤4000000:=(by have:=hc.o;omega);clear hG ha;generalize f[i]=x at p0 p1 p2 q0 q1 q2 hz hy hg hh;obtain ⟨xk,xt,xd⟩:=x;simp only at p0 p1 p2 q0 q1 q2 hy;clear p0 p1 p2;have HY:yK ((wr.alloc (.cells #[.int .i64 xk,.string xt,.int .i64 xd] 31)).heap[wr.heap.size]? =some (.cells #[.int .i64 xk,.string xt,.int .i64 xd] 31)):=Array.getElem?_push_size;have hb:=zW (HB.o.alloc hI (.cells #[.int .i64 xk,.string xt,.int .i64 xd] 31));have hf:=zW (HR.o.below ((Below.refl _ wr).alloc yQ (.cells #[.int .i64 xk,.string xt,.int .i64 xd] 31)));obtain ⟨q,hq⟩:∃ q,yK (q=wr.heap.size):=⟨_,rfl⟩;go_upto_region 9 with fail
   rw [←hq.o] at HY ⊢;generalize wr.alloc (.cells #[.int .i64 xk,.string xt,.int .i64 xd] 31)=w1 at HY hb hf ⊢;obtain ⟨y0,y1,y2,_⟩:=bx3 HY.o;have hJ:=zW (X6 HM.o hb.o);rcases hz with hk | ⟨hk,hnm,hd⟩ | ⟨hk,hct,hd1,hd2⟩ | ⟨hk,hnm,hd1,hd2⟩
   ·have hk':xk=1:=hk;subst hk';have CR:=zW (Q6o Rp X0t xt w1 hf.o yX yX V4w yY);have hH:(ofL (G0 X0t xt.data.toList)).size≤6000:=by
     rw [Q7u X0t 2 V9n,Lib.size_eq,Q3p];have:=Q5p 2 xt.data.toList;rw [←Lib.size_eq] at this;omega
    have HE:yK (S++ofL (G0 X0t xt.data.toList)=ofL (J5 2 (f.take (i+1)))):=by
     show _=_;rw [hg.o,HS.o,←Q1g,Q7u X0t 2 V9n];rfl
    generalize ofL (G0 X0t xt.data.toList)=res at CR hH HE;go_wp2_with (go_at_call 39;refine (CR.o).mono ?_;rintro e w2 ⟨rfl,hw,hu⟩;have hD:=zW hw;have hC:=zW (hb.o.trans (hu.below (fun k hk=>by rw [hk];exact hE) hb.o.size));clear hw hu)
    rw [HE.o];go_roundg (f.length - (i+1))
    case measure=>omega
    case rel=>exact ⟨i+1,by go_num,rfl,hlt,he.o,hD.o,hC.o,yY⟩
   ·have hk':xk=5:=hk;subst hk';have HE:yK (S++(((⟨#[123]⟩:ByteArray)++xt)++(⟨#[125]⟩:ByteArray))=ofL (J5 2 (f.take (i+1)))):=by
     show _=_;rw [hg.o,HS.o,←Q1g];congr 1;all_goals (
      apply ByteArray.ext;apply Array.toList_inj.1;simp [ofL,V3])
    go_wp2_with fail
    rw [HE.o];go_roundg (f.length - (i+1))
    case measure=>omega
    case rel=>exact ⟨i+1,by go_num,rfl,hlt,he.o,by first | exact hf.o | exact hf.o.below (Q1 (Below.refl _ _) n2),by first | exact hb.o | exact Q1 hb.o n2,yY⟩
   ·exfalso;rcases hh.o with h | ⟨h,_⟩
    ·have h':xk=1:=h;omega
    ·have h':xk=5:=h;omega
   ·exfalso;have hk':xk=3:=hk;rcases hh.o with h | ⟨h,_⟩
    ·have h':xk=1:=h;omega
    ·have h':xk=5:=h;omega
  ·obtain rfl:i=f.length:=yY;rw [List.take_length] at hc ⊢;generalize ofL (J5 2 f)=res at hc hj;go_wp2_with fail
   first | go_ret2 | skip
   rw [hj.o];exact ⟨rfl,HB.o⟩
theorem X0l (f:List Tk) (v:Value) (m:Int) (w:World) (hm:w.cell? ⟨0,0,none⟩=some (.int .i64 m)) (h1:RdT w v f) (hv:ValF f) (hnb:Q6t f):
 Calls Tryz.prog 10 #[v] w fun e w'=>e=.returned (.tuple #[.string (ofL (J5 1 f)),.int .i64 0])∧Below w.heap.size w w':=by
 obtain ⟨R,hn⟩:∃ R:Ending→World→Prop,yK (R=fun e w'=>e=.returned (.tuple #[.string (ofL (J5 1 f)),.int .i64 0])∧Below w.heap.size w w'):=⟨_,rfl⟩;rw [←hn.o];have hp:=X1p f hv;have CV:=zW (Q5e f v m w hm h1 hv (fun x hx=>by have:=hp x hx;omega));have hM:=hv.len;have HV:=zW hv;have H1:=zW h1;have HM:=zW hm;have HZ:=zW hp;have HP:=zW hnb;obtain ⟨A,c,rfl,hG,_⟩:=h1.shape;clear h1 hv hm hp hnb;go_enter Tryz.func10,Tryz.ntmps10
 go_wp2_with (go_at_call 37;refine (CV.o).mono ?_;rintro e w0 ⟨rfl,hr⟩;have hs:=zW hr;have hC:=hr.size;clear hr)
 have HN:=zW (Q1a X0s _ _ (Y2j (I0 X0s) w0 9) yX yX);have hb:=zW (hs.o.alloc hC (.cells ((I0 X0s).map Value.string).toArray 9));refine (HN.o).mono ?_;rintro e w3 ⟨Rp,rfl,hRp,hrp,hw3⟩;have hF:w.heap.size≤Rp:=(by simp at hRp;omega);have hu:=zW hrp;have ht:=zW (hb.o.trans (hw3.mono yV));clear HN hb hrp hw3 hRp hC hs;generalize w0.alloc _=w00 at *;go_wp2_with fail
 go_loopg [6,18] f.length (fun gk sv iv wr=>∃ i:Nat,iv=.int .i64 i∧sv=.string (ofL (J5 1 (f.take i)))∧i≤f.length∧yK ((ofL (J5 1 (f.take i))).size≤i * 6000)∧yK (RpIn wr Rp X0s)∧yK (Below w.heap.size w wr)∧f.length - i≤gk)
 case atStart=>exact ⟨0,rfl,rfl,Nat.zero_le _,(by show _≤_;rw [List.take_zero];decide),hu.o,ht.o,yQ⟩
 case round=>
  clear hu ht;obtain ⟨i,rfl,rfl,hi,hh,HR,HB,hgk⟩:=hrel;by_cases hlt:i < f.length
  ·have hL:(i:Int) < (f.length:Int):=yY;have hK:(0:Int)≤(i:Int):=yY;obtain ⟨b,o,hA,ho,p0,p1,p2⟩:=RdT.at_ H1.o i hlt;subst hA;have hf:=List.getElem_mem hlt;have hB:=HV.o.wf _ hf;have hz:=HZ.o _ hf;have hj:=zW (HP.o _ hf);have hg:=zW (Q7b 1 f i hlt);have hH:=Q1w 1 f[i];have hc:yK ((ofL (J5 1 (f.take (i+1)))).size≤(i+1) * 6000):=by
    show _≤_;have h:=hh.o;rw [Lib.size_eq] at h ⊢;rw [Q3p] at h ⊢;rw [hg.o,List.length_append];omega
   have q0:=(HB.o.cell (p:=⟨b,o+i * 3,none⟩) ho).trans p0;have q1:=(HB.o.cell (p:=⟨b,o+i * 3+1,none⟩) ho).trans p1;have q2:=(HB.o.cell (p:=⟨b,o+i * 3+2,none⟩) ho).trans p2;have hJ:=HB.o.size;obtain ⟨S,HS⟩:∃ S,yK (S=ofL (J5 1 (f.take i))):=⟨_,rfl⟩;rw [←HS.o] at hh ⊢;have hS:S.size≤4000000:=(by have:=hh.o;omega);clear hH hf;generalize f[i]=x at p0 p1 p2 q0 q1 q2 hB hz hg hj;obtain ⟨xk,xt,xd⟩:=x;simp only at p0 p1 p2 q0 q1 q2 hz;clear p0 p1 p2;have HY:yK ((wr.alloc (.cells #[.int .i64 xk,.string xt,.int .i64 xd] 31)).heap[wr.heap.size]? =some (.cells #[.int .i64 xk,.string xt,.int .i64 xd] 31)):=Array.getElem?_push_size;have ha:=zW (HB.o.alloc hJ (.cells #[.int .i64 xk,.string xt,.int .i64 xd] 31));have he:=zW (HR.o.below ((Below.refl _ wr).alloc yQ (.cells #[.int .i64 xk,.string xt,.int .i64 xd] 31)));obtain ⟨q,hq⟩:∃ q,yK (q=wr.heap.size):=⟨_,rfl⟩;go_upto_region 9 with fail
   rw [←hq.o] at HY ⊢;generalize wr.alloc (.cells #[.int .i64 xk,.string xt,.int .i64 xd] 31)=w1 at HY ha he ⊢;obtain ⟨y0,y1,y2,_⟩:=bx3 HY.o;have hl:=zW (X6 HM.o ha.o);rcases hB with hk | ⟨hk,hnm,hd⟩ | ⟨hk,hct,hd1,hd2⟩ | ⟨hk,hnm,hd1,hd2⟩
   ·have hk':xk=1:=hk;subst hk';have CR:=zW (Q6o Rp X0s xt w1 he.o yX yX V4v yY);have hI:(ofL (G0 X0s xt.data.toList)).size≤6000:=by
     rw [Q7u X0s 1 V9m,Lib.size_eq,Q3p];have:=Q5p 1 xt.data.toList;rw [←Lib.size_eq] at this;omega
    have HE:yK (S++ofL (G0 X0s xt.data.toList)=ofL (J5 1 (f.take (i+1)))):=by
     show _=_;rw [hg.o,HS.o,←Q1g,Q7u X0s 1 V9m];rfl
    generalize ofL (G0 X0s xt.data.toList)=res at CR hI HE;go_wp2_with (go_at_call 39;refine (CR.o).mono ?_;rintro e w2 ⟨rfl,hy,hw⟩;have hE:=zW hy;have hD:=zW (ha.o.trans (hw.below (fun k hk=>by rw [hk];exact hF) ha.o.size));clear hy hw)
    rw [HE.o];go_roundg (f.length - (i+1))
    case measure=>omega
    case rel=>exact ⟨i+1,by go_num,rfl,hlt,hc.o,hE.o,hD.o,yY⟩
   ·have hk':xk=5:=hk;subst hk';have HE:yK (S++(((⟨#[123]⟩:ByteArray)++xt)++(⟨#[125]⟩:ByteArray))=ofL (J5 1 (f.take (i+1)))):=by
     show _=_;rw [hg.o,HS.o,←Q1g];congr 1;all_goals (
      apply ByteArray.ext;apply Array.toList_inj.1;simp [ofL,V3])
    go_wp2_with fail
    rw [HE.o];go_roundg (f.length - (i+1))
    case measure=>omega
    case rel=>exact ⟨i+1,by go_num,rfl,hlt,hc.o,by first | exact he.o | exact he.o.below (Q1 (Below.refl _ _) n2),by first | exact ha.o | exact Q1 ha.o n2,yY⟩
   ·rcases hk with hk | hk
    ·have hk':xk=2:=hk;subst hk';have HE:yK (S++(((⟨#[60]⟩:ByteArray)++xt)++(⟨#[62]⟩:ByteArray))=ofL (J5 1 (f.take (i+1)))):=by
      show _=_;rw [hg.o,HS.o,←Q1g];congr 1;all_goals (
       apply ByteArray.ext;apply Array.toList_inj.1;simp [ofL,V3])
     have HN:=zW (fun w (hm:w.cell? ⟨0,0,none⟩=some (.int .i64 m))=>Q4r xt m w yY hm);have hb:=zW (fun w=>Q2a (ofL (Z1 xt.data.toList)) w (by simpa [ofL] using hj.o (by unfold N1;first | exact Or.inl rfl | exact Or.inr (Or.inl rfl) | exact Or.inr (Or.inr rfl))));generalize ofL (Z1 xt.data.toList)=tn at HN hb;have y0':w1.cell? ⟨q,0,none⟩=some (.int .i64 2):=y0;go_wp2_with (first
      | (go_at_call 41;refine (HN.o _ (by exact hl.o)).mono ?_;rintro e w2 ⟨rfl,n2,rfl⟩)
      | (go_at_call 40;refine (hb.o _).mono ?_;rintro e w' ⟨rfl,rfl⟩))
     rw [HE.o];go_roundg (f.length - (i+1))
     case measure=>omega
     case rel=>exact ⟨i+1,by go_num,rfl,hlt,hc.o,by first | exact he.o | exact he.o.below (Q1 (Below.refl _ _) n2),by first | exact ha.o | exact Q1 ha.o n2,yY⟩
    ·have hk':xk=4:=hk;subst hk';have HE:yK (S++(((⟨#[60]⟩:ByteArray)++xt)++(⟨#[47,62]⟩:ByteArray))=ofL (J5 1 (f.take (i+1)))):=by
      show _=_;rw [hg.o,HS.o,←Q1g];congr 1;all_goals (
       apply ByteArray.ext;apply Array.toList_inj.1;simp [ofL,V3])
     have HN:=zW (fun w (hm:w.cell? ⟨0,0,none⟩=some (.int .i64 m))=>Q4r xt m w yY hm);have hb:=zW (fun w=>Q2a (ofL (Z1 xt.data.toList)) w (by simpa [ofL] using hj.o (by unfold N1;first | exact Or.inl rfl | exact Or.inr (Or.inl rfl) | exact Or.inr (Or.inr rfl))));generalize ofL (Z1 xt.data.toList)=tn at HN hb;have y0':w1.cell? ⟨q,0,none⟩=some (.int .i64 4):=y0;go_wp2_with (first
      | (go_at_call 41;refine (HN.o _ (by exact hl.o)).mono ?_;rintro e w2 ⟨rfl,n2,rfl⟩)
      | (go_at_call 40;refine (hb.o _).mono ?_;rintro e w' ⟨rfl,rfl⟩))
     rw [HE.o];go_roundg (f.length - (i+1))
     case measure=>omega
     case rel=>exact ⟨i+1,by go_num,rfl,hlt,hc.o,by first | exact he.o | exact he.o.below (Q1 (Below.refl _ _) n2),by first | exact ha.o | exact Q1 ha.o n2,yY⟩
   ·have hk':xk=3:=hk;subst hk';have HE:yK (S++(((⟨#[60,47]⟩:ByteArray)++xt)++(⟨#[62]⟩:ByteArray))=ofL (J5 1 (f.take (i+1)))):=by
     show _=_;rw [hg.o,HS.o,←Q1g];congr 1;all_goals (
      apply ByteArray.ext;apply Array.toList_inj.1;simp [ofL,V3])
    have HN:=zW (fun w (hm:w.cell? ⟨0,0,none⟩=some (.int .i64 m))=>Q4r xt m w yY hm);have hb:=zW (fun w=>Q2a (ofL (Z1 xt.data.toList)) w (by simpa [ofL] using hj.o (by unfold N1;first | exact Or.inl rfl | exact Or.inr (Or.inl rfl) | exact Or.inr (Or.inr rfl))));generalize ofL (Z1 xt.data.toList)=tn at HN hb;have y0':w1.cell? ⟨q,0,none⟩=some (.int .i64 3):=y0;go_wp2_with (first
     | (go_at_call 41;refine (HN.o _ (by exact hl.o)).mono ?_;rintro e w2 ⟨rfl,n2,rfl⟩)
     | (go_at_call 40;refine (hb.o _).mono ?_;rintro e w' ⟨rfl,rfl⟩))
    rw [HE.o];go_roundg (f.length - (i+1))
    case measure=>omega
    case rel=>exact ⟨i+1,by go_num,rfl,hlt,hc.o,by first | exact he.o | exact he.o.below (Q1 (Below.refl _ _) n2),by first | exact ha.o | exact Q1 ha.o n2,yY⟩
  ·obtain rfl:i=f.length:=yY;rw [List.take_length] at hh ⊢;generalize ofL (J5 1 f)=res at hh hn;go_wp2_with fail
   first | go_ret2 | skip
   rw [hn.o];exact ⟨rfl,HB.o⟩
def V9t (fmt:Int):FuncId:=if fmt=1 then 94 else if fmt=2 then 95 else 96
def V6n (fmt:Int):FuncId:=if fmt=1 then 13 else if fmt=2 then 14 else 15
def V6q (fmt:Int):FuncId:=if fmt=1 then 10 else if fmt=2 then 11 else 12
def V6l (fmt:Int):FuncId:=if fmt=1 then 106 else if fmt=2 then 107 else 108
def E7 (fmt:Int):Prop:=fmt=1∨fmt=2∨fmt=3
def Q9m (f:List Tk) (w:World) (e:Ending) (w':World):Prop:=
 ∃ v,e=.returned (.tuple #[v,.int .i64 0,.int .i64 0])∧OwnT 31 w' w.heap.size v f∧Below w.heap.size w w'
def Q9l (f:List Tk) (w:World) (e:Ending) (w':World):Prop:=
 ∃ v,e=.returned (.tuple #[v,.int .i64 0])∧OwnT 31 w' w.heap.size v f∧Below w.heap.size w w'
def Q4d (l:List Int) (w:World) (e:Ending) (w':World):Prop:=
 ∃ v,e=.returned (.tuple #[v,.int .i64 0])∧OwnE 3 V6 1 w' w.heap.size v l∧Below w.heap.size w w'
def Q4e (s:ByteArray) (w:World) (e:Ending) (w':World):Prop:=
 e=.returned (.tuple #[.string s,.int .i64 0])∧Below w.heap.size w w'
theorem X2l (fmt:Int) (h:E7 fmt) (w:World):Calls Tryz.prog 55 #[.int .i64 fmt] w (fun e w'=>e=.returned (.bool true)∧w=w'):=by
 rcases h with rfl | rfl | rfl
 all_goals (
  go_enter Tryz.func55,Tryz.ntmps55
  go_wp2
  go_ret
  exact ⟨rfl,rfl⟩)
theorem V5w (data:ByteArray) (ps:List Pt) (w:World) (h:Calls Tryz.prog 94 #[.string data] w (K4 ps w)):
 Calls Tryz.prog 57 #[.int .i64 1,.string data] w (K4 ps w):=by
 have HC:=zW h;clear h;go_enter Tryz.func57,Tryz.ntmps57
 go_wp2_with (go_at_call 94;refine (HC.o).mono ?_;rintro e w1 ⟨v,rfl,ho,hb⟩;obtain ⟨A,c,rfl⟩:=Q0 ho;have HO:=zW ho;have HB:=zW hb;clear ho hb)
 go_ret3
 exact ⟨_,rfl,HO.o,HB.o⟩
theorem V5x (data:ByteArray) (ps:List Pt) (w:World) (h:Calls Tryz.prog 95 #[.string data] w (K4 ps w)):
 Calls Tryz.prog 57 #[.int .i64 2,.string data] w (K4 ps w):=by
 have HC:=zW h;clear h;go_enter Tryz.func57,Tryz.ntmps57
 go_wp2_with (go_at_call 95;refine (HC.o).mono ?_;rintro e w1 ⟨v,rfl,ho,hb⟩;obtain ⟨A,c,rfl⟩:=Q0 ho;have HO:=zW ho;have HB:=zW hb;clear ho hb)
 go_ret3
 exact ⟨_,rfl,HO.o,HB.o⟩
theorem V5y (data:ByteArray) (ps:List Pt) (w:World) (h:Calls Tryz.prog 96 #[.string data] w (K4 ps w)):
 Calls Tryz.prog 57 #[.int .i64 3,.string data] w (K4 ps w):=by
 have HC:=zW h;clear h;go_enter Tryz.func57,Tryz.ntmps57
 go_wp2_with (go_at_call 96;refine (HC.o).mono ?_;rintro e w1 ⟨v,rfl,ho,hb⟩;obtain ⟨A,c,rfl⟩:=Q0 ho;have HO:=zW ho;have HB:=zW hb;clear ho hb)
 go_ret3
 exact ⟨_,rfl,HO.o,HB.o⟩
theorem V8w (raw:ByteArray) (f:List Tk) (w:World) (h:Calls Tryz.prog 13 #[.string raw] w (Q9m f w)):
 Calls Tryz.prog 56 #[.int .i64 1,.string raw] w (Q9l f w):=by
 have HC:=zW h;clear h;go_enter Tryz.func56,Tryz.ntmps56
 go_wp2_with (go_at_call 13;refine (HC.o).mono ?_;rintro e w1 ⟨v,rfl,ho,hb⟩;obtain ⟨A,c,rfl⟩:=Q0 ho;have HO:=zW ho;have HB:=zW hb;clear ho hb)
 go_ret2
 exact ⟨_,rfl,HO.o,HB.o⟩
theorem V8x (raw:ByteArray) (f:List Tk) (w:World) (h:Calls Tryz.prog 14 #[.string raw] w (Q9m f w)):
 Calls Tryz.prog 56 #[.int .i64 2,.string raw] w (Q9l f w):=by
 have HC:=zW h;clear h;go_enter Tryz.func56,Tryz.ntmps56
 go_wp2_with (go_at_call 14;refine (HC.o).mono ?_;rintro e w1 ⟨v,rfl,ho,hb⟩;obtain ⟨A,c,rfl⟩:=Q0 ho;have HO:=zW ho;have HB:=zW hb;clear ho hb)
 go_ret2
 exact ⟨_,rfl,HO.o,HB.o⟩
theorem V8y (raw:ByteArray) (f:List Tk) (w:World) (h:Calls Tryz.prog 15 #[.string raw] w (Q9m f w)):
 Calls Tryz.prog 56 #[.int .i64 3,.string raw] w (Q9l f w):=by
 have HC:=zW h;clear h;go_enter Tryz.func56,Tryz.ntmps56
 go_wp2_with (go_at_call 15;refine (HC.o).mono ?_;rintro e w1 ⟨v,rfl,ho,hb⟩;obtain ⟨A,c,rfl⟩:=Q0 ho;have HO:=zW ho;have HB:=zW hb;clear ho hb)
 go_ret2
 exact ⟨_,rfl,HO.o,HB.o⟩
theorem V6z (raw:ByteArray) (l:List Int) (w:World) (h:Calls Tryz.prog 106 #[.string raw] w (Q4d l w)):
 Calls Tryz.prog 67 #[.int .i64 1,.string raw] w (Q4d l w):=by
 have HC:=zW h;clear h;go_enter Tryz.func67,Tryz.ntmps67
 go_wp2_with (go_at_call 106;refine (HC.o).mono ?_;rintro e w1 ⟨v,rfl,ho,hb⟩;obtain ⟨A,c,rfl⟩:=Q0 ho;have HO:=zW ho;have HB:=zW hb;clear ho hb)
 go_ret2
 exact ⟨_,rfl,HO.o,HB.o⟩
theorem V7a (raw:ByteArray) (l:List Int) (w:World) (h:Calls Tryz.prog 107 #[.string raw] w (Q4d l w)):
 Calls Tryz.prog 67 #[.int .i64 2,.string raw] w (Q4d l w):=by
 have HC:=zW h;clear h;go_enter Tryz.func67,Tryz.ntmps67
 go_wp2_with (go_at_call 107;refine (HC.o).mono ?_;rintro e w1 ⟨v,rfl,ho,hb⟩;obtain ⟨A,c,rfl⟩:=Q0 ho;have HO:=zW ho;have HB:=zW hb;clear ho hb)
 go_ret2
 exact ⟨_,rfl,HO.o,HB.o⟩
theorem V7b (raw:ByteArray) (l:List Int) (w:World) (h:Calls Tryz.prog 108 #[.string raw] w (Q4d l w)):
 Calls Tryz.prog 67 #[.int .i64 3,.string raw] w (Q4d l w):=by
 have HC:=zW h;clear h;go_enter Tryz.func67,Tryz.ntmps67
 go_wp2_with (go_at_call 108;refine (HC.o).mono ?_;rintro e w1 ⟨v,rfl,ho,hb⟩;obtain ⟨A,c,rfl⟩:=Q0 ho;have HO:=zW ho;have HB:=zW hb;clear ho hb)
 go_ret2
 exact ⟨_,rfl,HO.o,HB.o⟩
theorem V9e (A:Option Addr) (n c:Nat) (s:ByteArray) (w:World) (h:Calls Tryz.prog 10 #[.slice A n c] w (Q4e s w)):
 Calls Tryz.prog 68 #[.int .i64 1,.slice A n c] w (Q4e s w):=by
 have HC:=zW h;clear h;go_enter Tryz.func68,Tryz.ntmps68
 go_wp2_with (go_at_call 10;refine (HC.o).mono ?_;rintro e w1 ⟨rfl,hb⟩;have HB:=zW hb;clear hb)
 go_ret2
 exact ⟨rfl,HB.o⟩
theorem V9f (A:Option Addr) (n c:Nat) (s:ByteArray) (w:World) (h:Calls Tryz.prog 11 #[.slice A n c] w (Q4e s w)):
 Calls Tryz.prog 68 #[.int .i64 2,.slice A n c] w (Q4e s w):=by
 have HC:=zW h;clear h;go_enter Tryz.func68,Tryz.ntmps68
 go_wp2_with (go_at_call 11;refine (HC.o).mono ?_;rintro e w1 ⟨rfl,hb⟩;have HB:=zW hb;clear hb)
 go_ret2
 exact ⟨rfl,HB.o⟩
theorem V9g (A:Option Addr) (n c:Nat) (s:ByteArray) (w:World) (h:Calls Tryz.prog 12 #[.slice A n c] w (Q4e s w)):
 Calls Tryz.prog 68 #[.int .i64 3,.slice A n c] w (Q4e s w):=by
 have HC:=zW h;clear h;go_enter Tryz.func68,Tryz.ntmps68
 go_wp2_with (go_at_call 12;refine (HC.o).mono ?_;rintro e w1 ⟨rfl,hb⟩;have HB:=zW hb;clear hb)
 go_ret2
 exact ⟨rfl,HB.o⟩
theorem Z6x (fmt:Int) (hf:E7 fmt) (data:ByteArray) (ps:List Pt) (w:World) (h:Calls Tryz.prog (V9t fmt) #[.string data] w (K4 ps w)):
 Calls Tryz.prog 57 #[.int .i64 fmt,.string data] w (K4 ps w):=by
 rcases hf with rfl | rfl | rfl
 ·exact V5w data ps w h
 ·exact V5x data ps w h
 ·exact V5y data ps w h
theorem Z1p (fmt:Int) (hf:E7 fmt) (raw:ByteArray) (f:List Tk) (w:World) (h:Calls Tryz.prog (V6n fmt) #[.string raw] w (Q9m f w)):
 Calls Tryz.prog 56 #[.int .i64 fmt,.string raw] w (Q9l f w):=by
 rcases hf with rfl | rfl | rfl
 ·exact V8w raw f w h
 ·exact V8x raw f w h
 ·exact V8y raw f w h
theorem Z8b (fmt:Int) (hf:E7 fmt) (raw:ByteArray) (l:List Int) (w:World) (h:Calls Tryz.prog (V6l fmt) #[.string raw] w (Q4d l w)):
 Calls Tryz.prog 67 #[.int .i64 fmt,.string raw] w (Q4d l w):=by
 rcases hf with rfl | rfl | rfl
 ·exact V6z raw l w h
 ·exact V7a raw l w h
 ·exact V7b raw l w h
theorem V3i (fmt:Int) (hf:E7 fmt) (A:Option Addr) (n c:Nat) (s:ByteArray) (w:World) (h:Calls Tryz.prog (V6q fmt) #[.slice A n c] w (Q4e s w)):
 Calls Tryz.prog 68 #[.int .i64 fmt,.slice A n c] w (Q4e s w):=by
 rcases hf with rfl | rfl | rfl
 ·exact V9e A n c s w h
 ·exact V9f A n c s w h
 ·exact V9g A n c s w h
def Z0 (ps:List Pt):List UInt8:=(ps.map fun p=>p.raw.data.toList).flatten
theorem X3k (ps:List Pt) (k:Nat) (h:k < ps.length):Z0 (ps.take (k+1))=Z0 (ps.take k)++ps[k].raw.data.toList:=by
 unfold Z0;rw [List.take_succ_eq_append_getElem h,List.map_append,List.flatten_append];simp
theorem X1u (ps:List Pt) (k:Nat):(Z0 (ps.take k)).length≤(Z0 ps).length:=by
 have:=congrArg (fun l=>(Z0 l).length) (List.take_append_drop k ps);unfold Z0 at *;simp only [List.map_append,List.flatten_append,List.length_append] at this;omega
theorem Z4x {T e:TypeId} {B b:Nat} {bs:List Value} {w w':World} (h:Lib.IsBuilder T e B b bs w) (hb:Below w.heap.size w w'):Lib.IsBuilder T e B b bs w':=by
 have k:∀ p,Lib.BuilderAt T e B b p bs w→Lib.BuilderAt T e B b p bs w':=by
  rintro p ⟨hB,v,hbk,hown,hne⟩;exact ⟨hB,v,(hb.block b (Array.getElem?_eq_some_iff.1 hbk).1).trans hbk,Q8 hown fun k hk=>hb.block k (hown.lt k hk).2,hne⟩
 exact h.imp (k _) (k _)
theorem Q6v (fmt:Int) (ps:List Pt) (A:Option Addr) (c:Nat) (w:World) (h:RdE ptC 3 w (.slice A ps.length c) ps) (hl:ps.length≤100000) (hd:(Z0 ps).length≤1000000):
 Calls Tryz.prog 24 #[.agg #[.int .i64 fmt,.slice A ps.length c]] w (fun e w'=>e=.returned (.string (ofL (Z0 ps)))∧Below w.heap.size w w'):=by
 obtain ⟨R,hj⟩:∃ R:Ending→World→Prop,yK (R=fun e w'=>e=.returned (.string (ofL (Z0 ps)))∧Below w.heap.size w w'):=⟨_,rfl⟩;rw [←hj.o];have HP:=zW h;have ho:=zW hd;have hh:=zW (((Below.refl w.heap.size w).alloc yQ (.cells #[.int .i64 fmt,.slice A ps.length c] 41)).alloc yW (.cells #[.pointer none,.slice none 0 0] 117));have hf:yK (Lib.IsBuilder 117 5 w.heap.size (w.heap.size+1) [] ((w.alloc (.cells #[.int .i64 fmt,.slice A ps.length c] 41)).alloc (.cells #[.pointer none,.slice none 0 0] 117))):=by
  refine .inl ⟨Nat.le_succ _,.slice none 0 0,?_,World.ownsRow_nil _ _ _ _,by simp [Value.ownBlock]⟩;have:=heap_alloc_new (w.alloc (.cells #[.int .i64 fmt,.slice A ps.length c] 41)) (.cells #[.pointer none,.slice none 0 0] 117);simpa using this
 clear h hd;go_enter Tryz.func24,Tryz.ntmps24
 go_wp2_with fail
 obtain ⟨M,hM⟩:∃ M,yK (w.heap.size+1=M):=⟨_,rfl⟩;rw [hM.o] at hf;rw [hM.o];have hp:yK (w.heap.size≤M):=(by show _≤_;have:=hM.o;omega);go_loopg [9] ps.length (fun gk iv wr=>∃ k:Nat,iv=.int .i64 k∧k≤ps.length∧yK (Lib.IsBuilder 117 5 w.heap.size M (Lib.byteCells (Z0 (ps.take k))) wr)∧yK (Below w.heap.size w wr)∧ps.length - k≤gk)
 case atStart=>exact ⟨0,rfl,Nat.zero_le _,hf.o,hh.o,yQ⟩
 case round=>
  obtain ⟨k,rfl,hk,HI,HB,hgk⟩:=hrel;clear hf hh;by_cases hlt:k < ps.length
  ·obtain ⟨b,o,rfl,hb,c0,c1,c2⟩:=RdP.at_ (HP.o.below HB.o yQ) k hlt;have hm:=X1u ps (k+1);have hg:=X3k ps k hlt;have hd:=ho.o;have hc:(Lib.byteCells (Z0 (ps.take k))).length+ps[k].raw.size≤140737488355328:=by
    rw [Lib.byteCells_length,Lib.size_eq];rw [hg,List.length_append] at hm;omega
   have hi:yK (Lib.byteCells (Z0 (ps.take k))++Lib.strCells ps[k].raw=Lib.byteCells (Z0 (ps.take (k+1)))):=(by show _=_;rw [hg,Lib.byteCells_append,Lib.strCells_eq]);have hz:=HB.o.size;have CW:=zW (fun (w':World) (h:Lib.IsBuilder 117 5 w.heap.size M (Lib.byteCells (Z0 (ps.take k))) w') (hb:w.heap.size≤w'.heap.size)=>X4f w.heap.size M _ ps[k].raw w' h hc hb);rw [hi.o] at CW;clear hm hg hd hc hi;generalize ps[k].raw=x2 at *;generalize ps[k].key=x1 at *;generalize ps[k].un=x0 at *;have HA:=zW ((Below.refl wr.heap.size wr).alloc yQ (.cells #[.bool x0,.string x1,.string x2] 52));go_wp2_with (go_at_call 53;refine (CW.o _ (by exact Z4x HI.o HA.o) (by exact Nat.le_trans hz HA.o.size)).mono ?_;rintro e w1 ⟨rfl,h1,ha⟩;have hn:=zW h1;have he:=zW (HB.o.trans ((HA.o.mono hz).trans ha));clear h1 ha)
   go_roundg (ps.length - (k+1))
   case measure=>omega
   case rel=>exact ⟨k+1,rfl,hlt,.inr hn.o,he.o,yQ⟩
  ·obtain rfl:k=ps.length:=yY;rw [List.take_length] at HI;have CS:=zW (Tryz.Builder_String_any w.heap.size M (Z0 ps) wr HI.o HB.o.size);go_wp2_with (go_at_call 54;refine (CS.o).mono ?_;rintro e w1 ⟨rfl,ha⟩;have he:=zW (HB.o.trans ha);clear ha)
   first | go_ret | skip
   rw [hj.o];exact ⟨rfl,he.o⟩
end Go.Proofs.YtfkojnofbpdjdaaGreatDoor
namespace Go.Proofs.YtfkojnofbpdjdaaGreatDoor
open Go.RowKit Go.Maps
theorem S5:Keyed Tryz.prog 3:=int_keyed Tryz.underlying3
theorem X4n (d:Int) (h:I4 d):keyOf Tryz.prog 3 (.int .i64 d)=some (.int .i64 d):=keyOf_int_mk Tryz.underlying3 (by
 show (decide (IntKind.i64.min≤d) && decide (d≤IntKind.i64.max))=true;have e1:IntKind.i64.min=-9223372036854775808:=yX;have e2:IntKind.i64.max=9223372036854775807:=yX;rw [e1,e2,Bool.and_eq_true];exact ⟨decide_eq_true h.1,decide_eq_true h.2⟩)
def IntSet (w:World) (b n:Nat) (S:List Int):Prop:=
 ∃ D:DataW Unit,w.ownsMap Tryz.prog 3 (plainElem Tryz.prog 4) b n D∧IsMap D∧∀ d:Int,I4 d→D.atKey (.int .i64 d) (.lit (.bool false))=.lit (.bool (decide (d∈S)))
theorem Z1d (w:World):(zeroValue 4).run Tryz.prog w=.ok (.bool false) w:=by kernel_rfl
theorem Z7f (w:World):(zeroValue 3).run Tryz.prog w=.ok (.int .i64 0) w:=by kernel_rfl
theorem IntSet.made (w:World):IntSet (w.alloc (.map #[] 0)) w.heap.size 0 []:=
 ⟨_,World.ownsMap_made _ _ _ _,isMap_empty,fun _ _=>rfl⟩
theorem IntSet.lt {w:World} {b n:Nat} {S:List Int} (h:IntSet w b n S):b < w.heap.size:=by
 obtain ⟨D,h1,_⟩:=h;exact h1.lt
theorem IntSet.same {w w':World} {b n:Nat} {S:List Int} (h:IntSet w b n S) (e:w'.heap[b]? =w.heap[b]?):IntSet w' b n S:=by
 obtain ⟨D,⟨es,clock,hb,F,hs,hD⟩,h2⟩:=h;exact ⟨D,⟨es,clock,e.trans hb,F,hs,hD⟩,h2⟩
theorem IntSet.apart {w:World} {b n:Nat} {S:List Int} (h:IntSet w b n S) {B:Nat} {e:TypeId} {size m:Nat} {v:Value} {xs:List Value} (ho:w.ownsRow B e size v m xs):v.ownBlock≠some b:=by
 intro hk;obtain ⟨D,⟨es,clock,hb,_⟩,_⟩:=h;obtain ⟨cur,hc⟩:=B7 ho hk;rw [hc] at hb;cases hb
theorem Q8d {v:Value} {x:Bool} {ps:List MemPlace} (h:plainElem (H:=Unit) Tryz.prog 4 v=some (.lit (.bool x),ps)):v=.bool x:=by
 unfold plainElem at h;rw [Tryz.underlying4] at h;cases v<;>simp_all
theorem IntSet.look {w:World} {b n:Nat} {S:List Int} (h:IntSet w b n S) (d:Int) (hd:I4 d):
 (Instr.lookup 223 (.map (some b)) (.int .i64 d) false).run Tryz.prog w=.ok (.bool (decide (d∈S))) w:=by
 obtain ⟨D,h1,h2,h3⟩:=h;obtain ⟨v,ps,ha,hR⟩:=h1.lookup S5 Tryz.underlying223 (Z1d w) (plainElem_bool Tryz.underlying4 false) (X4n d hd);rw [h3 d hd] at hR;rw [ha,Q8d hR]
theorem IntSet.put {w:World} {b n:Nat} {S:List Int} (h:IntSet w b n S) (d:Int) (hd:I4 d) (hn:n < maxLen):
 ∃ w2,(Instr.mapUpdate 223 (.map (some b)) (.int .i64 d) (.bool true)).run Tryz.prog w=.ok () w2∧IntSet w2 b (n+1) (S++[d])∧w.grownBy w2 (some b):=by
 obtain ⟨D,h1,h2,h3⟩:=h;have ha:=X4n d hd;obtain ⟨w2,hc,hb,hg⟩:=h1.update S5 Tryz.underlying223 hn ha (plainElem_bool (H:=Unit) Tryz.underlying4 true);refine ⟨w2,hc,⟨_,hb,h2.put _ _,fun u hu=>?_⟩,hg⟩;by_cases e:u=d
 ·rw [e,atKey_put_same h2 (S5.key ha)];simp
 ·rw [atKey_put_other (fun e'=>e (by injection e'))];rw [h3 u hu];simp [e]
def IdMap (w:World) (b n:Nat) (lo hi:Int):Prop:=
 ∃ D:DataW Unit,w.ownsMap Tryz.prog 3 (plainElem Tryz.prog 3) b n D∧IsMap D∧∀ d:Int,I4 d→lo≤d→d≤hi→∀ z,D.atKey (.int .i64 d) z=.lit (.int .i64 d)
theorem IdMap.made (w:World) (hi:Int):IdMap (w.alloc (.map #[] 0)) w.heap.size 0 (hi+1) hi:=
 ⟨_,World.ownsMap_made _ _ _ _,isMap_empty,fun _ _ h1 h2=>yY⟩
theorem IdMap.lt {w:World} {b n:Nat} {lo hi:Int} (h:IdMap w b n lo hi):b < w.heap.size:=by
 obtain ⟨D,h1,_⟩:=h;exact h1.lt
theorem IdMap.same {w w':World} {b n:Nat} {lo hi:Int} (h:IdMap w b n lo hi) (e:w'.heap[b]? =w.heap[b]?):IdMap w' b n lo hi:=by
 obtain ⟨D,⟨es,clock,hb,F,hs,hD⟩,h2⟩:=h;exact ⟨D,⟨es,clock,e.trans hb,F,hs,hD⟩,h2⟩
theorem IdMap.apart {w:World} {b n:Nat} {lo hi:Int} (h:IdMap w b n lo hi) {B:Nat} {e:TypeId} {size m:Nat} {v:Value} {xs:List Value} (ho:w.ownsRow B e size v m xs):v.ownBlock≠some b:=by
 intro hk;obtain ⟨D,⟨es,clock,hb,_⟩,_⟩:=h;obtain ⟨cur,hc⟩:=B7 ho hk;rw [hc] at hb;cases hb
theorem IdMap.look {w:World} {b n:Nat} {lo hi:Int} (h:IdMap w b n lo hi) (d:Int) (hd:I4 d) (h1:lo≤d) (h2:d≤hi):
 (Instr.lookup 224 (.map (some b)) (.int .i64 d) true).run Tryz.prog w=.ok (.tuple #[.int .i64 d,.bool true]) w:=by
 obtain ⟨D,ha,h3,h4⟩:=h;obtain ⟨v,ps,hb,hR⟩:=ha.look_ok S5 Tryz.underlying224 (Z7f w) (plainElem_int Tryz.underlying3 yX) (X4n d hd);rw [h4 d hd h1 h2] at hR;obtain ⟨a,rfl,hy,_⟩:=plainElem_int_inv Tryz.underlying3 hR;injection hy with hy _;injection hy with hy;injection hy with _ hy;rw [hb,Maps.has_true_of_atKey (fun z=>h4 d hd h1 h2 z),←hy]
theorem IdMap.put {w:World} {b n:Nat} {lo hi:Int} (h:IdMap w b n (lo+1) hi) (hd:I4 lo) (hn:n < maxLen):
 ∃ w2,(Instr.mapUpdate 224 (.map (some b)) (.int .i64 lo) (.int .i64 lo)).run Tryz.prog w=.ok () w2∧IdMap w2 b (n+1) lo hi∧w.grownBy w2 (some b):=by
 obtain ⟨D,h1,h2,h3⟩:=h;have ha:=X4n lo hd;have he:(Lit.int .i64 lo).wf=true:=by
  unfold keyOf at ha;rw [Tryz.underlying3] at ha;simp [mapKey,Tryz.underlying3] at ha;exact ha
 obtain ⟨w2,hc,hb,hg⟩:=h1.update S5 Tryz.underlying224 hn ha (plainElem_int (H:=Unit) Tryz.underlying3 he);refine ⟨w2,hc,⟨_,hb,h2.put _ _,fun u hu e1 e2 z=>?_⟩,hg⟩;by_cases e:u=lo
 ·rw [e,atKey_put_same h2 (S5.key ha)]
 ·rw [atKey_put_other (fun e'=>e (by injection e'))];exact h3 u hu yY e2 z
end Go.Proofs.YtfkojnofbpdjdaaGreatDoor
namespace Go.Proofs.YtfkojnofbpdjdaaGreatDoor
open Go.RowKit
theorem R9 (x:Int):∀ u∈V6 x,u.oneCell'=true:=by
 intro u hu;rw [List.mem_singleton.1 hu];rfl
def Z7i (x:Tk):Prop:=(x.k=1∨x.k=5)∨((x.k=2∨x.k=3∨x.k=4)∧I4 x.d)
theorem Z5s (x:Tk) (S:List Int):J2 [x] S=if N1 x∧x.d∉S then S++[x.d] else S:=by
 unfold J2;split<;>rfl
theorem Y9j (f:List Tk) (k:Nat) (h:k < f.length):J2 (f.take (k+1)) []=J2 [f[k]] (J2 (f.take k) []):=by
 rw [List.take_succ_eq_append_getElem h,H4]
theorem Q7o:∀ (f:List Tk) (S:List Int),(J2 f S).length≤S.length+f.length
 | [],S=>by simp [J2]
 | x::f,S=>by
   unfold J2;split
   ·have:=Q7o f (S++[x.d]);simp at this ⊢;omega
   ·have:=Q7o f S;simp;omega
theorem Y5u (f:List Tk) (v:Value) (w:World) (h:RdT w v f) (hl:f.length≤100000) (hk:∀ x∈f,Z7i x):
 Calls Tryz.prog 110 #[v] w (F7 3 V6 1 w (J2 f [])):=by
 obtain ⟨R,hw⟩:∃ R,yK (R=F7 3 V6 1 w (J2 f [])):=⟨_,rfl⟩;rw [←hw.o];obtain ⟨A,c,rfl,_,_⟩:=h.shape;have HF:=zW h;have HK:=zW hk;have hh:=zW (IntSet.made w);have hp:=zW ((Below.refl w.heap.size w).alloc yQ (.map #[] 0));have hE:(Instr.makeMap 223 none).run Tryz.prog w=.ok (.map (some w.heap.size)) (w.alloc (.map #[] 0)):=rfl;clear h hk;go_enter Tryz.func110,Tryz.ntmps110
 go_upto_region 3 with fail
 generalize hM:w.heap.size=M at hh ⊢;generalize w.alloc (.map #[] 0)=w0 at hh hp ⊢;have hG:w.heap.size≤M:=yY;clear hM hE;go_wp2_with fail
 go_loopg [3,10] f.length (fun gk ov iv wr=>∃ k n:Nat,iv=.int .i64 k∧k≤f.length∧n≤k∧yK (IntSet wr M n (J2 (f.take k) []))∧yK (OwnE 3 V6 1 wr w.heap.size ov (J2 (f.take k) []))∧yK (Below w.heap.size w wr)∧f.length - k≤gk)
 case atStart=>exact ⟨0,0,rfl,Nat.zero_le _,yQ,hh.o,OwnE.nil,hp.o,yQ⟩
 case round=>
  obtain ⟨k,n,rfl,hk,hn,HM,HO,HB,hgk⟩:=hrel;clear hh hp;by_cases hlt:k < f.length
  ·have hD:=HK.o _ (List.getElem_mem hlt);obtain ⟨b,o,rfl,hb,c0,c1,c2⟩:=RdT.at_ (HF.o.below HB.o yQ) k hlt;have HT:=zW (Y9j f k hlt);rw [Z5s] at HT;have hF:=Q7o (f.take k) [];have hI:(f.take k).length≤k:=yV;generalize f[k]=x at *;obtain ⟨xk,xt,xd⟩:=x;simp only at c0 c1 c2;have hf:=zW ((Below.refl wr.heap.size wr).alloc yQ (.cells #[.int .i64 xk,.string xt,.int .i64 xd] 31));have hi:=HM.o.lt;have hz:=HB.o.size;rcases hD with hx | ⟨hk2,hin⟩
   ·have CT:=zW (fun w=>X4m xk xt xd w hx);have hS:J2 (f.take (k+1)) []=J2 (f.take k) []:=by
     rw [HT.o,if_neg];rintro ⟨h1,_⟩;rcases hx with h | h<;>rcases h1 with h1 | h1 | h1<;>exact absurd (h.symm.trans h1) yX
    have HS:=zW hS;clear hS HT;generalize J2 (f.take k) []=S0 at *;go_wp2_with (go_at_call 76;refine (CT.o _).mono ?_;rintro e w1 ⟨rfl,hc⟩;have ha:=zW (hf.o.trans (hc.mono hf.o.size));clear hc)
    go_roundg (f.length - (k+1))
    case measure=>omega
    case rel=>
     refine ⟨k+1,n,rfl,hlt,yY,?_,?_,HB.o.trans (ha.o.mono hz),yQ⟩
     ·rw [HS.o];exact HM.o.same (ha.o.block M hi)
     ·rw [HS.o];exact Q8 HO.o fun j hj=>ha.o.block j (HO.o.lt j hj).2
   ·have CT:=zW (fun w=>Q5v xk xt xd w hk2);by_cases hmem:xd∈J2 (f.take k) []
    ·have hS:J2 (f.take (k+1)) []=J2 (f.take k) []:=by
      rw [HT.o,if_neg];rintro ⟨_,h2⟩;exact h2 hmem
     have HS:=zW hS;clear hS HT;generalize J2 (f.take k) []=S0 at *;go_wp2_with (go_at_call 76;refine (CT.o _).mono ?_;rintro e w1 ⟨rfl,hc⟩;have ha:=zW (hf.o.trans (hc.mono hf.o.size));have e2:w1.cell? ⟨wr.heap.size,2,none⟩=some (.int .i64 xd):=(hc.cell yW).trans yU;have hu:=(HM.o.same (ha.o.block M hi)).look xd hin;rw [decide_eq_true hmem] at hu;clear hc)
     go_roundg (f.length - (k+1))
     case measure=>omega
     case rel=>
      refine ⟨k+1,n,rfl,hlt,yY,?_,?_,HB.o.trans (ha.o.mono hz),yQ⟩
      ·rw [HS.o];exact HM.o.same (ha.o.block M hi)
      ·rw [HS.o];exact Q8 HO.o fun j hj=>ha.o.block j (HO.o.lt j hj).2
    ·have hS:J2 (f.take (k+1)) []=J2 (f.take k) []++[xd]:=by
      rw [HT.o];exact if_pos ⟨hk2,hmem⟩
     have HS:=zW hS;have hH:(J2 (f.take k) []).length≤100000:=(by simp at hF;omega);clear hS HT;obtain ⟨A3,c3,rfl⟩:=Q0 HO.o;generalize J2 (f.take k) []=S0 at *;go_wp2_with (first
      | (go_at_call 76;refine (CT.o _).mono ?_;rintro e w1 ⟨rfl,hc⟩;have ha:=zW (hf.o.trans (hc.mono hf.o.size));have e2:w1.cell? ⟨wr.heap.size,2,none⟩=some (.int .i64 xd):=(hc.cell yW).trans yU;have hr:=zW (HM.o.same (ha.o.block M hi));have hu:=hr.o.look xd hin;rw [decide_eq_false hmem] at hu;have ht:=zW (Q8 HO.o fun j hj=>ha.o.block j (HO.o.lt j hj).2);obtain ⟨w2,hJ,ho,hm⟩:=hr.o.put xd hin (Nat.lt_of_le_of_lt (show n≤100000 by omega) yX);have hs:yK (IntSet (w2.alloc (.cells #[.int .i64 xd] 3)) M (n+1) (S0++[xd])):=zW (ho.same (Below.heap_alloc w2 (.cells #[.int .i64 xd] 3) M ho.lt));have hC:M < w2.heap.size:=ho.lt;have hv:=zW (Q8 ht.o fun j hj=>hm.block j (ht.o.lt j hj).2 (fun e=>hr.o.apart ht.o (by rw [hj];exact e)));have e3:w2.cell? ⟨wr.heap.size,2,none⟩=some (.int .i64 xd):=(World.cell?_of_block (w:=w1) (hm.block wr.heap.size (Nat.lt_of_lt_of_le yW hc.size) (fun e=>by injection e with e;omega))).trans e2;have hq:=zW ((HB.o.trans (ha.o.mono hz)).grown hm (Nat.le_trans hz ha.o.size) (fun j hj=>by injection hj with hj;omega));clear hc ho hm)
      | go_loud (at_builtin;refine V1 rfl (.tmp 26) (.tmp 29) 22 3 rfl Tryz.underlying22 _ V6 1 8 P9 rfl yX J9 R9 w.heap.size _ S0 rfl (by exact World.ownsRow.alloc hv.o _) _ [xd] rfl (by exact Z6 V6 1 J9 _ _ rfl xd _) yV yX (by have:=hq.o.size;simp;omega) ?_;intro v8 w8 he hd hg;have hB:=zW he;have hy:=zW (hd w.heap.size w yQ (hq.o.alloc hq.o.size _));have hA:=zW (hs.o.same (hg.block M hs.o.lt (fun e=>hs.o.apart (World.ownsRow.alloc hv.o (.cells #[.int .i64 xd] 3)) e.symm)));clear he hd hg))
     go_roundg (f.length - (k+1))
     case measure=>omega
     case rel=>
      refine ⟨k+1,n+1,rfl,hlt,yY,?_,?_,hy.o,yQ⟩
      ·rw [HS.o];exact hA.o
      ·rw [HS.o];exact hB.o
  ·obtain rfl:k=f.length:=yY;rw [List.take_length] at HO;obtain ⟨A2,c2,rfl⟩:=Q0 HO.o;go_wp2_with fail
   first | go_ret | skip
   rw [hw.o];exact ⟨_,rfl,HO.o,HB.o⟩
theorem Z4w:(Tryz.prog.info? 3).map (fun i=>(i.zero,i.size,i.bytes))=some (some (.int .i64 0),1,8):=by kernel_rfl
theorem Y3t (n i:Nat) (x:Int) (h:(Q1c n)[i]? =some x):i < n∧x=(i:Int)+1:=by
 unfold Q1c at h;rw [List.getElem?_map] at h;by_cases hi:i < n
 ·rw [List.getElem?_range hi] at h;simp at h;exact ⟨hi,yY⟩
 ·rw [List.getElem?_eq_none (by simpa using hi)] at h;cases h
theorem Y1e (n:Nat) (hn:n≤100000) (w:World):
 Calls Tryz.prog 112 #[.int .i64 n] w (fun e w'=>∃ v,e=.returned v∧RdE V6 1 w' v (Q1c n)∧Below w.heap.size w w'):=by
 obtain ⟨R,ha⟩:∃ R:Ending→World→Prop,yK (R=fun e w'=>∃ v,e=.returned v∧RdE V6 1 w' v (Q1c n)∧Below w.heap.size w w'):=⟨_,rfl⟩;rw [←ha.o];have he:=fun w=>run_make_row' (P:=Tryz.prog) 22 3 (.int .i64 0) 8 Tryz.underlying22 Z4w rfl .i64 .i64 n yY yY w;go_enter Tryz.func112,Tryz.ntmps112
 go_wp2_with fail
 go_loopg [9] n (fun gk iv wr=>∃ k:Nat,iv=.int .i64 k∧k≤n∧yK (wr.rowIs w.heap.size 3 n (fun j=>.int .i64 (if j < k then (j:Int)+1 else 0)))∧yK (Below w.heap.size w wr)∧n - k≤gk)
 case atStart=>
  refine ⟨0,rfl,Nat.zero_le _,?_,(Below.refl _ _).alloc yQ _,yQ⟩;exact (World.rowIs_made w (.int .i64 0) n 3).congr fun j _=>rfl
 case round=>
  obtain ⟨k,rfl,hk,HR,HB,hgk⟩:=hrel;by_cases hlt:k < n
  ·have rf:=HR.o.frozen k;have r0:=HR.o.cell (i:=k) hlt;have hc:=zW ((HR.o.set k (.int .i64 ((k:Int)+1))).congr (g:=fun j=>.int .i64 (if j < k+1 then (j:Int)+1 else 0)) fun j _=>by
    by_cases h1:j=k
    ·rw [if_pos h1,h1,if_pos (Nat.lt_succ_self _)]
    ·rw [if_neg h1];by_cases h2:j < k
     ·rw [if_pos h2,if_pos yY]
     ·rw [if_neg h2,if_neg yY])
   have hb:=zW (HB.o.setCell (p:=⟨w.heap.size,k,none⟩) yQ (.int .i64 ((k:Int)+1)));go_wp2_with fail
   go_roundg (n - (k+1))
   case measure=>omega
   case rel=>exact ⟨k+1,rfl,hlt,hc.o,hb.o,yQ⟩
  ·obtain rfl:k=n:=yY;go_wp2_with fail
   first | go_ret | skip
   rw [ha.o];refine ⟨_,rfl,⟨some ⟨w.heap.size,0,none⟩,k,by rw [Q0j];rfl,by rw [Q0j];exact yQ,(fun h=>by cases h),fun _=>⟨w.heap.size,0,rfl,HR.o.lt,fun i x j u hi hj=>?_⟩⟩,HB.o⟩;obtain ⟨h1,h2⟩:=Y3t _ _ _ hi;have hd:j=0:=by
    have:=(List.getElem?_eq_some_iff.1 hj).1;simpa [V6] using this
   subst hd;have:=HR.o.cell (i:=i) h1;rw [if_pos h1] at this;simp [V6] at hj;rw [show 0+(i * 1+0)=i by omega,this,←hj,h2]
theorem Q3y {w:World} {A:Option Addr} {n c:Nat} {l:List Int} (h:RdE V6 1 w (.slice A n c) l) (k:Nat) (hk:k < l.length):∃ b o,A=some ⟨b,o,none⟩∧b < w.heap.size∧w.cell? ⟨b,o+k,none⟩=some (.int .i64 l[k]):=by
 obtain ⟨b,o,hA,hb,hx⟩:=RdE.cells h yY;refine ⟨b,o,hA,hb,?_⟩;have:=hx k _ 0 _ (List.getElem?_eq_getElem hk) rfl;simpa using this
theorem V3c (n k:Nat) (h:k < (Q1c n).length):(Q1c n)[k]=(k:Int)+1:=(Y3t n k _ (List.getElem?_eq_getElem h)).2
def KindT (n:Nat) (x:Tk):Prop:=(x.k=1∨x.k=5)∨((x.k=2∨x.k=3∨x.k=4)∧1≤x.d∧x.d≤(n:Int))
theorem Z0b (f:List Tk) (n:Nat) (v va vb:Value) (w:World) (h:RdT w v f) (ha:RdE V6 1 w va (Q1c n)) (hb:RdE V6 1 w vb (Q1c n)) (hl:f.length≤100000) (hlw:X2 f≤1000000) (hn:n≤100000) (hk:∀ x∈f,KindT n x):
 Calls Tryz.prog 111 #[v,va,vb] w (F7 31 tkC 3 w (Q9 f)):=by
 obtain ⟨R,hJ⟩:∃ R,yK (R=F7 31 tkC 3 w (Q9 f)):=⟨_,rfl⟩;rw [←hJ.o];obtain ⟨A,c,rfl,_,_⟩:=h.shape;obtain ⟨A1,c1,rfl,_,_⟩:=ha.shape;obtain ⟨A2,c2,rfl,_,_⟩:=hb.shape;rw [Q0j];rw [Q0j] at ha hb;have HF:=zW h;have HA:=zW ha;have hN:=zW hb;have HK:=zW hk;have hu:=zW (IdMap.made w (n:Int));have hw:=zW ((Below.refl w.heap.size w).alloc yQ (.map #[] 0));have hU:(Instr.makeMap 224 none).run Tryz.prog w=.ok (.map (some w.heap.size)) (w.alloc (.map #[] 0)):=rfl;clear h hk ha hb;go_enter Tryz.func111,Tryz.ntmps111
 go_upto_region 2 with fail
 generalize hM:w.heap.size=M at hu ⊢;generalize w.alloc (.map #[] 0)=w0 at hu hw ⊢;have hV:w.heap.size≤M:=yY;clear hM hU;go_wp2_with fail
 go_loopg [8] n (fun gk iv wr=>∃ j m:Nat,iv=.int .i64 ((j:Int) - 1)∧j≤n∧m+j≤n∧yK (IdMap wr M m ((j:Int)+1) n)∧yK (Below w.heap.size w wr)∧j≤gk)
 case atStart=>exact ⟨n,0,rfl,yQ,yY,hu.o,hw.o,yQ⟩
 case round=>
  obtain ⟨j,m,rfl,hj,hX,HM,HB,hgk⟩:=hrel;clear hu hw;cases j with
  | zero=>
    rw [show ((0:Nat):Int)+1=1 from rfl] at HM;go_wp2_with fail
    go_loopg [9,36] f.length (fun gk ov iv wr=>∃ k:Nat,iv=.int .i64 k∧k≤f.length∧yK (IdMap wr M m 1 n)∧yK (OwnT 31 wr w.heap.size ov (f.take k))∧yK (Below w.heap.size w wr)∧f.length - k≤gk)
    case atStart=>exact ⟨0,rfl,Nat.zero_le _,HM.o,OwnE.nil,HB.o,yQ⟩
    case round=>
     obtain ⟨k,rfl,hk,hv,HO,ho,hR⟩:=hrel;clear HM HB;by_cases hlt:k < f.length
     ·have hT:=HK.o _ (List.getElem_mem hlt);obtain ⟨b,o,rfl,hb,c0,c1,c2⟩:=RdT.at_ (HF.o.below ho.o yQ) k hlt;have HT:yK (f.take (k+1)=f.take k++[f[k]]):=List.take_succ_eq_append_getElem hlt;have hY:(f.take k).length≤100000:=yV;generalize f[k]=x at *;generalize f.take k=F0 at *;obtain ⟨xk,xt,xd⟩:=x;simp only at c0 c1 c2;have hs:=zW ((Below.refl wr.heap.size wr).alloc yQ (.cells #[.int .i64 xk,.string xt,.int .i64 xd] 31));have hq:=hv.o.lt;have hz:=ho.o.size;obtain ⟨A3,c3,rfl⟩:=Q0 HO.o;rcases hT with hk1 | ⟨hk2,hE,hF⟩
      ·have CT:=zW (fun w=>X4m xk xt xd w hk1);go_wp2_with (first
        | (go_at_call 76;refine (CT.o _).mono ?_;rintro e w1 ⟨rfl,he⟩;have ht:=zW (hs.o.trans (he.mono hs.o.size));have e0:w1.cell? ⟨wr.heap.size,0,none⟩=some (.int .i64 xk):=(he.cell yW).trans yU;have e1:w1.cell? ⟨wr.heap.size,1,none⟩=some (.string xt):=(he.cell yW).trans yU;have e2:w1.cell? ⟨wr.heap.size,2,none⟩=some (.int .i64 xd):=(he.cell yW).trans yU;have hg:=zW (ht.o);have hh:=zW (ho.o.trans (hg.o.mono hz));have hm:yK (IdMap (w1.alloc (.cells (tkC ⟨xk,xt,xd⟩).toArray 31)) M m 1 n):=zW ((hv.o.same (hg.o.block M hq)).same (Below.heap_alloc _ (.cells (tkC ⟨xk,xt,xd⟩).toArray 31) M (Nat.lt_of_lt_of_le hq hg.o.size)));have hp:=zW (Q8 HO.o fun j hj=>hg.o.block j (HO.o.lt j hj).2);clear he)
        | (at_builtin;refine V1 rfl (.tmp 53) (.tmp 55) 24 31 rfl Tryz.underlying24 _ tkC 3 32 Z7 rfl yX Q5 K2 w.heap.size _ F0 rfl (by exact World.ownsRow.alloc hp.o _) _ [⟨xk,xt,xd⟩] rfl (by exact Z6 tkC 3 Q5 _ _ rfl ⟨xk,xt,xd⟩ _) yV yX (by have:=hh.o.size;simp at this ⊢;omega) ?_;intro v8 w8 hd hc hf;have hC:=zW hd;have hy:=zW (hc w.heap.size w yQ (hh.o.alloc hh.o.size _));have hA:=zW (hm.o.same (hf.block M hm.o.lt (fun e=>hm.o.apart (World.ownsRow.alloc hp.o (.cells (tkC ⟨xk,xt,xd⟩).toArray 31)) e.symm)));clear hd hc hf))
       go_roundg (f.length - (k+1))
       case measure=>omega
       case rel=>
        refine ⟨k+1,rfl,hlt,hA.o.same rfl,?_,hy.o,yQ⟩;rw [HT.o];exact hC.o
      ·have CT:=zW (fun w=>Q5v xk xt xd w hk2);have hE:1≤xd:=hE;have hF:xd≤(n:Int):=hF;have hG:I4 xd:=(by unfold I4;omega);go_wp2_with (first
        | (go_at_call 76;refine (CT.o _).mono ?_;rintro e w1 ⟨rfl,he⟩;have ht:=zW (hs.o.trans (he.mono hs.o.size));have e0:w1.cell? ⟨wr.heap.size,0,none⟩=some (.int .i64 xk):=(he.cell yW).trans yU;have e1:w1.cell? ⟨wr.heap.size,1,none⟩=some (.string xt):=(he.cell yW).trans yU;have e2:w1.cell? ⟨wr.heap.size,2,none⟩=some (.int .i64 xd):=(he.cell yW).trans yU;have fr2:w1.frozen? ⟨wr.heap.size,2,none⟩=false:=(he.frozen yW).trans yU;have hW:=(hv.o.same (ht.o.block M hq)).look xd hG hE hF;have hg:=zW (ht.o.setCell (p:=⟨wr.heap.size,2,none⟩) yQ (.int .i64 xd));have hh:=zW (ho.o.trans (hg.o.mono hz));have hm:yK (IdMap ((w1.setCell ⟨wr.heap.size,2,none⟩ (.int .i64 xd)).alloc (.cells (tkC ⟨xk,xt,xd⟩).toArray 31)) M m 1 n):=zW ((hv.o.same (hg.o.block M hq)).same (Below.heap_alloc _ (.cells (tkC ⟨xk,xt,xd⟩).toArray 31) M (Nat.lt_of_lt_of_le hq hg.o.size)));have hp:=zW (Q8 HO.o fun j hj=>hg.o.block j (HO.o.lt j hj).2);clear he)
        | (at_builtin;refine V1 rfl (.tmp 53) (.tmp 55) 24 31 rfl Tryz.underlying24 _ tkC 3 32 Z7 rfl yX Q5 K2 w.heap.size _ F0 rfl (by exact World.ownsRow.alloc hp.o _) _ [⟨xk,xt,xd⟩] rfl (by exact Z6 tkC 3 Q5 _ _ (by simp [World.setCell]) ⟨xk,xt,xd⟩ _) yV yX (by have:=hh.o.size;simp at this ⊢;omega) ?_;intro v8 w8 hd hc hf;have hC:=zW hd;have hy:=zW (hc w.heap.size w yQ (hh.o.alloc hh.o.size _));have hA:=zW (hm.o.same (hf.block M hm.o.lt (fun e=>hm.o.apart (World.ownsRow.alloc hp.o (.cells (tkC ⟨xk,xt,xd⟩).toArray 31)) e.symm)));clear hd hc hf))
       go_roundg (f.length - (k+1))
       case measure=>omega
       case rel=>
        refine ⟨k+1,rfl,hlt,hA.o.same rfl,?_,hy.o,yQ⟩;rw [HT.o];exact hC.o
     ·obtain rfl:k=f.length:=yY;rw [List.take_length] at HO;have hP:=zW (X2p f _ _ (HO.o.rd Q5) hl hlw);obtain ⟨A3,c3,rfl⟩:=Q0 HO.o;have hz:=ho.o.size;go_wp2_with (go_at_call 104;refine (hP.o).mono ?_;rintro e w2 ⟨v2,rfl,hH,hD⟩;obtain ⟨A4,c4,rfl⟩:=Q0 hH;have hQ:=zW (Y7 hH hz);have hx:=zW (ho.o.trans (hD.mono hz));clear hH hD)
      first | go_ret | skip
      rw [hJ.o];exact ⟨_,rfl,hQ.o,hx.o⟩
  | succ j=>
    have hL:j < (Q1c n).length:=(by rw [Q0j];omega);obtain ⟨b1,o1,rfl,he,c1⟩:=Q3y (HA.o.below HB.o yQ) j hL;obtain ⟨b2,o2,rfl,hD,c2⟩:=Q3y (hN.o.below HB.o yQ) j hL;rw [V3c] at c1 c2;rw [show ((j+1:Nat):Int) - 1=(j:Int) by omega];have hG:I4 ((j:Int)+1):=(by unfold I4;omega);have hB:=HM.o;rw [show (((j+1:Nat):Int)+1)=((j:Int)+1)+1 by omega] at hB;have hI:IdMap wr.drew M m (((j:Int)+1)+1) n:=hB.same rfl;obtain ⟨w2,hZ,hr,hK⟩:=hI.put hG (Nat.lt_of_le_of_lt (show m≤100000 by omega) yX);have hO:=zW hr;have hz:=HB.o.size;have hx:=zW (HB.o.drew.grown hK hz (fun i hi=>by injection hi with hi;omega));have hS:j < n:=yY;clear hB hI hr hK;go_wp2_with fail
    go_region
    all_goals (
     go_wp2_with fail
     go_roundg j
     case measure=>omega
     case rel=>
      refine ⟨j,m+1,rfl,yY,yY,hO.o,hx.o,yQ⟩)
theorem KindT.ok {n:Nat} {x:Tk} (hn:n≤100000) (h:KindT n x):Z7i x:=by
 rcases h with h | ⟨h,h1,h2⟩
 ·exact .inl h
 ·exact .inr ⟨h,by unfold I4;omega⟩
theorem Y2k (f:List Tk) (n:Nat) (v:Value) (w:World) (h:RdT w v f) (hl:f.length≤100000) (hlw:X2 f≤1000000) (hn:n≤100000) (hk:∀ x∈f,KindT n x) (hnum:J2 f []=Q1c n):
 Calls Tryz.prog 70 #[v] w (F7 31 tkC 3 w (Q9 f)):=by
 have CN:=zW (Y5u f v w h hl fun x hx=>(hk x hx).ok hn);rw [hnum] at CN;obtain ⟨A,c,rfl,_,_⟩:=h.shape;have HF:=zW h;have CC:=zW (fun w=>Y1e n hn w);have CR:=zW (fun (va vb:Value) (w':World) (h:RdT w' (.slice A f.length c) f) (ha:RdE V6 1 w' va (Q1c n)) (hb:RdE V6 1 w' vb (Q1c n))=>Z0b f n _ va vb w' h ha hb hl hlw hn hk);clear h hk hnum;go_enter Tryz.func70,Tryz.ntmps70
 go_wp2_with (first
  | (go_at_call 110;refine (CN.o).mono ?_;rintro e w1 ⟨v1,rfl,hf,hm⟩;obtain ⟨A1,c1,rfl⟩:=Q0 hf;have hj:=zW (hf.rd J9);have hi:=zW hm;rw [Q0j];rw [Q0j] at hj;clear hf hm)
  | (go_at_call 112;refine (CC.o _).mono ?_;rintro e w2 ⟨v2,rfl,hg,he⟩;obtain ⟨A2,c2,rfl,_,_⟩:=RdE.shape hg;have hq:=zW hg;have hc:=zW (hi.o.trans (he.mono hi.o.size));have hd:=zW (hj.o.below he yQ);clear hg he)
  | (go_at_call 111;refine (CR.o _ _ _ (by exact HF.o.below hc.o yQ) (by exact hd.o) (by exact hq.o)).mono ?_;rintro e w3 ⟨v3,rfl,hh,ho⟩;obtain ⟨A3,c3,rfl⟩:=Q0 hh;have hr:=zW (Y7 hh hc.o.size);have hp:=zW (hc.o.trans (ho.mono hc.o.size));clear hh ho))
 go_ret
 exact ⟨_,rfl,hr.o,hp.o⟩
def X8u (m fmt:Int) (data:ByteArray) (ps:List Pt):Prop:=∀ w:World,w.cell? ⟨0,0,none⟩=some (.int .i64 m)→Calls Tryz.prog (V9t fmt) #[.string data] w (K4 ps w)
def X8t (m fmt:Int) (raw:ByteArray) (f:List Tk):Prop:=∀ w:World,w.cell? ⟨0,0,none⟩=some (.int .i64 m)→Calls Tryz.prog (V6n fmt) #[.string raw] w (Q9m f w)
def V6i (m fmt:Int) (raw:ByteArray) (l:List Int):Prop:=∀ w:World,w.cell? ⟨0,0,none⟩=some (.int .i64 m)→Calls Tryz.prog (V6l fmt) #[.string raw] w (Q4d l w)
def V6j (m fmt:Int) (f:List Tk) (s:ByteArray):Prop:=∀ (A:Option Addr) (c:Nat) (w:World),w.cell? ⟨0,0,none⟩=some (.int .i64 m)→RdT w (.slice A f.length c) f→Calls Tryz.prog (V6q fmt) #[.slice A f.length c] w (Q4e s w)
def Y7x (fmt:Int) (ps:List Pt) (w:World) (e:Ending) (w':World):Prop:=
 ∃ A c,e=.returned (.tuple #[.agg #[.int .i64 fmt,.slice A ps.length c],.int .i64 0,.int .i64 0])∧OwnE 52 ptC 3 w' w.heap.size (.slice A ps.length c) ps∧Below w.heap.size w w'
theorem Y6p {fn:Func} {p u v:Tmp} (h:fn.results=#[.cell p 41,.tmp u,.tmp v]) (tmps:Array Value) (w:World) (g:Nat) (k:Int) (A:Option Addr) (n c:Nat) (x y:Value) (hp:tmps.getD p undef=.pointer (some ⟨g,0,none⟩)) (hu:tmps.getD u undef=x) (hv:tmps.getD v undef=y)
 (c0:w.cell? ⟨g,0,none⟩=some (.int .i64 k)) (c1:w.cell? ⟨g,1,none⟩=some (.slice A n c)):
 (results fn tmps).run Tryz.prog w=.ok (.tuple #[.agg #[.int .i64 k,.slice A n c],x,y]) w:=by
 rw [Q2v h,hp,hu,hv];go_simp
theorem X5l (m fmt:Int) (hf:E7 fmt) (data:ByteArray) (ps:List Pt) (h:X8u m fmt data ps) (w:World) (hm:w.cell? ⟨0,0,none⟩=some (.int .i64 m)):
 Calls Tryz.prog 28 #[.int .i64 fmt,.string data] w (Y7x fmt ps w):=by
 have CK:=zW (fun w=>X2l fmt hf w);have CS:=zW (fun w hm=>Z6x fmt hf data ps w (h w hm));have HM:=zW hm;have HA:=zW ((Below.refl w.heap.size w).alloc yQ (.cells #[.int .i64 0,.slice none 0 0] 41));clear h hm;go_enter Tryz.func28,Tryz.ntmps28
 go_wp2_with (first
  | (go_at_call 55;refine (CK.o _).mono ?_;rintro e w' ⟨rfl,rfl⟩)
  | (go_at_call 57;refine (CS.o _ (by exact X6 HM.o HA.o)).mono ?_;rintro e w1 ⟨v,rfl,ho,hb⟩;obtain ⟨A,c,rfl⟩:=Q0 ho;have HO:=zW ho;have HB:=zW (HA.o.trans (hb.mono HA.o.size));have q0:w1.cell? ⟨w.heap.size,0,none⟩=some (.int .i64 0):=(hb.cell yW).trans yU;have q1:w1.cell? ⟨w.heap.size,1,none⟩=some (.slice none 0 0):=(hb.cell yW).trans yU;have y0:w1.frozen? ⟨w.heap.size,0,none⟩=false:=(hb.frozen yW).trans yU;have y1:w1.frozen? ⟨w.heap.size,1,none⟩=false:=(hb.frozen yW).trans yU;clear hb ho))
 refine bodyPost_ret (Y6p rfl _ _ w.heap.size fmt A ps.length c _ _ rfl rfl rfl yU yU) rfl ?_;refine ⟨A,c,rfl,Y7 (Q8 HO.o fun k hk=>?_) HA.o.size,(HB.o.setCell (p:=⟨w.heap.size,0,none⟩) yQ _).setCell (p:=⟨w.heap.size,1,none⟩) yQ _⟩;have ha:=(HO.o.lt k hk).1;have hc:k≠w.heap.size:=by
  intro e;rw [e] at ha;simp at ha;omega
 rw [Below.heap_setCell _ _ _ _ hc,Below.heap_setCell _ _ _ _ hc]
def K3:List Pt→Nat→List Int
 | [],_=>[]
 | p::ps,i=>if p.un=true then (i:Int)::K3 ps (i+1) else K3 ps (i+1)
theorem X7y:∀ (a b:List Pt) (i:Nat),K3 (a++b) i=K3 a i++K3 b (i+a.length)
 | [],b,i=>by simp [K3]
 | p::a,b,i=>by
   rw [List.cons_append,K3,K3,X7y a b (i+1),List.length_cons,show i+1+a.length=i+(a.length+1) by omega];split<;>rfl
theorem Y7s (ps:List Pt) (k:Nat) (h:k < ps.length):K3 (ps.take (k+1)) 0=if ps[k].un=true then K3 (ps.take k) 0++[(k:Int)] else K3 (ps.take k) 0:=by
 rw [List.take_succ_eq_append_getElem h,X7y,Nat.zero_add];have hl:(ps.take k).length=k:=yV;rw [hl,K3];split
 ·simp [K3]
 ·simp [K3]
theorem Q4z:∀ (ps:List Pt) (i:Nat),(K3 ps i).length≤ps.length
 | [],i=>by simp [K3]
 | p::ps,i=>by
   rw [K3];have:=Q4z ps (i+1);split<;>simp<;>omega
theorem X3c (fmt:Int) (ps:List Pt) (A:Option Addr) (c:Nat) (w:World) (h:RdE ptC 3 w (.slice A ps.length c) ps) (hl:ps.length≤100000):
 Calls Tryz.prog 26 #[.agg #[.int .i64 fmt,.slice A ps.length c]] w (F7 3 V6 1 w (K3 ps 0)):=by
 obtain ⟨R,hh⟩:∃ R,yK (R=F7 3 V6 1 w (K3 ps 0)):=⟨_,rfl⟩;rw [←hh.o];have HP:=zW h;have hg:=zW ((Below.refl w.heap.size w).alloc yQ (.cells #[.int .i64 fmt,.slice A ps.length c] 41));clear h;go_enter Tryz.func26,Tryz.ntmps26
 go_wp2_with fail
 go_loopg [3,9] ps.length (fun gk ov iv wr=>∃ k:Nat,iv=.int .i64 k∧k≤ps.length∧yK (OwnE 3 V6 1 wr w.heap.size ov (K3 (ps.take k) 0))∧yK (Below w.heap.size w wr)∧ps.length - k≤gk)
 case atStart=>exact ⟨0,rfl,Nat.zero_le _,OwnE.nil,hg.o,yQ⟩
 case round=>
  obtain ⟨k,rfl,hk,HO,HB,hgk⟩:=hrel;clear hg;by_cases hlt:k < ps.length
  ·obtain ⟨b,o,rfl,hb,c0,c1,c2⟩:=RdP.at_ (HP.o.below HB.o yQ) k hlt;have HT:=zW (Y7s ps k hlt);have hm:=Q4z (ps.take k) 0;have hn:(ps.take k).length≤k:=yV;have ho:(K3 (ps.take k) 0).length≤100000:=yY;clear hm hn;generalize K3 (ps.take k) 0=S0 at *;generalize ps[k].raw=x2 at *;generalize ps[k].key=x1 at *;have hz:=HB.o.size;cases hun:ps[k].un with
   | false=>
     rw [hun] at c0 HT;have he:yK (K3 (ps.take (k+1)) 0=S0):=HT.o;have HA:=zW (HB.o.alloc hz (.cells #[.bool false,.string x1,.string x2] 52));have hd:=zW (World.ownsRow.alloc HO.o (.cells #[.bool false,.string x1,.string x2] 52));clear HT hun;go_wp2_with fail
     go_roundg (ps.length - (k+1))
     case measure=>omega
     case rel=>
      refine ⟨k+1,rfl,hlt,?_,HA.o,yQ⟩;rw [he.o];exact hd.o
   | true=>
     rw [hun] at c0 HT;have he:yK (K3 (ps.take (k+1)) 0=S0++[(k:Int)]):=HT.o;have HA:=zW ((HB.o.alloc hz (.cells #[.bool true,.string x1,.string x2] 52)).alloc yV (.cells #[.int .i64 k] 3));have hd:=zW (World.ownsRow.alloc (World.ownsRow.alloc HO.o (.cells #[.bool true,.string x1,.string x2] 52)) (.cells #[.int .i64 k] 3));obtain ⟨A3,c3,rfl⟩:=Q0 HO.o;clear HT hun;go_wp2_with (at_builtin;refine V1 rfl (.tmp 16) (.tmp 18) 22 3 rfl Tryz.underlying22 _ V6 1 8 P9 rfl yX J9 R9 w.heap.size _ S0 rfl (by exact hd.o) _ [(k:Int)] rfl (by exact Z6 V6 1 J9 _ _ yW (k:Int) _) yV yX HA.o.size ?_;intro v8 w8 hc ha hf;have hj:=zW hc;have hi:=zW (ha w.heap.size w yQ HA.o);clear hc ha hf)
     go_roundg (ps.length - (k+1))
     case measure=>omega
     case rel=>
      refine ⟨k+1,rfl,hlt,?_,hi.o,yQ⟩;rw [he.o];exact hj.o
  ·obtain rfl:k=ps.length:=yY;rw [List.take_length] at HO;obtain ⟨A2,c2,rfl⟩:=Q0 HO.o;go_wp2_with fail
   first | go_ret | skip
   rw [hh.o];exact ⟨_,rfl,HO.o,HB.o⟩
section
variable {X S U:Type}
theorem Y4s (step:List U×S→X→List U×S) (h:∀ l s t x,step (l++s,t) x=(l++(step (s,t) x).1,(step (s,t) x).2)):∀ (xs:List X) (l s:List U) (t:S),xs.foldl step (l++s,t)=(l++(xs.foldl step (s,t)).1,(xs.foldl step (s,t)).2)
 | [],_,_,_=>rfl
 | x::xs,l,s,t=>by rw [List.foldl_cons,List.foldl_cons,h,Y4s step h xs]
theorem X5w (step:List U×S→X→List U×S) (h:∀ l s t x,step (l++s,t) x=(l++(step (s,t) x).1,(step (s,t) x).2)) (A B:List X) (x:X) (u:U) (s0:List U×S) (t':S) (hx:step (A.foldl step s0) x=((A.foldl step s0).1++[u],t')):
 (A++x::B).foldl step s0=((A.foldl step s0).1++u::(B.foldl step ([],t')).1,(B.foldl step ([],t')).2):=by
 rw [List.foldl_append,List.foldl_cons,hx];have:=Y4s step h B ((A.foldl step s0).1++[u]) [] t';rw [List.append_nil] at this;rw [this,List.append_assoc];rfl
theorem Z3j (a b:List U) (u u':U):(a++u::b).set a.length u'=a++u'::b:=by
 rw [List.set_append_right _ _ yQ,Nat.sub_self];rfl
end
theorem Z0s (l s:List Un) (t:List UInt8) (x:MK):P1 (l++s,t) x=(l++(P1 (s,t) x).1,(P1 (s,t) x).2):=by
 cases x<;>simp [P1]
theorem Z0t (l s:List Un) (t:List UInt8) (x:RL):L7 (l++s,t) x=(l++(L7 (s,t) x).1,(L7 (s,t) x).2):=by
 cases x<;>simp [L7]
theorem Z0u (l s:List Un) (t:List UInt8) (x:Rc):P2 (l++s,t) x=(l++(P2 (s,t) x).1,(P2 (s,t) x).2):=by simp [P2]
theorem X5b:∀ (ms:List MK) (k:Nat),k < K9 ms→∃ A t key ts B,ms=A++MK.blk t key ts::B∧K9 A=k
 | [],k,h=>by simp [K9] at h
 | .blk t key ts::ms,0,_=>⟨[],t,key,ts,ms,rfl,rfl⟩
 | .blk t key ts::ms,k+1,h=>by
   obtain ⟨A,t',k',ts',B,e,hA⟩:=X5b ms k (by rw [K9] at h;omega);exact ⟨.blk t key ts::A,t',k',ts',B,by rw [e];rfl,by rw [K9,hA]⟩
 | .byte c::ms,k,h=>by
   obtain ⟨A,t',k',ts',B,e,hA⟩:=X5b ms k h;exact ⟨.byte c::A,t',k',ts',B,by rw [e];rfl,hA⟩
 | .note::ms,k,h=>by
   obtain ⟨A,t',k',ts',B,e,hA⟩:=X5b ms k h;exact ⟨.note::A,t',k',ts',B,by rw [e];rfl,hA⟩
 | .tag c::ms,k,h=>by
   obtain ⟨A,t',k',ts',B,e,hA⟩:=X5b ms k h;exact ⟨.tag c::A,t',k',ts',B,by rw [e];rfl,hA⟩
theorem Y3b:∀ (ls:List RL) (k:Nat),k < (Y8 ls).length→∃ A key ts B,ls=A++RL.unit key ts::B∧(Y8 A).length=k
 | [],k,h=>by simp [Y8] at h
 | .unit key ts::ls,0,_=>⟨[],key,ts,ls,rfl,rfl⟩
 | .unit key ts::ls,k+1,h=>by
   obtain ⟨A,k',ts',B,e,hA⟩:=Y3b ls k (by
    rw [show Y8 (.unit key ts::ls)=key::Y8 ls from rfl,List.length_cons] at h;omega)
   exact ⟨.unit key ts::A,k',ts',B,by rw [e];rfl,by rw [show Y8 (.unit key ts::A)=key::Y8 A from rfl,List.length_cons,hA]⟩
 | .skip l::ls,k,h=>by
   obtain ⟨A,k',ts',B,e,hA⟩:=Y3b ls k h;exact ⟨.skip l::A,k',ts',B,by rw [e];rfl,hA⟩
theorem Q3l:∀ (A B:List MK) (t key:List UInt8) (ts ts':Els) (k:Nat),R4 k (A++.blk t key ts::B)→R4 k (A++.blk t key ts'::B)
 | [],_,_,_,_,_,_,h=>h
 | .blk t0 k0 ts0::A,B,t,key,ts,ts',k,h=>⟨h.1,h.2.1,Q3l A B t key ts ts' (k+1) h.2.2⟩
 | .byte _::A,B,t,key,ts,ts',k,h=>Q3l A B t key ts ts' k h
 | .note::A,B,t,key,ts,ts',k,h=>Q3l A B t key ts ts' k h
 | .tag _::A,B,t,key,ts,ts',k,h=>Q3l A B t key ts ts' k h
inductive DS where
 | mk (ms:List MK)
 | rs (ls:List RL)
 | sh (a b:List Fl) (rs:List Rc)
def DS.fmt:DS→Int
 | .mk _=>1
 | .rs _=>2
 | .sh _ _ _=>3
def DS.un:DS→List Un×List UInt8
 | .mk ms=>Y5 ms
 | .rs ls=>Y0 ls
 | .sh a b rr=>Z4 a b rr
def DS.Ok:DS→Prop
 | .mk ms=>(∀ x∈ms,X8f x)∧R4 0 ms
 | .rs ls=>(∀ x∈ls,X8g x)∧(Y8 ls).Nodup∧(Y8 ls).length≤1000
 | .sh a b rr=>(∀ f∈a,Q5m f∧Q3u f≠P8)∧(∀ f∈b,Q5m f∧Q3u f≠P8)∧(∀ r∈rr,RcF a b r)∧(∀ i r,rr[i]? =some r→r.key=Lib.decDigits (i+1))∧rr.length≤98∧a.length+1+b.length≤90
theorem DS.ok_fmt (d:DS):E7 d.fmt:=by
 cases d with
 | mk ms=>exact .inl rfl
 | rs ls=>exact .inr (.inl rfl)
 | sh a b rs=>exact .inr (.inr rfl)
def DS.ps (d:DS):List Pt:=B8 d.un.1 d.un.2
def DS.data (d:DS):List UInt8:=P3 d.un.1 d.un.2
theorem DS.bytes (d:DS):Z0 d.ps=d.data:=Q7r _ _
theorem DS.spl (m:Int) (d:DS) (h:d.Ok) (hs:d.data.length≤65536):X8u m d.fmt (ofL (Z0 d.ps)) d.ps:=fun w hm=>by
 rw [DS.bytes];have hz:(ofL d.data).size≤65536:=(by rw [Q6];exact hs);cases d with
 | mk ms=>exact X3q _ ms m w hm (by simpa [ofL,DS.data,DS.un,X5] using Q5a ms) h.1 h.2 hz
 | rs ls=>exact Y6w _ ls m w hm (by simpa [ofL,DS.data,DS.un,X4] using Q9h ls) h.1 h.2.1 h.2.2 hz
 | sh a b rs=>
   have:=Y7h (ofL (DS.sh a b rs).data) a b rs [] w (.inl rfl) (by simpa [ofL,DS.data,DS.un,U1] using Q9i a b rs) h.1 h.2.1 h.2.2.1 h.2.2.2.1 h.2.2.2.2.1 h.2.2.2.2.2 hz;rw [List.append_nil] at this;exact this
theorem X7m {α β:Type} (P:List α×β) (sa:List α) (u v:α) (r:List α) (b:β) (h:P=(sa++u::r,b)) (k:Nat) (hk:sa.length=k):P.1[k]? =some u∧(sa++v::r,b)=(P.1.set k v,P.2):=by
 subst h hk;refine ⟨?_,by rw [Z3j]⟩;show (sa++u::r)[sa.length]? =some u;rw [List.getElem?_append_right yQ,Nat.sub_self];rfl
theorem DS.set (d:DS) (h:d.Ok) (k:Nat) (u:Un) (hu:d.un.1[k]? =some u) (ts:Els) (hr:RawOk d.fmt ts):∃ d':DS,d'.Ok∧d'.fmt=d.fmt∧d'.un=(d.un.1.set k ⟨u.sk,u.key,ts⟩,d.un.2):=by
 have hk:k < d.un.1.length:=(List.getElem?_eq_some_iff.1 hu).1;cases d with
 | mk ms=>
   have ha:k < K9 ms:=(by rw [←M3];exact hk);obtain ⟨A,t,key,ts0,B,rfl,hA⟩:=X5b ms k ha;have e1:=fun ts=>X5w P1 Z0s A B (.blk t key ts) ⟨(A.foldl P1 ([],[])).2++(60::t++[62]),key,ts⟩ ([],[]) (G6 t) rfl;have hl:(A.foldl P1 ([],[])).1.length=k:=(by rw [←hA,←M3];rfl);refine ⟨.mk (A++.blk t key ts::B),⟨fun x hx=>?_,Q3l A B t key ts0 ts 0 h.2⟩,rfl,?_⟩
   ·rcases List.mem_append.1 hx with hx | hx
    ·exact h.1 x (by simp [hx])
    ·rcases List.mem_cons.1 hx with rfl | hx
     ·have:=h.1 (.blk t key ts0) yW;exact ⟨this.1,this.2.1,hr⟩
     ·exact h.1 x (by simp [hx])
   ·have e2:∀ ts,(DS.mk (A++.blk t key ts::B)).un=_:=e1;obtain ⟨g1,g2⟩:=X7m _ _ _ ⟨u.sk,u.key,ts⟩ _ _ (e2 ts0) k hl;rw [hu] at g1;injection g1 with g1;rw [←g2,e2 ts,g1]
 | rs ls=>
   have ha:k < (Y8 ls).length:=(by rw [←Q0c];exact hk);obtain ⟨A,key,ts0,B,rfl,hA⟩:=Y3b ls k ha;have e1:=fun ts=>X5w L7 Z0t A B (.unit key ts) ⟨(A.foldl L7 ([],[])).2++(key++[61]),key,ts⟩ ([],[]) [10] rfl;have hl:(A.foldl L7 ([],[])).1.length=k:=(by rw [←hA,←Q0c];rfl);have hc:Y8 (A++.unit key ts::B)=Y8 (A++.unit key ts0::B):=(by rw [T9,T9];rfl);refine ⟨.rs (A++.unit key ts::B),⟨fun x hx=>?_,by rw [hc];exact h.2.1,by rw [hc];exact h.2.2⟩,rfl,?_⟩
   ·rcases List.mem_append.1 hx with hx | hx
    ·exact h.1 x (by simp [hx])
    ·rcases List.mem_cons.1 hx with rfl | hx
     ·have:=h.1 (.unit key ts0) yW;exact ⟨this.1,this.2.1,this.2.2.1,hr⟩
     ·exact h.1 x (by simp [hx])
   ·have e2:∀ ts,(DS.rs (A++.unit key ts::B)).un=_:=e1;obtain ⟨g1,g2⟩:=X7m _ _ _ ⟨u.sk,u.key,ts⟩ _ _ (e2 ts0) k hl;rw [hu] at g1;injection g1 with g1;rw [←g2,e2 ts,g1]
 | sh a b rs=>
   have hd:(Z4 a b rs).1.length=rs.length:=by
    suffices hh:∀ (rs:List Rc) (st:List Un×List UInt8),(rs.foldl P2 st).1.length=st.1.length+rs.length by
     have:=hh rs ([],R2 a b);unfold Z4;simpa using this
    intro rs;induction rs with
    | nil=>intro st;rfl
    | cons x rs ih=>intro st;rw [List.foldl_cons,ih];simp [P2];omega
   have ha:k < rs.length:=(by rw [←hd];exact hk);have e0:rs=rs.take k++rs[k]::rs.drop (k+1):=(by rw [←List.drop_eq_getElem_cons ha,List.take_append_drop]);obtain ⟨A,r,B,rfl,hA⟩:∃ A r B,rs=A++r::B∧A.length=k:=⟨_,_,_,e0,by simp;omega⟩;have e1:=fun ts=>X5w P2 Z0u A B ⟨r.pre,r.key,ts,r.post⟩ ⟨(A.foldl P2 ([],R2 a b)).2++(10::(F1 r.pre++[34])),r.key,ts⟩ ([],R2 a b) (34::T5 r.post) rfl;have hl:(A.foldl P2 ([],R2 a b)).1.length=k:=by
    have hh:∀ (rs:List Rc) (st:List Un×List UInt8),(rs.foldl P2 st).1.length=st.1.length+rs.length:=by
     intro rs;induction rs with
     | nil=>intro st;rfl
     | cons x rs ih=>intro st;rw [List.foldl_cons,ih];simp [P2];omega
    rw [hh,hA];simp
   obtain ⟨h1,h2,h3,h4,h5,h6⟩:=h;have hb:=h3 r yW;refine ⟨.sh a b (A++⟨r.pre,r.key,ts,r.post⟩::B),⟨h1,h2,fun x hx=>?_,fun i x hi=>?_,by simpa using h5,h6⟩,rfl,?_⟩
   ·rcases List.mem_append.1 hx with hx | hx
    ·exact h3 x (by simp [hx])
    ·rcases List.mem_cons.1 hx with rfl | hx
     ·exact ⟨hb.pre,hb.post,hb.okA,hb.okB,hr⟩
     ·exact h3 x (by simp [hx])
   ·by_cases hik:i=k
    ·subst hik;rw [←hA,List.getElem?_append_right yQ,Nat.sub_self] at hi;injection hi with hi;rw [←hi];exact h4 i r (by rw [←hA,List.getElem?_append_right yQ,Nat.sub_self];rfl)
    ·refine h4 i x ?_;rw [←hi];by_cases hlt:i < A.length
     ·rw [List.getElem?_append_left hlt,List.getElem?_append_left hlt]
     ·rw [List.getElem?_append_right yY,List.getElem?_append_right yY];obtain ⟨j,hj⟩:∃ j,i - A.length=j+1:=⟨i - A.length - 1,yY⟩;rw [hj];rfl
   ·have e2:∀ ts,(DS.sh a b (A++⟨r.pre,r.key,ts,r.post⟩::B)).un=_:=e1;have e3:(DS.sh a b (A++r::B)).un=_:=e1 r.ts;obtain ⟨g1,g2⟩:=X7m _ _ _ ⟨u.sk,u.key,ts⟩ _ _ e3 k hl;rw [hu] at g1;injection g1 with g1;rw [←g2,e2 ts,g1]
theorem Q7a (m fmt:Int) (hf:E7 fmt) (ts:Els) (h:RawOk fmt ts) (hs:(Q2 ts).length≤65536):X8t m fmt (ofL (Q2 ts)) (Q9 (X1 ts)):=by
 have hr:Rdb fmt (ofL (Q2 ts)) ts:=⟨by simp [ofL],h.els,h.len,by rw [Q6];omega⟩;intro w hm;rcases hf with rfl | rfl | rfl
 ·exact Q1f _ ts m w hm hr h.num
 ·exact X1d _ ts w hr h.cont
 ·exact X1g _ ts w hr
theorem X5o (fmt:Int) (hf:fmt≠2) (ts:Els) (h:∀ e∈ts,ElOk fmt e.1 e.2):∀ (p b:Nat),p=b→T6 ts p b=p+(Q2 ts).length:=by
 induction ts with
 | nil=>intro p b h;simp [T6,Q2,h]
 | cons e ts ih=>
   intro p b hb;obtain ⟨r,o⟩:=e;cases o with
   | none=>exact absurd (by have:=h (r,none) yW;cases this;rfl) hf
   | some x=>
     rw [T6,ih (fun e he=>h e (by simp [he])) _ _ rfl,show Q2 ((r,some x)::ts)=r++Q2 ts from rfl,List.length_append];omega
def X5j (ts:Els):List Int:=csE ts++[((T6 ts 0 0:Nat):Int)]
theorem V3d (ts:Els):X5j ts=(V2l ts).map fun (n:Nat)=>(n:Int):=by unfold X5j V2l csE;simp
theorem Z4e (m fmt:Int) (hf:E7 fmt) (ts:Els) (h:RawOk fmt ts) (hs:(Q2 ts).length≤65536):V6i m fmt (ofL (Q2 ts)) (X5j ts):=by
 have hr:Rdb fmt (ofL (Q2 ts)) ts:=⟨by simp [ofL],h.els,h.len,by rw [Q6];omega⟩;unfold X5j;intro w hm;rcases hf with rfl | rfl | rfl
 ·have e:=X5o 1 yX ts h.els 0 0 rfl;rw [Nat.zero_add] at e;rw [e];exact X6j _ ts m w hm hr h.num
 ·exact Z0g _ ts w hr h.cont
 ·have e:=X5o 3 yX ts h.els 0 0 rfl;rw [Nat.zero_add] at e;rw [e];exact Z0j _ ts w hr
theorem Z4l (m fmt:Int) (hf:E7 fmt) (f:List Tk) (hv:ValF f) (h1:fmt=1→Q6t f) (h2:fmt≠1→∀ x∈f,V5 x):V6j m fmt f (ofL (J5 fmt f)):=by
 intro A c w hm hr;rcases hf with rfl | rfl | rfl
 ·exact X0l f _ m w hm hr hv (h1 rfl)
 ·exact Y2r f _ m w hm hr hv (h2 yX)
 ·exact Y2s f _ m w hm hr hv (h2 yX)
end Go.Proofs.YtfkojnofbpdjdaaGreatDoor
namespace Go.Proofs.YtfkojnofbpdjdaaGreatDoor
/-! ### Elements -/
theorem Q9v (fmt:Int) (r:List UInt8) (o:Option Tk) (h:ElOk fmt r o):∀ x,o=some x→One x∧N0 x∧(fmt≠1→V5 x):=by
 intro x hx;cases h with
 | slot _ n hn=>
   injection hx with hx;subst hx;exact ⟨fun hk=>by simp at hk,.inr (.inl ⟨rfl,by simpa [ofL] using hn,rfl⟩),fun _=>.inr ⟨rfl,by simpa [ofL] using hn,rfl⟩⟩
 | opn t d ht hb=>
   injection hx with hx;subst hx;exact ⟨fun hk=>by simp at hk,.inr (.inr (.inl ⟨.inl rfl,by simpa [ofL] using ht,by simpa [ofL] using hb⟩)),fun h=>absurd rfl h⟩
 | cls t d ht hb=>
   injection hx with hx;subst hx;exact ⟨fun hk=>by simp at hk,.inr (.inr (.inr ⟨rfl,by simpa [ofL] using ht,by simpa [ofL] using hb⟩)),fun h=>absurd rfl h⟩
 | emp t d ht hb=>
   injection hx with hx;subst hx;exact ⟨fun hk=>by simp at hk,.inr (.inr (.inl ⟨.inr rfl,by simpa [ofL] using ht,by simpa [ofL] using hb⟩)),fun h=>absurd rfl h⟩
 | cont b hb=>cases hx
 | _=>
   injection hx with hx;subst hx;exact ⟨fun _=>⟨_,rfl⟩,.inl rfl,fun _=>.inl rfl⟩
theorem Z8k (fmt:Int) (hf:fmt=1∨fmt=2∨fmt=3) (r:List UInt8) (x:Tk) (h:ElOk fmt r (some x)):ElOk fmt (V3 fmt x) (some x):=by
 obtain ⟨h1,h2,h3⟩:=Q9v fmt r _ h x rfl;exact Y8j fmt hf x h1 h2 h3
theorem V7g (fmt:Int) (hf:fmt=1∨fmt=2∨fmt=3) (ts:Els) (h:∀ e∈ts,ElOk fmt e.1 e.2):∀ x∈X1 ts,ElOk fmt (V3 fmt x) (some x):=by
 intro x hx;obtain ⟨e,he,hx⟩:=List.mem_filterMap.1 hx;have:=h e he;rw [hx] at this;exact Z8k fmt hf _ x this
/-! ### Tags -/
def Z7a (x:Tk):Bool:=decide (N1 x)
def tgs (u:List Tk):List Tk:=u.filter Z7a
theorem Q7y (a b:List Tk):tgs (a++b)=tgs a++tgs b:=List.filter_append a b
theorem V6c (x:Tk) (u:List Tk) (h:N1 x):tgs (x::u)=x::tgs u:=List.filter_cons_of_pos (by simpa [Z7a] using h)
theorem Z0z (x:Tk) (u:List Tk) (h:¬ N1 x):tgs (x::u)=tgs u:=List.filter_cons_of_neg (by simpa [Z7a] using h)
theorem V6b (l:List UInt8):tgs (l.map chI)=[]:=by
 induction l with
 | nil=>rfl
 | cons c l ih=>rw [List.map_cons,Z0z _ _ (fun h=>by unfold N1 chI at h;simp at h),ih]
theorem Y2x:∀ f:List Tk,tgs (Y2 f)=tgs f
 | []=>rfl
 | x::f=>by
   rw [R8,Q7y,Y2x f];unfold L4;split
   ·rename_i hk;rw [Z0z x f (fun h=>by unfold N1 at h;omega),V6b];rfl
   ·rw [←Q7y];rfl
theorem M1:∀ (u:List Tk) (c:Nat) (op:List Tk),NumOk (tgs u) c op↔NumOk u c op
 | [],c,op=>Iff.rfl
 | x::u,c,op=>by
   by_cases h:N1 x
   ·rw [V6c x u h,NumOk,NumOk];split
    ·rw [M1 u]
    ·split
     ·rw [M1 u]
     ·split
      ·constructor
       ·rintro ⟨y,op',h1,h2,h3,h4⟩;exact ⟨y,op',h1,h2,h3,(M1 u _ _).1 h4⟩
       ·rintro ⟨y,op',h1,h2,h3,h4⟩;exact ⟨y,op',h1,h2,h3,(M1 u _ _).2 h4⟩
      ·exact M1 u _ _
   ·rw [Z0z x u h,M1 u];unfold N1 at h;conv=>rhs;rw [NumOk,if_neg (fun e=>h (.inl e)),if_neg (fun e=>h (.inr (.inr e))),if_neg (fun e=>h (.inr (.inl e)))]
theorem Z2c (u:List Tk):(tgs u).Pairwise Y0w↔u.Pairwise Y0w:=by
 unfold tgs;rw [List.pairwise_filter];constructor
 ·intro h;refine h.imp fun {a b} h ha hb=>?_;exact h (by simpa [Z7a] using ha) (by simpa [Z7a] using hb) ha hb
 ·intro h;exact h.imp fun {a b} h _ _=>h
theorem Q3o:∀ (u:List Tk) (c:Nat) (op:List Tk),NumOk u c op→(∀ y∈op,y.k=2∧y.d≤(c:Int))→op.Pairwise (fun a b=>a.d≠b.d)→
 u.Pairwise Y0w∧∀ x∈u,N1 x→(c:Int) < x.d∨(x.k=3∧∃ y∈op,y.d=x.d∧J8 y.t=x.t)
 | [],c,op,_,_,_=>⟨List.Pairwise.nil,fun x hx=>by simp at hx⟩
 | x::u,c,op,h,ho,hp=>by
   unfold NumOk at h;split at h
   ·rename_i h2;obtain ⟨hd,h⟩:=h;obtain ⟨g1,g2⟩:=Q3o u (c+1) (x::op) h (fun y hy=>by
     rcases List.mem_cons.1 hy with rfl | hy
     ·exact ⟨h2,yY⟩
     ·have:=ho y hy;exact ⟨this.1,yY⟩) (List.pairwise_cons.2 ⟨fun y hy=>by have:=(ho y hy).2;omega,hp⟩)
    refine ⟨List.pairwise_cons.2 ⟨fun z hz _ ha he=>?_,g1⟩,fun z hz ha=>?_⟩
    ·rcases g2 z hz ha with hh | ⟨h3,y,hy,hyd,hyn⟩
     ·omega
     ·rcases List.mem_cons.1 hy with rfl | hy
      ·exact ⟨h3,h2,hyn⟩
      ·have:=(ho y hy).2;omega
    ·rcases List.mem_cons.1 hz with rfl | hz
     ·left;omega
     ·rcases g2 z hz ha with hh | ⟨h3,y,hy,hyd,hyn⟩
      ·left;omega
      ·rcases List.mem_cons.1 hy with rfl | hy
       ·left;omega
       ·exact .inr ⟨h3,y,hy,hyd,hyn⟩
   ·rename_i h2;split at h
    ·rename_i h4;obtain ⟨hd,h⟩:=h;obtain ⟨g1,g2⟩:=Q3o u (c+1) op h (fun y hy=>⟨(ho y hy).1,by have:=(ho y hy).2;omega⟩) hp;refine ⟨List.pairwise_cons.2 ⟨fun z hz _ ha he=>?_,g1⟩,fun z hz ha=>?_⟩
     ·rcases g2 z hz ha with hh | ⟨h3,y,hy,hyd,hyn⟩
      ·omega
      ·have:=(ho y hy).2;omega
     ·rcases List.mem_cons.1 hz with rfl | hz
      ·left;omega
      ·rcases g2 z hz ha with hh | hh
       ·left;omega
       ·exact .inr hh
    ·rename_i h4;split at h
     ·rename_i h3;obtain ⟨y,op',rfl,hn,hd,h⟩:=h;obtain ⟨p1,p2⟩:=List.pairwise_cons.1 hp;obtain ⟨g1,g2⟩:=Q3o u c op' h (fun z hz=>ho z (by simp [hz])) p2;refine ⟨List.pairwise_cons.2 ⟨fun z hz _ ha he=>?_,g1⟩,fun z hz ha=>?_⟩
      ·rcases g2 z hz ha with hh | ⟨_,y',hy',hyd,_⟩
       ·have:=(ho y yW).2;omega
       ·exact absurd yY (p1 y' hy')
      ·rcases List.mem_cons.1 hz with rfl | hz
       ·exact .inr ⟨h3,y,by simp,hd.symm,hn⟩
       ·rcases g2 z hz ha with hh | ⟨h3',y',hy',hyd,hyn⟩
        ·exact .inl hh
        ·exact .inr ⟨h3',y',by simp [hy'],hyd,hyn⟩
     ·rename_i h3;have hb:¬ N1 x:=fun ht=>by rcases ht with a | a | a<;>contradiction
      obtain ⟨g1,g2⟩:=Q3o u c op h ho hp;refine ⟨List.pairwise_cons.2 ⟨fun z hz ht=>absurd ht hb,g1⟩,fun z hz ha=>?_⟩;rcases List.mem_cons.1 hz with rfl | hz
      ·exact absurd ha hb
      ·exact g2 z hz ha
/-! ### Order of elements -/
def X1r (a:Els):Prop:=a=[]∨∃ p r y,a=p++[((r:List UInt8),some (y:Tk))]
theorem Z8m (a b:Els) (ha:X1r a) (hb:X1r b):X1r (a++b):=by
 rcases hb with rfl | ⟨p,r,y,rfl⟩
 ·rwa [List.append_nil]
 ·exact .inr ⟨a++p,r,y,by rw [List.append_assoc]⟩
theorem X9i (a b:Els) (ha:X1r a) (h1:D4 a) (h2:D4 b):D4 (a++b):=by
 rcases ha with rfl | ⟨p,r,y,rfl⟩
 ·exact h2
 ·exact Q6x p b r y h1 h2
theorem Q6w:∀ (a b:Els),D4 (a++b)→D4 b
 | [],_,h=>h
 | [_],[],_=>trivial
 | [(_,_)],(_,_)::_,h=>h.2
 | (_,_)::(r,y)::a,b,h=>Q6w ((r,y)::a) b h.2
theorem X5g:∀ (a b:Els),D4 (a++b)→D4 a
 | [],_,_=>trivial
 | [_],_,_=>trivial
 | (_,_)::(r,y)::a,b,h=>⟨h.1,X5g ((r,y)::a) b h.2⟩
theorem X2z:∀ (ts:Els) (p:Nat),p≤(X1 ts).length→X1r (Z9 ts p)
 | ts,0,_=>by
   left;cases ts<;>rfl
 | [],p+1,h=>by simp [X1] at h
 | (r,none)::ts,p+1,h=>by
   rw [Z9];rcases X2z ts (p+1) h with e | ⟨q,r',y,e⟩
   ·exfalso;have:=Q7i ts (p+1);rw [e] at this;have hl:=congrArg List.length this;rw [List.length_take] at hl;have h':p+1≤(X1 ts).length:=h;simp [X1] at hl h';omega
   ·rw [e];exact .inr ⟨(r,none)::q,r',y,rfl⟩
 | (r,some x)::ts,p+1,h=>by
   rw [Z9];rcases X2z ts p (by simpa [X1] using h) with e | ⟨q,r',y,e⟩
   ·rw [e];exact .inr ⟨[],r,x,rfl⟩
   ·rw [e];exact .inr ⟨(r,some x)::q,r',y,rfl⟩
theorem Z6v (t:Els) (h:∀ e∈t,e.2≠none):X1r t:=by
 rcases List.eq_nil_or_concat t with rfl | ⟨p,⟨r,o⟩,rfl⟩
 ·exact .inl rfl
 ·rw [List.concat_eq_append] at h ⊢;cases o with
  | none=>exact absurd rfl (h (r,none) yW)
  | some y=>exact .inr ⟨p,r,y,rfl⟩
def AllT (P:Nat×Nat→List Tk→Prop):List (Nat×Nat)→List (List Tk)→Prop
 | [],[]=>True
 | r::rl,t::tg=>P r t∧AllT P rl tg
 | _,_=>False
theorem AllT.len {P:Nat×Nat→List Tk→Prop}:∀ {rl:List (Nat×Nat)} {tg:List (List Tk)},AllT P rl tg→rl.length=tg.length
 | [],[],_=>rfl
 | _::_,_::_,h=>by rw [List.length_cons,List.length_cons,AllT.len h.2]
theorem AllT.mem {P:Nat×Nat→List Tk→Prop}:∀ {rl:List (Nat×Nat)} {tg:List (List Tk)},AllT P rl tg→∀ t∈tg,∃ r∈rl,P r t
 | [],[],_,t,ht=>by simp at ht
 | r::rl,t'::tg,h,t,ht=>by
   rcases List.mem_cons.1 ht with rfl | ht
   ·exact ⟨r,by simp,h.1⟩
   ·obtain ⟨r',hr,hp⟩:=AllT.mem h.2 t ht;exact ⟨r',by simp [hr],hp⟩
theorem AllT.imp {P Q:Nat×Nat→List Tk→Prop} (f:∀ r t,P r t→Q r t):∀ {rl:List (Nat×Nat)} {tg:List (List Tk)},AllT P rl tg→AllT Q rl tg
 | [],[],_=>trivial
 | _::_,_::_,h=>⟨f _ _ h.1,AllT.imp f h.2⟩
def X4z:Nat→List (Nat×Nat)→Nat→Prop
 | _,[],_=>True
 | at_,r::rl,n=>at_≤r.1∧r.1≤r.2∧r.2≤n∧X4z r.2 rl n
theorem Y1r (ts:Els) (a:Nat):(X1 (J7 ts a)).length=(X1 ts).length - a:=by rw [Q1j,List.length_drop]
theorem X7q (ts:Els) (a:Nat) (r:Nat×Nat) (rl:List (Nat×Nat)) (t:Els) (tg:List Els):F6 ts a (r::rl) (t::tg)=Z9 (J7 ts a) (r.1 - a)++t++F6 ts r.2 rl tg:=rfl
theorem X7p (ts:Els) (a:Nat) (tg:List Els):F6 ts a [] tg=J7 ts a:=by cases tg<;>rfl
theorem Y3y (ts:Els) (h:D4 ts):∀ (rl:List (Nat×Nat)) (tg:List Els) (a:Nat),X4z a rl (X1 ts).length→(∀ t∈tg,∀ e∈t,e.2≠none)→D4 (F6 ts a rl tg)
 | [],tg,a,_,_=>by
   rw [X7p];rw [←G3 ts a] at h;exact Q6w _ _ h
 | _::_,[],a,_,_=>by
   show D4 (J7 ts a);rw [←G3 ts a] at h;exact Q6w _ _ h
 | r::rl,t::tg,a,ha,ht=>by
   rw [X7q];obtain ⟨h1,h2,h3,h4⟩:=ha;have hd:D4 (J7 ts a):=by
    rw [←G3 ts a] at h;exact Q6w _ _ h
   have hk:D4 (Z9 (J7 ts a) (r.1 - a)):=by
    rw [←G3 (J7 ts a) (r.1 - a)] at hd;exact X5g _ _ hd
   have he:=X2z (J7 ts a) (r.1 - a) (by rw [Y1r];omega);have hb:=ht t yW;exact X9i _ _ (Z8m _ _ he (Z6v t hb)) (X9i _ _ he hk (Q6z t hb)) (Y3y ts h rl tg r.2 h4 fun t' hc=>ht t' (by simp [hc]))
theorem Y7m (ts:Els):∀ (rl:List (Nat×Nat)) (tg:List Els) (a:Nat),∀ e∈F6 ts a rl tg,e∈ts∨∃ t∈tg,e∈t
 | [],tg,a,e,he=>by
   rw [X7p] at he;left;rw [←G3 ts a];exact List.mem_append.2 (.inr he)
 | _::_,[],a,e,he=>by
   have he:e∈J7 ts a:=he;left;rw [←G3 ts a];exact List.mem_append.2 (.inr he)
 | r::rl,t::tg,a,e,he=>by
   rw [X7q] at he;rcases List.mem_append.1 he with he | he
   ·rcases List.mem_append.1 he with he | he
    ·left;rw [←G3 ts a,←G3 (J7 ts a) (r.1 - a)];exact List.mem_append.2 (.inr (List.mem_append.2 (.inl he)))
    ·exact .inr ⟨t,by simp,he⟩
   ·rcases Y7m ts rl tg r.2 e he with h | ⟨t',h1,h2⟩
    ·exact .inl h
    ·exact .inr ⟨t',by simp [h1],h2⟩
theorem X5m {α:Type} (u:List α) (a b c:Nat) (h1:a≤b) (h2:b≤c):u.drop a=(u.take b).drop a++((u.take c).drop b++u.drop c):=by
 have e:∀ (x y:Nat),x≤y→u.drop x=(u.take y).drop x++u.drop y:=fun x y h=>by
  rw [List.drop_take];conv=>lhs;rw [←List.take_append_drop (y - x) (u.drop x)]
  rw [List.drop_drop,show x+(y - x)=y by omega]
 rw [e a b h1,e b c h2]
theorem Y6k (u:List Tk) (a:Nat) (r:Nat×Nat) (rl:List (Nat×Nat)) (t:List Tk) (tg:List (List Tk)):Q2m u a (r::rl) (t::tg)=(u.take r.1).drop a++Y2 t++Q2m u r.2 rl tg:=rfl
theorem Y6j (u:List Tk) (a:Nat) (tg:List (List Tk)):Q2m u a [] tg=u.drop a:=by cases tg<;>rfl
theorem Z3r (u:List Tk) (n:Nat):∀ (rl:List (Nat×Nat)) (tg:List (List Tk)) (a:Nat),X4z a rl n→AllT (fun r t=>tgs t=tgs ((u.take r.2).drop r.1)) rl tg→tgs (Q2m u a rl tg)=tgs (u.drop a)
 | [],tg,a,_,_=>by rw [Y6j]
 | _::_,[],a,_,h=>by cases h
 | r::rl,t::tg,a,⟨h1,h2,h3,h4⟩,⟨g1,g2⟩=>by
   rw [Y6k,Q7y,Q7y,Y2x,Z3r u n rl tg r.2 h4 g2,X5m u a r.1 r.2 h1 h2,Q7y,Q7y];have g1':tgs t=tgs ((u.take r.2).drop r.1):=g1;rw [g1',List.append_assoc]
theorem Y0i (u:List Tk) (n:Nat):∀ (rl:List (Nat×Nat)) (tg:List (List Tk)) (a:Nat),X4z a rl n→AllT (fun r t=>Y2 t=(u.take r.2).drop r.1) rl tg→Q2m u a rl tg=u.drop a
 | [],tg,a,_,_=>by rw [Y6j]
 | _::_,[],a,_,h=>by cases h
 | r::rl,t::tg,a,⟨h1,h2,h3,h4⟩,⟨g1,g2⟩=>by
   have g1':Y2 t=(u.take r.2).drop r.1:=g1;rw [Y6k,Y0i u n rl tg r.2 h4 g2,X5m u a r.1 r.2 h1 h2,g1',List.append_assoc]
/-! ### Targets -/
structure TgtOk (fmt:Int) (u t:List Tk):Prop where
 nrm:Normal t
 els:∀ x∈t,x.k≠1→ElOk fmt (V3 fmt x) (some x)
 tags:tgs t=tgs u
theorem TgtOk.exp {fmt:Int} {u t:List Tk} (hf:fmt=1∨fmt=2∨fmt=3) (h:TgtOk fmt u t):∀ y∈Y2 t,ElOk fmt (V3 fmt y) (some y):=by
 intro y hy;obtain ⟨x,hx,ha⟩:=List.mem_flatMap.1 hy;unfold L4 at ha;split at ha
 ·obtain ⟨c,_,rfl⟩:=List.mem_map.1 ha;rw [X4j];exact V6p fmt hf c
 ·rename_i hk;rw [List.mem_singleton.1 ha];exact h.els x hx hk
theorem V5b (fmt:Int) (hf:fmt=1∨fmt=2∨fmt=3) (ts:Els) (h:RawOk fmt ts) (rl:List (Nat×Nat)) (tg:List (List Tk)) (ha:X4z 0 rl (X1 ts).length)
 (ht:AllT (fun r t=>TgtOk fmt (((X1 ts).take r.2).drop r.1) t) rl tg) (hn:(Q2m (X1 ts) 0 rl tg).length≤500):RawOk fmt (F6 ts 0 rl (tg.map (tsF fmt))) where
 els:=fun e he=>by
  rcases Y7m ts rl _ 0 e he with he | ⟨t,hb,he⟩
  ·exact h.els e he
  ·obtain ⟨t0,hc,rfl⟩:=List.mem_map.1 hb;obtain ⟨r,_,hr⟩:=AllT.mem ht t0 hc;obtain ⟨y,hy,rfl⟩:=List.mem_map.1 he;exact TgtOk.exp hf hr y hy
 cont:=Y3y ts h.cont rl _ 0 ha fun t hb e he=>by
  obtain ⟨t0,_,rfl⟩:=List.mem_map.1 hb;obtain ⟨y,_,rfl⟩:=List.mem_map.1 he;exact fun hh=>by cases hh
 num:=by
  rw [Q7h,←M1,Z3r (X1 ts) _ rl tg 0 ha (AllT.imp (fun r t h=>h.tags) ht),List.drop_zero,M1];exact h.num
 len:=by rw [Q7h];exact hn
theorem V6d (fmt:Int) (u0:List Tk) (hn0:NumOk u0 0 []) (hl0:u0.length≤500) (p q:Nat) (t:List Tk) (h:TgtOk fmt ((u0.take q).drop p) t) (hl:X2 t≤500):ValF t:=by
 have h1:=Q8u t (S8 t h.nrm);obtain ⟨f1,_⟩:=Q3o u0 0 [] hn0 (fun y hy=>by simp at hy) List.Pairwise.nil;obtain ⟨_,f2,_⟩:=L6 u0 0 [] hn0 (fun y hy=>by simp at hy);have f3:=(Q0s u0 0 []).2;refine ⟨yY,yY,h.nrm,fun x hx=>?_,?_⟩
 ·by_cases hk:x.k=1
  ·exact .inl hk
  ·obtain ⟨_,g2,_⟩:=Q9v fmt _ _ (h.els x hx hk) x rfl;have hd:N1 x→1≤x.d∧x.d≤999:=fun ha=>by
    have hm:x∈tgs t:=List.mem_filter.2 ⟨hx,by simpa [Z7a] using ha⟩;rw [h.tags] at hm;have hb:=(List.mem_filter.1 hm).1;have:=f2 x (List.mem_of_mem_take (List.mem_of_mem_drop hb)) ha;omega
   rcases g2 with g | g | ⟨g1,g2,_⟩ | ⟨g1,g2,_⟩
   ·exact absurd g hk
   ·exact .inr (.inl g)
   ·exact .inr (.inr (.inl ⟨g1,g2,hd (by rcases g1 with g1 | g1;exact .inl g1;exact .inr (.inr g1))⟩))
   ·exact .inr (.inr (.inr ⟨g1,g2,hd (.inr (.inl g1))⟩))
 ·rw [←Z2c,h.tags,Z2c];refine List.Pairwise.sublist ?_ f1;exact (List.drop_sublist _ _).trans (List.take_sublist _ _)
theorem Y7r (u t:List Tk) (h:TgtOk 1 u t):Q6t t:=fun x hx ht=>by
 have hk:x.k≠1:=(by unfold N1 at ht;omega);obtain ⟨_,g2,_⟩:=Q9v 1 _ _ (h.els x hx hk) x rfl;unfold N1 at ht;rcases g2 with g | g | ⟨_,_,g⟩ | ⟨_,g1,g⟩
 ·omega
 ·omega
 ·exact g
 ·rw [X2y _ g1];exact g
theorem Z7d (fmt:Int) (hf:fmt≠1) (u t:List Tk) (h:TgtOk fmt u t):∀ x∈t,V5 x:=fun x hx=>by
 by_cases hk:x.k=1
 ·exact .inl hk
 ·exact (Q9v fmt _ _ (h.els x hx hk) x rfl).2.2 hf
theorem V1x (fmt:Int) (hf:fmt=1∨fmt=2∨fmt=3) (ts:Els) (h:RawOk fmt ts) (hone:Y2 (X1 ts)=X1 ts) (p q:Nat):TgtOk fmt (((X1 ts).take q).drop p) (slI (Q9 (X1 ts)) 0 p q)∧Y2 (slI (Q9 (X1 ts)) 0 p q)=((X1 ts).take q).drop p:=by
 have e:Y2 (slI (Q9 (X1 ts)) 0 p q)=((X1 ts).take q).drop p:=by
  rw [X0d,Q7e,hone,Nat.sub_zero,Nat.sub_zero]
 refine ⟨⟨Q9e _ _ _ _ (C9 _),fun x hx hk=>?_,?_⟩,e⟩
 ·have hm:x∈Y2 (slI (Q9 (X1 ts)) 0 p q):=List.mem_flatMap.2 ⟨x,hx,by unfold L4;rw [if_neg hk];simp⟩;rw [e] at hm;exact V7g fmt hf ts h.els x (List.mem_of_mem_take (List.mem_of_mem_drop hm))
 ·rw [←Y2x,e]
end Go.Proofs.YtfkojnofbpdjdaaGreatDoor
namespace Go.Proofs.YtfkojnofbpdjdaaGreatDoor
open Go.RowKit
theorem U4 {a:Act} {w:World} {o:Oper} (ho:o.op=.alloc 41):(execOp a.eval o).run Tryz.prog w=.ok (.value (.pointer (some ⟨w.heap.size,0,none⟩))) (w.alloc (.cells #[.int .i64 0,.slice none 0 0] 41)):=by
 unfold execOp;simp only [ho];go_simp
theorem Q7c {a:Act} {w:World} {o:Oper} (x y:Operand) (k:Int) (A:Option Addr) (n c:Nat) (ho:o.op=.build 41 #[(0,x),(1,y)]) (hx:a.eval x=.int .i64 k) (hy:a.eval y=.slice A n c):(execOp a.eval o).run Tryz.prog w=.ok (.value (.agg #[.int .i64 k,.slice A n c])) w:=by
 generalize a.eval=ρ at hx hy ⊢;unfold execOp;simp only [ho];go_simp
theorem bx2 {w:World} {b:Nat} {v0 v1:Value} {t:TypeId} (h:w.heap[b]? =some (.cells #[v0,v1] t)):
 w.cell? ⟨b,0,none⟩=some v0∧w.cell? ⟨b,1,none⟩=some v1∧w.frozen? ⟨b,0,none⟩=false∧w.frozen? ⟨b,1,none⟩=false:=
 ⟨by rw [cell_of_row _ _ 0 _ _ _ h];rfl,by rw [cell_of_row _ _ 1 _ _ _ h];rfl,frozen_of_row w b 0 _ _ h,frozen_of_row w b 1 _ _ h⟩
theorem Z8g:(Tryz.prog.info? 41).map (·.size)=some 2:=by kernel_rfl
theorem X3i {o:Oper} {a:Act} {w:World} {K:Act→World→Prop} {Q:Exit→Act→World→Prop} (x y:Operand) (ho:o.op=.store 41 x y) (hd:o.dst=none) (g:Nat) (k:Int) (A:Option Addr) (n c:Nat) (hx:a.eval x=.pointer (some ⟨g,0,none⟩)) (hy:a.eval y=.agg #[.int .i64 k,.slice A n c])
 {v0 v1:Value} (hb:w.heap[g]? =some (.cells #[v0,v1] 41)) (h:K a ((w.setCell ⟨g,0,none⟩ (.int .i64 k)).setCell ⟨g,1,none⟩ (.slice A n c))):Oper.wp Tryz.prog o a w K Q:=by
 obtain ⟨c0,c1,f0,f1⟩:=bx2 hb;refine wp_store_mid 41 x y ho g 0 #[.int .i64 k,.slice A n c] hx hy (fun j hj=>?_) (by rw [Z8g];rfl) (by rw [List.all_toArray];rfl) ?_
 ·rcases (show j=0∨j=1 by simp at hj;omega) with rfl | rfl
  ·exact ⟨by rw [c0];rfl,f0⟩
  ·exact ⟨by rw [c1];rfl,f1⟩
 ·rw [hd];exact h
theorem Q6e {w w':World} {B:Nat} {e:TypeId} {size n:Nat} {v:Value} {xs:List Value} (h:w.ownsRow B e size v n xs) (hb:Below w.heap.size w w'):w'.ownsRow B e size v n xs:=Q8 h fun k hk=>hb.block k (h.lt k hk).2
theorem V2 {w:World} {g:Nat} {o:Obj} (h:w.heap[g]? =some o):g < w.heap.size:=(Array.getElem?_eq_some_iff.1 h).1
theorem Q4 {w w':World} {g:Nat} {o:Obj} (h:w.heap[g]? =some o) (hb:Below w.heap.size w w'):w'.heap[g]? =some o:=(hb.block g (V2 h)).trans h
theorem Q7x {w:World} {g:Nat} {u0 u1 v0 v1:Value} {t:TypeId} (h:w.heap[g]? =some (.cells #[v0,v1] t)):((w.setCell ⟨g,0,none⟩ u0).setCell ⟨g,1,none⟩ u1).heap[g]? =some (.cells #[u0,u1] t):=by
 have h1:=R3 h 0 u0;rw [R3 h1 1 u1];rfl
theorem G2 {w:World} {g k:Nat} {u0 u1:Value} (h:k≠g):((w.setCell ⟨g,0,none⟩ u0).setCell ⟨g,1,none⟩ u1).heap[k]? =w.heap[k]? :=by
 rw [Below.heap_setCell _ _ _ _ h,Below.heap_setCell _ _ _ _ h]
theorem Q0e {w:World} {b:Nat} {k:Int} {A:Option Addr} {n c:Nat} (h0:w.cell? ⟨b,0,none⟩=some (.int .i64 k)) (h1:w.cell? ⟨b,1,none⟩=some (.slice A n c)):(Instr.loadAt 41 (.pointer (some ⟨b,0,none⟩))).run Tryz.prog w=.ok (.agg #[.int .i64 k,.slice A n c]) w:=by
 go_simp
theorem Q7l {w:World} {b:Nat} {A:Option Addr} {n c:Nat} (h1:w.cell? ⟨b,1,none⟩=some (.slice A n c)):(Instr.loadAt 39 (.pointer (some ⟨b,1,none⟩))).run Tryz.prog w=.ok (.slice A n c) w:=by
 go_simp
def bL (n k:Nat):Array Bool:=((List.range n).map fun i=>k.testBit i).toArray
section
variable {P:Program} {ops:Array Oper} {a:Act} {w:World} {oi:Oper} {md:Region.Mode} {QE:Exit→Act→World→Prop} {fuel:Nat} {listed:Array Bool} {rs:List Oper}
theorem zqD (i n:Nat) (hi0:ops.toList.drop i=oi::rs) {t t2:TypeId} {x y:Operand} (ho:oi.op=.binOp .add t x y t2) (s u:ByteArray)
 (h:wpAny P md ops QE fuel (listed.setIfInBounds i true) (a.put (some n) (.string (s++u))) w) (hx:a.eval x=.string s:=by kernel_rfl) (hy:a.eval y=.string u:=by kernel_rfl)
 (hr:∀ w:World,(do eqGuard .add t x y (.string s) (.string u);Go.binOp .add t (.string s) (.string u):Sem Value).run P w=.ok (.string (s++u)) w:=by intro _;first | (go_simp;done) | (go_simp;omega))
 (hd:oi.dst=some n:=by rfl) (hc:Q8c md ops listed i oi a true=true:=by kernel_rfl) (hQ:∀ c a w,QE (.panic c) (a.put oi.dst (.string (s++u))) w→QE (.panic c) a w:=by exact fun _ _ _ h=>h):wpAny P md ops QE (fuel+1) listed a w:=
 zzA i (.string (s++u)) (some n) hi0 (fun w=>Y4j .add t t2 x y (.string s) (.string u) _ ho hx hy (hr w)) h hd hc hQ
end
theorem Y8i (m fmt:Int) (hf:E7 fmt) (ps:List Pt) (hs:X8u m fmt (ofL (Z0 ps)) ps) (A:Option Addr) (c:Nat) (w:World) (hm:w.cell? ⟨0,0,none⟩=some (.int .i64 m)) (h:RdE ptC 3 w (.slice A ps.length c) ps) (hl:ps.length≤100000) (hsz:(Z0 ps).length≤1000000):
 Calls Tryz.prog 65 #[.agg #[.int .i64 fmt,.slice A ps.length c]] w (fun e w'=>e=.returned (.int .i64 0)∧Below w.heap.size w w'):=by
 have CK:=zW (fun w=>X2l fmt hf w);have CB:=zW (fun (w':World) (h:RdE ptC 3 w' (.slice A ps.length c) ps)=>Q6v fmt ps A c w' h hl hsz);have CP:=zW (fun w hm=>X5l m fmt hf (ofL (Z0 ps)) ps hs w hm);have CE:=zW (fun (va vb:Value) (w':World) (h1:RdE ptC 3 w' va ps) (h2:RdE ptC 3 w' vb ps)=>Y8k ps va vb w' h1 h2 yY);have HM:=zW hm;have HP:=zW h;have he:=zW (((Below.refl w.heap.size w).alloc yQ (.cells #[.int .i64 fmt,.slice A ps.length c] 41)).drew);have hc:yK ((w.alloc (.cells #[.int .i64 fmt,.slice A ps.length c] 41)).drew.heap[w.heap.size]? =some (.cells #[.int .i64 fmt,.slice A ps.length c] 41)):=heap_alloc_new w _;generalize ofL (Z0 ps)=data at *;clear h hm hs;go_enter Tryz.func65,Tryz.ntmps65
 go_wp2_with (first
  | (go_at_call 55;refine (CK.o _).mono ?_;rintro e w' ⟨rfl,rfl⟩))
 obtain ⟨g,ha⟩:∃ g,yK (w.heap.size=g):=⟨_,rfl⟩;rw [ha.o] at hc;rw [ha.o];have hd:w.heap.size≤g:=Nat.le_of_eq ha.o;refine zqR (l0:=bL 13 0) 13 kr ?_;show let o:=_;let q:=_;let a0:=_;wpAny Tryz.prog _ o q _ _ a0 _
 intro o q a0;let a_:Act:=a0.put (some 11) (.pointer (some ⟨g,0,none⟩))
 let a_0:Act:=a_.put (some 12) (.int .i64 fmt)
 let a_1:Act:=a_.put (some 13) (.agg #[.int .i64 fmt,.slice A ps.length c])
 let a_4:Nat→Act:=fun g3=>a_.put (some 3) (.pointer (some ⟨g3,0,none⟩))
 let a_01:Act:=a_0.put (some 13) (.agg #[.int .i64 fmt,.slice A ps.length c])
 let a_04:Nat→Act:=fun g3=>a_0.put (some 3) (.pointer (some ⟨g3,0,none⟩))
 let a_12:Act:=a_1.put (some 14) (.string data)
 let a_14:Nat→Act:=fun g3=>a_1.put (some 3) (.pointer (some ⟨g3,0,none⟩))
 let a_012:Act:=a_01.put (some 14) (.string data)
 let a_014:Nat→Act:=fun g3=>a_01.put (some 3) (.pointer (some ⟨g3,0,none⟩))
 let a_124:Nat→Act:=fun g3=>a_12.put (some 3) (.pointer (some ⟨g3,0,none⟩))
 let a_0123:Option Addr→Nat→Act:=fun A2 c2=>((((a_012.put (some 15) (.tuple #[.agg #[.int .i64 fmt,.slice A2 ps.length c2],.int .i64 0,.int .i64 0])).put (some 10) (.tuple #[.agg #[.int .i64 fmt,.slice A2 ps.length c2],.int .i64 0,.int .i64 0])).put (some 16) (.agg #[.int .i64 fmt,.slice A2 ps.length c2])).put (some 17) (.int .i64 0)).put (some 18) (.int .i64 0)
 let a_0124:Nat→Act:=fun g3=>a_012.put (some 3) (.pointer (some ⟨g3,0,none⟩))
 let a_01234:Option Addr→Nat→Nat→Act:=fun A2 c2 g3=>(a_0123 A2 c2).put (some 3) (.pointer (some ⟨g3,0,none⟩))
 let a_012345:Option Addr→Nat→Nat→Act:=fun A2 c2 g3=>((a_01234 A2 c2 g3).put (some 4) (.int .i64 0)).put (some 5) (.int .i64 0)
 have S012345:∀ (W:World) (A2:Option Addr) (c2:Nat) (g3:Nat),Below w.heap.size w W→W.heap[g]? =some (.cells #[.int .i64 fmt,.slice A ps.length c] 41)→W.heap[g3]? =some (.cells #[.int .i64 fmt,.slice A2 ps.length c2] 41)→OwnE 52 ptC 3 W w.heap.size (.slice A2 ps.length c2) ps→wpAny Tryz.prog .any o q 0 (bL 13 8191) (a_012345 A2 c2 g3) W:=by
  intro W A2 c2 g3 HB HX HG HO;simp only [a_012345,a_01234,a_0123,a_012,a_01,a_0,a_,a0,Act.put,zZ,zY,zX];refine wpAny_done yZ ?_ _;simp only [q];obtain ⟨x0,x1,_⟩:=bx2 HX;obtain ⟨z0,z1,_⟩:=bx2 HG;have hh:=zW HB;have hg:=zW (OwnE.rd K0 HO);have CEE:=zW (CE.o _ _ W hg.o (RdE.below HP.o HB yQ));clear HB HX HG HO;go_wp2_with (go_at_call 105;refine (CEE.o).mono ?_;rintro e w9 ⟨rfl,n9,rfl⟩)
  go_ret
  exact ⟨rfl,Q1 hh.o _⟩
 have S01234:∀ (W:World) (A2:Option Addr) (c2:Nat) (g3:Nat),Below w.heap.size w W→W.heap[g]? =some (.cells #[.int .i64 fmt,.slice A ps.length c] 41)→W.heap[g3]? =some (.cells #[.int .i64 0,.slice none 0 0] 41)→g < g3→OwnE 52 ptC 3 W w.heap.size (.slice A2 ps.length c2) ps→wpAny Tryz.prog .any o q 3 (bL 13 1023) (a_01234 A2 c2 g3) W:=by
  intro W A2 c2 g3 HB HX HG hg3 HO;simp only [a_01234,a_0123,a_012,a_01,a_0,a_,a0,Act.put,zZ,zY,zX];refine zqo 10 rfl ?_;refine X3i (.tmp 3) (.tmp 16) rfl rfl g3 fmt A2 ps.length c2 yZ yZ HG ?_;refine zqG 11 4 (.int .i64 0) rfl ?_;refine zqG 12 5 (.int .i64 0) rfl ?_;exact zqX (S012345 ((W.setCell ⟨g3,0,none⟩ (.int .i64 fmt)).setCell ⟨g3,1,none⟩ (.slice A2 ps.length c2)) A2 c2 g3 ((HB.setCell (p:=⟨g3,0,none⟩) (Nat.le_trans hd (Nat.le_of_lt hg3)) _).setCell (p:=⟨g3,1,none⟩) (Nat.le_trans hd (Nat.le_of_lt hg3)) _) ((G2 (Nat.ne_of_lt hg3)).trans HX) (Q7x HG) (Q8 HO fun j hj=>G2 (fun e=>Y1 HO HG yX j hj e)))
 have S0123:∀ (W:World) (A2:Option Addr) (c2:Nat),Below w.heap.size w W→W.heap[g]? =some (.cells #[.int .i64 fmt,.slice A ps.length c] 41)→OwnE 52 ptC 3 W w.heap.size (.slice A2 ps.length c2) ps→wpAny Tryz.prog .any o q 4 (bL 13 511) (a_0123 A2 c2) W:=by
  intro W A2 c2 HB HX HO;simp only [a_0123,a_012,a_01,a_0,a_,a0,Act.put,zZ,zY,zX];refine zqo 9 rfl ?_;refine Q7 (U4 rfl) ?_;exact zqX (S01234 (W.alloc (.cells #[.int .i64 0,.slice none 0 0] 41)) A2 c2 W.heap.size (HB.trans (((Below.refl W.heap.size W).alloc yQ _).mono HB.size)) (Q4 HX ((Below.refl W.heap.size W).alloc yQ _)) (heap_alloc_new W _) (V2 HX) (Q6e HO ((Below.refl W.heap.size W).alloc yQ _)))
 have S0124:∀ (W:World) (g3:Nat),Below w.heap.size w W→W.heap[g]? =some (.cells #[.int .i64 fmt,.slice A ps.length c] 41)→W.heap[g3]? =some (.cells #[.int .i64 0,.slice none 0 0] 41)→g < g3→wpAny Tryz.prog .any o q 8 (bL 13 527) (a_0124 g3) W:=by
  intro W g3 HB HX HG hg3;simp only [a_0124,a_012,a_01,a_0,a_,a0,Act.put,zZ,zY,zX];refine zqo 4 rfl ?_;refine Q2n (.int .i64 fmt) (.string data) rfl Tryz.func28 (CP.o W (X6 HM.o HB)) ?_;rintro e W5 ⟨A2,c2,rfl,ho,hb⟩;refine ⟨.tuple #[.agg #[.int .i64 fmt,.slice A2 ps.length c2],.int .i64 0,.int .i64 0],rfl,?_⟩;refine zqM 5 10 (.tuple #[.agg #[.int .i64 fmt,.slice A2 ps.length c2],.int .i64 0,.int .i64 0]) rfl ?_;refine zqE 6 16 (.agg #[.int .i64 fmt,.slice A2 ps.length c2]) rfl rfl ?_;refine zqE 7 17 (.int .i64 0) rfl rfl ?_;refine zqE 8 18 (.int .i64 0) rfl rfl ?_;exact zqX (S01234 W5 A2 c2 g3 (HB.trans (hb.mono HB.size)) (Q4 HX hb) (Q4 HG hb) hg3 (Y7 ho HB.size))
 have S012:∀ (W:World),Below w.heap.size w W→W.heap[g]? =some (.cells #[.int .i64 fmt,.slice A ps.length c] 41)→wpAny Tryz.prog .any o q 9 (bL 13 15) a_012 W:=by
  intro W HB HX;simp only [a_012,a_01,a_0,a_,a0,Act.put,zZ,zY,zX];refine zqt 4 9 rfl rfl ?_ ?_
  ·refine Q2n (.int .i64 fmt) (.string data) rfl Tryz.func28 (CP.o W (X6 HM.o HB)) ?_;rintro e W5 ⟨A2,c2,rfl,ho,hb⟩;refine ⟨.tuple #[.agg #[.int .i64 fmt,.slice A2 ps.length c2],.int .i64 0,.int .i64 0],rfl,?_⟩;refine zqM 5 10 (.tuple #[.agg #[.int .i64 fmt,.slice A2 ps.length c2],.int .i64 0,.int .i64 0]) rfl ?_;refine zqE 6 16 (.agg #[.int .i64 fmt,.slice A2 ps.length c2]) rfl rfl ?_;refine zqE 7 17 (.int .i64 0) rfl rfl ?_;refine zqE 8 18 (.int .i64 0) rfl rfl ?_;exact zqX (S0123 W5 A2 c2 (HB.trans (hb.mono HB.size)) (Q4 HX hb) (Y7 ho HB.size))
  ·refine Q7 (U4 rfl) ?_;exact zqX (S0124 (W.alloc (.cells #[.int .i64 0,.slice none 0 0] 41)) W.heap.size (HB.trans (((Below.refl W.heap.size W).alloc yQ _).mono HB.size)) (Q4 HX ((Below.refl W.heap.size W).alloc yQ _)) (heap_alloc_new W _) (V2 HX))
 have S014:∀ (W:World) (g3:Nat),Below w.heap.size w W→W.heap[g]? =some (.cells #[.int .i64 fmt,.slice A ps.length c] 41)→W.heap[g3]? =some (.cells #[.int .i64 0,.slice none 0 0] 41)→g < g3→wpAny Tryz.prog .any o q 9 (bL 13 519) (a_014 g3) W:=by
  intro W g3 HB HX HG hg3;simp only [a_014,a_01,a_0,a_,a0,Act.put,zZ,zY,zX];refine zqo 3 rfl ?_;refine Q0y (.agg #[.int .i64 fmt,.slice A ps.length c]) rfl Tryz.func24 (CB.o W (RdE.below HP.o HB yQ)) ?_;rintro e W5 ⟨rfl,hb⟩;refine ⟨.string data,rfl,?_⟩;exact zqX (S0124 W5 g3 (HB.trans (hb.mono HB.size)) (Q4 HX hb) (Q4 HG hb) hg3)
 have S124:∀ (W:World) (g3:Nat),Below w.heap.size w W→W.heap[g]? =some (.cells #[.int .i64 fmt,.slice A ps.length c] 41)→W.heap[g3]? =some (.cells #[.int .i64 0,.slice none 0 0] 41)→g < g3→wpAny Tryz.prog .any o q 9 (bL 13 525) (a_124 g3) W:=by
  intro W g3 HB HX HG hg3;simp only [a_124,a_12,a_1,a_,a0,Act.put,zZ,zY,zX];refine zqo 1 rfl ?_;refine zqL (.int .i64 fmt) rfl (.pointer (some ⟨g,0,none⟩)) (O0 (bx2 HX).1) ?_;exact zqX (S0124 W g3 HB HX HG hg3)
 have S01:∀ (W:World),Below w.heap.size w W→W.heap[g]? =some (.cells #[.int .i64 fmt,.slice A ps.length c] 41)→wpAny Tryz.prog .any o q 10 (bL 13 7) a_01 W:=by
  intro W HB HX;simp only [a_01,a_0,a_,a0,Act.put,zZ,zY,zX];refine zqt 3 9 rfl rfl ?_ ?_
  ·refine Q0y (.agg #[.int .i64 fmt,.slice A ps.length c]) rfl Tryz.func24 (CB.o W (RdE.below HP.o HB yQ)) ?_;rintro e W5 ⟨rfl,hb⟩;refine ⟨.string data,rfl,?_⟩;exact zqX (S012 W5 (HB.trans (hb.mono HB.size)) (Q4 HX hb))
  ·refine Q7 (U4 rfl) ?_;exact zqX (S014 (W.alloc (.cells #[.int .i64 0,.slice none 0 0] 41)) W.heap.size (HB.trans (((Below.refl W.heap.size W).alloc yQ _).mono HB.size)) (Q4 HX ((Below.refl W.heap.size W).alloc yQ _)) (heap_alloc_new W _) (V2 HX))
 have S04:∀ (W:World) (g3:Nat),Below w.heap.size w W→W.heap[g]? =some (.cells #[.int .i64 fmt,.slice A ps.length c] 41)→W.heap[g3]? =some (.cells #[.int .i64 0,.slice none 0 0] 41)→g < g3→wpAny Tryz.prog .any o q 10 (bL 13 515) (a_04 g3) W:=by
  intro W g3 HB HX HG hg3;simp only [a_04,a_0,a_,a0,Act.put,zZ,zY,zX];refine zqo 2 rfl ?_;refine zqL (.agg #[.int .i64 fmt,.slice A ps.length c]) rfl (.pointer (some ⟨g,0,none⟩)) (Q0e (bx2 HX).1 (bx2 HX).2.1) ?_;exact zqX (S014 W g3 HB HX HG hg3)
 have S12:∀ (W:World),Below w.heap.size w W→W.heap[g]? =some (.cells #[.int .i64 fmt,.slice A ps.length c] 41)→wpAny Tryz.prog .any o q 10 (bL 13 13) a_12 W:=by
  intro W HB HX;simp only [a_12,a_1,a_,a0,Act.put,zZ,zY,zX];refine zqt 1 9 rfl rfl ?_ ?_
  ·refine zqL (.int .i64 fmt) rfl (.pointer (some ⟨g,0,none⟩)) (O0 (bx2 HX).1) ?_;exact zqX (S012 W HB HX)
  ·refine Q7 (U4 rfl) ?_;exact zqX (S124 (W.alloc (.cells #[.int .i64 0,.slice none 0 0] 41)) W.heap.size (HB.trans (((Below.refl W.heap.size W).alloc yQ _).mono HB.size)) (Q4 HX ((Below.refl W.heap.size W).alloc yQ _)) (heap_alloc_new W _) (V2 HX))
 have S14:∀ (W:World) (g3:Nat),Below w.heap.size w W→W.heap[g]? =some (.cells #[.int .i64 fmt,.slice A ps.length c] 41)→W.heap[g3]? =some (.cells #[.int .i64 0,.slice none 0 0] 41)→g < g3→wpAny Tryz.prog .any o q 10 (bL 13 517) (a_14 g3) W:=by
  intro W g3 HB HX HG hg3;simp only [a_14,a_1,a_,a0,Act.put,zZ,zY,zX];refine zqt 1 3 rfl rfl ?_ ?_
  ·refine zqL (.int .i64 fmt) rfl (.pointer (some ⟨g,0,none⟩)) (O0 (bx2 HX).1) ?_;exact zqX (S014 W g3 HB HX HG hg3)
  ·refine Q0y (.agg #[.int .i64 fmt,.slice A ps.length c]) rfl Tryz.func24 (CB.o W (RdE.below HP.o HB yQ)) ?_;rintro e W5 ⟨rfl,hb⟩;refine ⟨.string data,rfl,?_⟩;exact zqX (S124 W5 g3 (HB.trans (hb.mono HB.size)) (Q4 HX hb) (Q4 HG hb) hg3)
 have S0:∀ (W:World),Below w.heap.size w W→W.heap[g]? =some (.cells #[.int .i64 fmt,.slice A ps.length c] 41)→wpAny Tryz.prog .any o q 11 (bL 13 3) a_0 W:=by
  intro W HB HX;simp only [a_0,a_,a0,Act.put,zZ,zY,zX];refine zqt 2 9 rfl rfl ?_ ?_
  ·refine zqL (.agg #[.int .i64 fmt,.slice A ps.length c]) rfl (.pointer (some ⟨g,0,none⟩)) (Q0e (bx2 HX).1 (bx2 HX).2.1) ?_;exact zqX (S01 W HB HX)
  ·refine Q7 (U4 rfl) ?_;exact zqX (S04 (W.alloc (.cells #[.int .i64 0,.slice none 0 0] 41)) W.heap.size (HB.trans (((Below.refl W.heap.size W).alloc yQ _).mono HB.size)) (Q4 HX ((Below.refl W.heap.size W).alloc yQ _)) (heap_alloc_new W _) (V2 HX))
 have S1:∀ (W:World),Below w.heap.size w W→W.heap[g]? =some (.cells #[.int .i64 fmt,.slice A ps.length c] 41)→wpAny Tryz.prog .any o q 11 (bL 13 5) a_1 W:=by
  intro W HB HX;simp only [a_1,a_,a0,Act.put,zZ,zY,zX];refine zqh 1 3 9 rfl rfl rfl ?_ ?_ ?_
  ·refine zqL (.int .i64 fmt) rfl (.pointer (some ⟨g,0,none⟩)) (O0 (bx2 HX).1) ?_;exact zqX (S01 W HB HX)
  ·refine Q0y (.agg #[.int .i64 fmt,.slice A ps.length c]) rfl Tryz.func24 (CB.o W (RdE.below HP.o HB yQ)) ?_;rintro e W5 ⟨rfl,hb⟩;refine ⟨.string data,rfl,?_⟩;exact zqX (S12 W5 (HB.trans (hb.mono HB.size)) (Q4 HX hb))
  ·refine Q7 (U4 rfl) ?_;exact zqX (S14 (W.alloc (.cells #[.int .i64 0,.slice none 0 0] 41)) W.heap.size (HB.trans (((Below.refl W.heap.size W).alloc yQ _).mono HB.size)) (Q4 HX ((Below.refl W.heap.size W).alloc yQ _)) (heap_alloc_new W _) (V2 HX))
 have S4:∀ (W:World) (g3:Nat),Below w.heap.size w W→W.heap[g]? =some (.cells #[.int .i64 fmt,.slice A ps.length c] 41)→W.heap[g3]? =some (.cells #[.int .i64 0,.slice none 0 0] 41)→g < g3→wpAny Tryz.prog .any o q 11 (bL 13 513) (a_4 g3) W:=by
  intro W g3 HB HX HG hg3;simp only [a_4,a_,a0,Act.put,zZ,zY,zX];refine zqt 1 2 rfl rfl ?_ ?_
  ·refine zqL (.int .i64 fmt) rfl (.pointer (some ⟨g,0,none⟩)) (O0 (bx2 HX).1) ?_;exact zqX (S04 W g3 HB HX HG hg3)
  ·refine zqL (.agg #[.int .i64 fmt,.slice A ps.length c]) rfl (.pointer (some ⟨g,0,none⟩)) (Q0e (bx2 HX).1 (bx2 HX).2.1) ?_;exact zqX (S14 W g3 HB HX HG hg3)
 have S:∀ (W:World),Below w.heap.size w W→W.heap[g]? =some (.cells #[.int .i64 fmt,.slice A ps.length c] 41)→wpAny Tryz.prog .any o q 13 (bL 13 0) a0 W:=by
  intro W HB HX;simp only [a0,Act.put,zZ,zY,zX];refine zqF 0 11 (.pointer (some ⟨g,0,none⟩)) rfl rfl (.pointer (some ⟨g,0,none⟩)) ?_;simp only [Act.put,zZ,zY,zX];refine zqh 1 2 9 rfl rfl rfl ?_ ?_ ?_
  ·refine zqL (.int .i64 fmt) rfl (.pointer (some ⟨g,0,none⟩)) (O0 (bx2 HX).1) ?_;exact zqX (S0 W HB HX)
  ·refine zqL (.agg #[.int .i64 fmt,.slice A ps.length c]) rfl (.pointer (some ⟨g,0,none⟩)) (Q0e (bx2 HX).1 (bx2 HX).2.1) ?_;exact zqX (S1 W HB HX)
  ·refine Q7 (U4 rfl) ?_;exact zqX (S4 (W.alloc (.cells #[.int .i64 0,.slice none 0 0] 41)) W.heap.size (HB.trans (((Below.refl W.heap.size W).alloc yQ _).mono HB.size)) (Q4 HX ((Below.refl W.heap.size W).alloc yQ _)) (heap_alloc_new W _) (V2 HX))
 exact S _ he.o hc.o
theorem Q0l (m fmt:Int) (hf:E7 fmt) (ps:List Pt) (f:List Tk) (k:Nat) (hk:k < ps.length) (hun:ps[k].un=true) (hd:X8t m fmt ps[k].raw f) (A:Option Addr) (c:Nat) (w:World) (hm:w.cell? ⟨0,0,none⟩=some (.int .i64 m)) (h:RdE ptC 3 w (.slice A ps.length c) ps) (hl:ps.length≤100000):
 Calls Tryz.prog 27 #[.agg #[.int .i64 fmt,.slice A ps.length c],.int .i64 k] w (Q9l f w):=by
 have CK:=zW (fun w=>X2l fmt hf w);have CD:=zW (fun w hm=>Z1p fmt hf ps[k].raw f w (hd w hm));have HM:=zW hm;have HA:=zW ((Below.refl w.heap.size w).alloc yQ (.cells #[.int .i64 fmt,.slice A ps.length c] 41));obtain ⟨b,o,rfl,hb,c0,c1,c2⟩:=RdP.at_ (h.below HA.o yQ) k hk;rw [hun] at c0;generalize ps[k].raw=x2 at *;generalize ps[k].key=x1 at *;clear h hd hm hun;go_enter Tryz.func27,Tryz.ntmps27
 go_wp2_with (first
  | (go_at_call 55;refine (CK.o _).mono ?_;rintro e w' ⟨rfl,rfl⟩))
 go_region_with (go_at_call 56;refine (CD.o _ (by exact X6 HM.o (Q1 HA.o 1))).mono ?_;rintro e w1 ⟨v,rfl,ho,hb⟩;obtain ⟨A2,c2,rfl⟩:=Q0 ho;have hz:=HA.o.size;have HO:=zW (Y7 ho hz);have HB:=zW ((Q1 HA.o 1).trans (hb.mono hz));clear ho hb)
 all_goals (
  go_wp2_with fail
  go_ret2
  exact ⟨_,rfl,HO.o,HB.o⟩)
theorem Q8r (f:List Tk) (v:Value) (w:World) (h1:RdT w v f) (hl:X2 f≤1000000000) (hfl:f.length≤1000000):
 Calls Tryz.prog 60 #[v] w fun e w'=>e=.returned (.string (plS f))∧Below w.heap.size w w':=by
 obtain ⟨A,c,rfl,_,_⟩:=h1.shape;have H1:=zW h1;clear h1;obtain ⟨i8,hm,hp,ho,hi⟩:=info_parts X1n;have ht:=zW hm;have hy:=zW hp;have hv:=zW ho;have hr:=zW hi;clear hm hp ho hi;go_enter Tryz.func60,Tryz.ntmps60
 go_wp2_with fail
 obtain ⟨wo,hw⟩:∃ wo,yK (wo=w):=⟨w,rfl⟩;go_loopg [3,5,8] f.length (fun gk bv xv jv wr=>∃ (k:Nat) (bs:ByteArray),jv=.int .i64 k∧k≤f.length∧yK (bs=plS (f.take k))∧yK (wr.ownsRow w.heap.size 5 1 bv bs.size (Go.Lib.strCells bs))∧yK (Below w.heap.size w wr)∧f.length - k≤gk)
 case atStart=>exact ⟨0,⟨#[]⟩,rfl,Nat.zero_le _,by (show _=_);rw [List.take_zero];rfl,World.ownsRow_nil _ _ _ _,Below.refl _ _,yY⟩
 case round=>
  clear hw;obtain ⟨k,bs,rfl,hk,HS,HO,HB,hgk⟩:=hrel;obtain ⟨A2,c2,hF⟩:=Q0 HO.o;subst hF;have hJ:=HB.o.size;by_cases hkl:k < f.length
  ·have hI:(k:Int) < (f.length:Int):=yY;have hH:(0:Int)≤(k:Int):=yY;obtain ⟨b,o,rfl,hf,q1,q2,q3⟩:=RdT.at_ H1.o k hkl;rw [←HB.o.cell (p:=⟨b,o+k * 3,none⟩) hf] at q1;rw [←HB.o.cell (p:=⟨b,o+k * 3+1,none⟩) hf] at q2;rw [←HB.o.cell (p:=⟨b,o+k * 3+2,none⟩) hf] at q3;have hC:b < wr.heap.size:=yY;have hE:bs.size≤X2 (f.take k):=by
    rw [HS.o,Q6g];exact X0p _
   have hn:=Q4q f (k+1);rw [M0 f k hkl] at hn;have hb:bs.size+wdI f[k]≤1000000000:=yY;unfold wdI at hb;clear hn hE;have c1:=zW (V0q f k hkl);have c5:=zW (V0p f k hkl);have c0:=zW (V0o f k hkl);rw [←HS.o] at c1 c5 c0;generalize f[k]=x at q1 q2 q3 hb c1 c5 c0;obtain ⟨xk,xt,xd⟩:=x;simp only at q1 q2 q3 hb c1 c5 c0;have he:=zW ((Below.refl wr.heap.size wr).alloc yQ (.cells #[.int .i64 xk,.string xt,.int .i64 xd] 31));have HX:yK ((wr.alloc (.cells #[.int .i64 xk,.string xt,.int .i64 xd] 31)).heap[wr.heap.size]? =some (.cells #[.int .i64 xk,.string xt,.int .i64 xd] 31)):=heap_alloc_new wr _;go_upto_region 5 with fail
   generalize wr.alloc (.cells #[.int .i64 xk,.string xt,.int .i64 xd] 31)=w1 at he HX ⊢;obtain ⟨g,hg⟩:∃ g,yK (g=wr.heap.size):=⟨_,rfl⟩;rw [←hg.o] at HX ⊢;have hG:g < w1.heap.size:=(Array.getElem?_eq_some_iff.1 HX.o).1;clear q1 q2 q3;obtain ⟨x0,x1,x2,_⟩:=bx3 HX.o;have hd:=zW (V4 HO.o he.o yQ);have hc:=zW (HB.o.trans (he.o.mono HB.o.size));have hh:=hc.o.size;by_cases hx:xk=1
   ·subst hx;simp only [if_true] at hb;have hK:xt.size≤1000000000:=yY;go_wp2_with (at_builtin;go_must (refine Go.Lib.wpList_append_own_string _ rfl (.tmp 16) (.tmp 18) 89 9 rfl w.heap.size 5 i8 Tryz.underlying89 Tryz.underlying9 ht.o hy.o hv.o hr.o _ bs.size _ rfl (by exact hd.o) xt rfl (by unfold maxLen;omega) yY (by exact hh) ?_);intro v7 w7 hown7 hgr7 _)
    have hA:=hc.o.grown hgr7 (by exact hh) (fun q hq=>(hd.o.lt q hq).1);rw [H7] at hown7;have ha:yK (w7.ownsRow w.heap.size 5 1 v7 (bs++xt).size (Go.Lib.strCells (bs++xt))):=by
     show World.ownsRow _ _ _ _ _ _ _;rw [ByteArray.size_append];exact hown7
    go_roundg (f.length - (k+1))
    case measure=>omega
    case rel=>exact ⟨k+1,bs++xt,rfl,yY,c1.o (by first | trivial | rfl),ha.o,hA,yY⟩
   ·rw [if_neg hx] at hb;have t1:(xk==1)=false:=(by simpa using hx);by_cases h5:xk=5
    ·subst h5;go_wp2_with (at_builtin;go_must (refine Z5 rfl (.tmp 22) (.tmp 23) 89 5 rfl Tryz.underlying89 _ 1 1 X1n rfl yX w.heap.size _ bs.size _ rfl (by exact World.ownsRow.alloc hd.o _) ⟨w1.heap.size,0,none⟩ 1 [.int .u8 255] rfl rfl (by exact O1 _ _ rfl _ _) (by intro u hu;rw [List.mem_singleton.1 hu];rfl) yY yX yV ?_);intro g9 cap9 w9 hown9 hg9 hbel9 hgr9)
     have hs:=zW (hbel9 w.heap.size w yQ (hc.o.alloc hh _));have e255:Go.Lib.strCells bs++[Value.int .u8 255]=Go.Lib.strCells (bs++(⟨#[255]⟩:ByteArray)):=by
      rw [←H7];rfl
     rw [e255] at hown9;have ha:yK (w9.ownsRow w.heap.size 5 1 (.slice (some ⟨g9,0,none⟩) (bs.size+1) cap9) (bs++(⟨#[255]⟩:ByteArray)).size (Go.Lib.strCells (bs++(⟨#[255]⟩:ByteArray)))):=by
      show World.ownsRow _ _ _ _ _ _ _;rw [ByteArray.size_append];exact hown9
     go_roundg (f.length - (k+1))
     case measure=>omega
     case rel=>exact ⟨k+1,bs++(⟨#[255]⟩:ByteArray),rfl,yY,c5.o (by first | trivial | rfl),ha.o,hs.o,yY⟩
    ·have t5:(xk==5)=false:=(by simpa using h5);go_wp2_with fail
     go_roundg (f.length - (k+1))
     case measure=>omega
     case rel=>exact ⟨k+1,bs,rfl,yY,c0.o hx h5,hd.o,hc.o,yY⟩
  ·obtain rfl:k=f.length:=yY;have e:yK (bs=plS f):=(by (show _=_);rw [HS.o,List.take_length]);by_cases h0:0 < bs.size
   ·have hD:=O6 bs 89 9 Tryz.underlying89 Tryz.underlying5 Tryz.underlying9 HO.o rfl h0;go_wp2_with fail
    go_ret
    exact ⟨by rw [←e.o];rfl,HB.o⟩
   ·have hD:(convert 89 9 (.slice A2 bs.size c2)).run Tryz.prog wr=.ok (.string bs) wr:=by
     have hz:bs.size=0:=yY;have hB:bs=⟨#[]⟩:=by
      cases bs with
      | mk d=>
        have:d.size=0:=hz;rw [Array.eq_empty_of_size_eq_zero this]
     rw [hz,hB];cases A2 with
     | some a2=>exact run_convert_bytes_back wr 89 9 5 a2 c2 [] Tryz.underlying89 Tryz.underlying5 Tryz.underlying9 (fun j hj=>by simp at hj)
     | none=>
       rw [run_convert_bytes_string (P:=Tryz.prog) wr 89 9 5 none 0 c2 Tryz.underlying89 Tryz.underlying5 Tryz.underlying9];simp [Conv.bytesToString];rfl
    go_wp2_with fail
    go_ret
    exact ⟨by rw [←e.o];rfl,HB.o⟩
theorem Y9p (f:List Tk) (v:Value) (off:Int) (w:World) (h1:RdT w v f) (hl:X2 f≤1000000) (hfl:f.length≤100000):
 Calls Tryz.prog 61 #[v,.int .i64 off] w fun e w'=>e=.returned (.int .i64 (X6y f off))∧Below w.heap.size w w':=by
 obtain ⟨A,c,rfl,_,_⟩:=h1.shape;have ho:=zW (Q8r f _ w h1 yY yY);have hw:=zW (fun (u:World) (h:Below w.heap.size w u)=>X2p f _ u (RdE.below h1 h yQ) hfl hl);have hA:=Q6g f;have hV:=X0p f;obtain ⟨V,HV⟩:∃ V,yK (X6y f off=V):=⟨_,rfl⟩;rw [HV.o];unfold X6y at HV;clear h1;by_cases h0:off < 0
 ·rw [if_pos (Or.inl h0)] at HV;go_enter Tryz.func61,Tryz.ntmps61
  go_wp2_with fail
  go_ret
  exact ⟨by rw [←HV.o];rfl,Below.refl _ _⟩
 obtain ⟨o,rfl⟩:∃ o:Nat,off=(o:Int):=⟨off.toNat,yY⟩;by_cases h2:(plI f).length < o
 ·rw [if_pos (Or.inr yY)] at HV;generalize plS f=s at ho hA;have hO:(s.size:Int) < (o:Int):=yY;go_enter Tryz.func61,Tryz.ntmps61
  go_wp2_with (go_at_call 60;refine ho.o.mono ?_;rintro e w1 ⟨rfl,hv⟩)
  go_ret
  exact ⟨by rw [←HV.o];rfl,hv⟩
 ·rw [if_neg yY] at HV;rw [Int.toNat_natCast,←Q7q] at HV;have hh:o≤Q4g (G8 (Q9 f)):=(by rw [Q7q,X5f];omega);have hT:=O8 f;have hS:X2 (Q9 f)≤1000000:=(by rw [←Q0t,Q7q,Q0t];exact hl);generalize plS f=s at ho hA;have hF:=zW (S8 (Q9 f) (C9 f));generalize Q9 f=g at hw HV hh hT hS hF;have hY:g.length≤100000:=yY;have hO:¬ (s.size:Int) < (o:Int):=yY;have Hd:¬ (o:Int) < 0:=yY;have hU:o≤1000000:=yY;go_enter Tryz.func61,Tryz.ntmps61
  go_upto_region 5 with (first
   | (go_at_call 60;refine ho.o.mono ?_;rintro e w1 ⟨rfl,hv⟩;have hd:=zW hv)
   | (go_at_call 104;refine (hw.o _ hd.o).mono ?_;rintro e w2 ⟨v2,rfl,hz,hH⟩;obtain ⟨A2,c2,hX⟩:=Q0 hz;subst hX;have ht:=zW (hd.o.trans (hH.mono hd.o.size));have hE:=zW (OwnE.rd Q5 hz)))
  clear hv hz hH hw ho hA hV hd;obtain ⟨wo,hN⟩:∃ wo,yK (wo=w2):=⟨w2,rfl⟩;go_loopg [1,5,6,7] g.length (fun gk rv av iv xv wr=>∃ i a r:Nat,rv=.int .i64 r∧av=.int .i64 a∧iv=.int .i64 i∧i≤g.length∧a≤1000000∧yK (a+X2 (g.drop i)=X2 g)∧yK (r≤Q4g (G8 (g.drop i)))∧r≤1000000∧yK (((a+J6 (G8 (g.drop i)) r:Nat):Int)=V)∧yK (Below w2.heap.size w2 wr)∧g.length - i≤gk)
  case atStart=>exact ⟨0,0,o,rfl,rfl,rfl,Nat.zero_le _,yY,by (show _=_);rw [List.drop_zero];omega,by (show _≤_);rw [List.drop_zero];exact hh,hU,by (show _=_);rw [List.drop_zero,Nat.zero_add];exact HV.o,Below.refl _ _,yY⟩
  case round=>
   clear hN HV hh;obtain ⟨i,a,r,rfl,rfl,rfl,hi,ha,hb,hf,hr,hg,HB,hgk⟩:=hrel;by_cases hr0:0 < r
   ·have hW:(0:Int) < (r:Int):=yY;have hy:i < g.length:=by
     rcases Nat.lt_or_ge i g.length with h | h
     ·exact h
     ·exfalso;have h2:=hf.o;rw [List.drop_eq_nil_of_le h] at h2;simp [G8,Q4g] at h2;omega
    have Ha:(i:Int) < (g.length:Int):=yY;have hZ:(0:Int)≤(i:Int):=yY;have hI:=HB.o.size;obtain ⟨b,ob,rfl,hs,q1,q2,q3⟩:=RdT.at_ hE.o i hy;rw [←HB.o.cell (p:=⟨b,ob+i * 3,none⟩) hs] at q1;rw [←HB.o.cell (p:=⟨b,ob+i * 3+1,none⟩) hs] at q2;rw [←HB.o.cell (p:=⟨b,ob+i * 3+2,none⟩) hs] at q3;have hP:b < wr.heap.size:=yY;have HD:=zW (Y0c g i hy);rw [HD.o] at hg hf;rw [List.drop_eq_getElem_cons hy,X2] at hb;rw [Y3x,X9h] at hf;clear HD;generalize g[i]=x at q1 q2 q3 hg hf hb;obtain ⟨xk,xt,xd⟩:=x;simp only at q1 q2 q3;have HX:yK ((wr.alloc (.cells #[.int .i64 xk,.string xt,.int .i64 xd] 31)).heap[wr.heap.size]? =some (.cells #[.int .i64 xk,.string xt,.int .i64 xd] 31)):=heap_alloc_new wr _;have hd:=zW (HB.o.alloc hI (.cells #[.int .i64 xk,.string xt,.int .i64 xd] 31));go_upto_region 8 with fail
    generalize wr.alloc (.cells #[.int .i64 xk,.string xt,.int .i64 xd] 31)=w3 at HX hd ⊢;obtain ⟨q,hq⟩:∃ q,yK (q=wr.heap.size):=⟨_,rfl⟩;rw [←hq.o] at HX ⊢;have He:q < w3.heap.size:=(Array.getElem?_eq_some_iff.1 HX.o).1;clear q1 q2 q3;obtain ⟨x0,x1,x2,_⟩:=bx3 HX.o;by_cases hx:xk=1
    ·subst hx;have hQ:byI ⟨1,xt,xd⟩=xt.data.toList:=rfl;have hB:psI ⟨1,xt,xd⟩=List.replicate xt.size (true,false):=rfl;have hk:wdI ⟨1,xt,xd⟩=xt.size:=rfl;rw [hk] at hb;rw [hQ] at hf;rw [hB] at hg;have Hf:xt.size≤1000000:=(by have:=hb.o;omega);by_cases hrs:r < xt.size
     ·have hC:(r:Int) < (xt.size:Int):=yY;have hM:yK (((a+r:Nat):Int)=V):=by
       show _=_;rw [←hg.o,Z5y _ _ _ hrs hr0]
      go_wp2_with fail
      go_ret
      refine ⟨?_,ht.o.trans (hd.o.mono ht.o.size)⟩;rw [←hM.o];rfl
     ·have hC:¬ (r:Int) < (xt.size:Int):=yY;have hm:yK (a+xt.size+X2 (g.drop (i+1))=X2 g):=(by show _=_;rw [←hb.o];omega);have hu:a+xt.size≤1000000:=(by have:=hm.o;omega);have hn:yK (r - xt.size≤Q4g (G8 (g.drop (i+1)))):=by
       have h:=hf.o;have e:xt.data.toList.length=xt.size:=yW;rw [e] at h;show _≤_;omega
      have hp:yK (((a+xt.size+J6 (G8 (g.drop (i+1))) (r - xt.size):Nat):Int)=V):=by
       show _=_;rw [←hg.o,X3u _ _ _ yY];congr 1;omega
      have e1:((r - xt.size:Nat):Int)=(r:Int) - (xt.size:Int):=yY;go_upto_region 11 with fail
      go_region
      have hK:yK (Below w2.heap.size w2 w3.drew):=Q1 hd.o 1;go_wp2_with fail
      go_roundg (g.length - (i+1))
      case measure=>omega
      case rel=>exact ⟨i+1,a+xt.size,r - xt.size,by rw [e1],rfl,rfl,yY,hu,hm.o,hn.o,yY,hp.o,hK.o,yY⟩
    ·have t1:(xk==1)=false:=(by simpa using hx);have hk:wdI ⟨xk,xt,xd⟩=1:=by
      unfold wdI;exact if_neg hx
     rw [hk] at hb;have hm:yK (a+1+X2 (g.drop (i+1))=X2 g):=(by show _=_;rw [←hb.o];omega);have hu:a+1≤1000000:=(by have:=hm.o;omega);obtain ⟨r',rfl⟩:∃ r',r=r'+1:=⟨r - 1,yY⟩;by_cases h5:xk=5
     ·subst h5;have hn:yK (r'≤Q4g (G8 (g.drop (i+1)))):=by
       have h:=hf.o;have e:(byI ⟨5,xt,xd⟩).length=1:=rfl;rw [e] at h;show _≤_;omega
      have hp:yK (((a+1+J6 (G8 (g.drop (i+1))) r':Nat):Int)=V):=by
       show _=_;rw [←hg.o,Y6b _ rfl];congr 1;omega
      go_wp2_with fail
      go_roundg (g.length - (i+1))
      case measure=>omega
      case rel=>exact ⟨i+1,a+1,r',rfl,rfl,rfl,yY,hu,hm.o,hn.o,yY,hp.o,hd.o,yY⟩
     ·have t5:(xk==5)=false:=(by simpa using h5);have hn:yK (r'+1≤Q4g (G8 (g.drop (i+1)))):=by
       have h:=hf.o;have e:(byI ⟨xk,xt,xd⟩).length=0:=(by unfold byI;simp [hx,h5]);rw [e] at h;show _≤_;omega
      have hp:yK (((a+1+J6 (G8 (g.drop (i+1))) (r'+1):Nat):Int)=V):=by
       show _=_;rw [←hg.o,Y9r _ hx h5];congr 1;omega
      go_wp2_with fail
      go_roundg (g.length - (i+1))
      case measure=>omega
      case rel=>exact ⟨i+1,a+1,r'+1,rfl,rfl,rfl,yY,hu,hm.o,hn.o,yY,hp.o,hd.o,yY⟩
   ·obtain rfl:r=0:=yY;have hD:=zW (ht.o.trans (HB.o.mono ht.o.size));have hI:=HB.o.size;have hc:yK (((a+clP (G8 (g.drop i)):Nat):Int)=V):=by
     have h:=hg.o;rw [J6] at h;exact h
    clear hf hg hgk;go_wp2_with fail
    go_loopg [5,6] (g.length - i) (fun gk av iv wx=>∃ i a:Nat,av=.int .i64 a∧iv=.int .i64 i∧i≤g.length∧a≤1000000∧yK (a+X2 (g.drop i)=X2 g)∧yK (((a+clP (G8 (g.drop i)):Nat):Int)=V)∧wx=wr∧g.length - i≤gk)
    case atStart=>exact ⟨i,a,rfl,rfl,hi,ha,hb.o,hc.o,rfl,yQ⟩
    case round=>
     clear hb hc;obtain ⟨j,e,rfl,rfl,hj,he,hb,hc,rfl,hgk⟩:=hrel;by_cases hjl:j < g.length
     ·have Hc:(j:Int) < (g.length:Int):=yY;have Hb:(0:Int)≤(j:Int):=yY;obtain ⟨b,ob,rfl,hs,q1,_,_⟩:=RdT.at_ hE.o j hjl;rw [←HB.o.cell (p:=⟨b,ob+j * 3,none⟩) hs] at q1;rw [Y0c g j hjl] at hc;rw [List.drop_eq_getElem_cons hjl,X2] at hb;have hJ:=hF.o _ (List.getElem_mem hjl);generalize g[j]=x at q1 hc hb hJ;have hk:x.k=3→wdI x=1:=fun h=>by unfold wdI;rw [if_neg yY]
      by_cases h3:x.k=3
      ·rw [Z4b x h3] at hc;rw [hk h3] at hb;have hG:e+1+X2 (g.drop (j+1))=X2 g:=(by rw [←hb.o];omega);have hR:e+1≤1000000:=yY;have hL:=zW hG;clear hG hk;rw [h3] at q1;go_wp2_with fail
       go_roundg (g.length - (j+1))
       case measure=>omega
       case rel=>exact ⟨j+1,e+1,rfl,rfl,yY,hR,hL.o,by (show _=_);rw [←hc.o];congr 1;omega,rfl,yY⟩
      ·rw [Z4c x h3 hJ] at hc;have t3:(x.k==3)=false:=(by simpa using h3);clear hk;go_wp2_with fail
       go_ret
       refine ⟨?_,hD.o⟩;rw [←hc.o];rfl
     ·obtain rfl:j=g.length:=yY;have e9:clP (G8 (g.drop g.length))=0:=(by rw [List.drop_length];rfl);rw [e9] at hc;go_wp2_with fail
      go_ret
      refine ⟨?_,hD.o⟩;rw [←hc.o];rfl
def rvS (s:ByteArray) (k:Nat):ByteArray:=⟨((s.data.toList.drop (s.size - k)).reverse).toArray⟩
theorem V5r (s:ByteArray):(rvS s s.size).size=s.size:=by
 show ((s.data.toList.drop (s.size - s.size)).reverse).length=_;rw [Nat.sub_self,List.drop_zero,List.length_reverse,←Lib.size_eq]
theorem V9q (s:ByteArray) (k:Nat) (hk:k < s.size):bt (rvS s s.size) k=bt s (s.size - 1 - k):=by
 have hl:s.data.toList.length=s.size:=(Lib.size_eq s).symm;unfold bt rvS;simp only
 rw [Nat.sub_self,List.drop_zero,List.getD_eq_getElem?_getD,List.getD_eq_getElem?_getD,List.getElem?_reverse yY,hl]
theorem V2d:(Tryz.prog.info? 5).map (fun i=>(i.zero,i.size,i.bytes))=some (some (.int .u8 0),1,1):=by kernel_rfl
theorem V5q (s:ByteArray) (src dst:TypeId) {e:TypeId} (hs:Tryz.prog.underlying src=some (.slice e)) (he:Tryz.prog.underlying e=some (.int .u8)) (hd:Tryz.prog.underlying dst=some .string) (w:World) (g:Nat)
 (h:w.rowIs g e s.size (fun j=>.int .u8 (bt s (s.size - 1 - j):Int))):(convert src dst (.slice (some ⟨g,0,none⟩) s.size s.size)).run Tryz.prog w=.ok (.string (rvS s s.size)) w:=by
 have hl:s.data.toList.length=s.size:=(Lib.size_eq s).symm;have:=run_convert_bytes_back (P:=Tryz.prog) w src dst e ⟨g,0,none⟩ s.size s.data.toList.reverse hs he hd (fun j hj=>by
  have ha:j < s.size:=(by simpa [hl] using hj);rw [Addr.add_lit,Nat.zero_add,h.cell ha];congr 2;rw [List.getElem_reverse];unfold bt;rw [List.getD_eq_getElem?_getD,List.getElem?_eq_getElem yY];simp [hl])
 rw [List.length_reverse,hl] at this;rw [this];congr 2;unfold rvS;rw [Nat.sub_self,List.drop_zero]
theorem Y2p (s:ByteArray) (w:World) (hs:s.size≤1048576):Calls Tryz.prog 101 #[.string s] w fun e w'=>e=.returned (.string (rvS s s.size))∧Below w.heap.size w w':=by
 have ho:=fun w=>run_make_row' (P:=Tryz.prog) 89 5 (.int .u8 0) 1 Tryz.underlying89 V2d rfl .i64 .i64 s.size yY yY w;have hc:=zW (V5q s 89 9 Tryz.underlying89 Tryz.underlying5 Tryz.underlying9);go_enter Tryz.func101,Tryz.ntmps101
 have ha:yK ((w.alloc (.cells (madeCells #[.int .u8 0] s.size) 5)).rowIs w.heap.size 5 s.size (fun j=>.int .u8 (if j < 0 then (bt s (s.size - 1 - j):Int) else 0))):=(World.rowIs_made w (.int .u8 0) s.size 5).congr fun j _=>by rw [if_neg (Nat.not_lt_zero j)]
 have hb:=zW ((Below.refl w.heap.size w).alloc yQ (.cells (madeCells #[.int .u8 0] s.size) 5));go_upto_region 2 with fail
 generalize hg:w.heap.size=g at ha ⊢;generalize w.alloc (.cells (madeCells #[.int .u8 0] s.size) 5)=w1 at ha hb ⊢;go_wp2_with fail
 go_loopg [10] s.size (fun gk kv wr=>∃ k:Nat,k≤s.size∧kv=.int .i64 k∧yK (wr.rowIs g 5 s.size (fun j=>.int .u8 (if j < k then (bt s (s.size - 1 - j):Int) else 0)))∧yK (Below w.heap.size w wr)∧s.size - k≤gk)
 case atStart=>exact ⟨0,yY,rfl,ha.o,hb.o,yY⟩
 case round=>
  clear ha hb;obtain ⟨k,hk,rfl,HR,HB,hgk⟩:=hrel;by_cases hkl:k < s.size
  ·have hf:(k:Int) < (s.size:Int):=yY;obtain ⟨j,hj⟩:∃ j,j+k+1=s.size:=⟨s.size - 1 - k,yY⟩;have r0:=HR.o.cell (i:=k) hkl;have rf:=HR.o.frozen k;rw [if_neg (Nat.lt_irrefl k)] at r0;have hn:(j:Int) < (s.size:Int):=yY;have he:j < s.size:=yY;have hm:(0:Int)≤(j:Int):=yY;have hd:yK ((wr.setCell ⟨g,k,none⟩ (.int .u8 (s[j].toNat:Int))).rowIs g 5 s.size (fun j=>.int .u8 (if j < k+1 then (bt s (s.size - 1 - j):Int) else 0))):=(HR.o.set k (.int .u8 (s[j].toNat:Int))).congr fun i hi=>by
    by_cases h:i=k
    ·rw [if_pos h,if_pos yY,h,show s.size - 1 - k=j by omega,Y1b s j he]
    ·rw [if_neg h];by_cases h2:i < k
     ·rw [if_pos h2,if_pos yY]
     ·rw [if_neg h2,if_neg yY]
   obtain ⟨z,hz⟩:∃ z:Int,z=(s.size:Int) - 1 - (k:Int):=⟨_,rfl⟩;have hh:z=(j:Int):=yY;subst hh;have hp:(s.size:Int) - 1 - (k:Int)=(j:Int):=hz.symm;clear hz;go_wp2_with fail
   go_roundg (s.size - (k+1))
   case measure=>omega
   case rel=>exact ⟨k+1,yY,by go_num,hd.o,HB.o.setCell (p:=⟨g,k,none⟩) (show w.heap.size≤g by omega) _,yQ⟩
  ·obtain rfl:k=s.size:=yY;have hf:¬ (s.size:Int) < (s.size:Int):=yY;have hl:=hc.o wr g (HR.o.congr fun j hj=>by rw [if_pos hj]);go_wp2_with fail
   go_ret
   exact ⟨rfl,hg▸HB.o⟩
theorem Z7q {w:World} {q:Nat} {x:At} (h:AtIn w q x):w.drew.rangeAt q 0 (atC x):=fun j v hj=>by
 rw [Nat.zero_add];show w.cell? _=_;rw [cell_of_row _ _ _ _ _ _ h];simpa using hj
abbrev V2h:Array Value:=#[.int .u8 0,.int .u8 0,.int .u8 0,.int .u8 0,.int .u8 0,.int .u8 0,.int .u8 0,.int .u8 0,.int .u8 0,.int .u8 0,.int .u8 0,.int .u8 0,.int .u8 0,.int .u8 0,.int .u8 0,.int .u8 0,.int .u8 0,.int .u8 0,.int .u8 0,.int .u8 0,.int .u8 0,.int .u8 0,.int .u8 0,.int .u8 0,.int .u8 0,.int .u8 0,.int .u8 0,.int .u8 0,.int .u8 0,.int .u8 0,.int .u8 0,.int .u8 0,.int .i64 0,.bool false]
theorem X2a (l:List At) (s:ByteArray) (lv:Value) (w:World) (hp:RdE atC 34 w lv l) (hs:s.size≤1048576) (hl:l.length≤140737488355328) (hone:∀ x∈l,1≤x.mn∧x.many=false):
 Calls Tryz.prog 102 #[lv,.string s] w (V8t w (s.size+1) (G7 s l Q8b)):=by
 obtain ⟨A,c,rfl,Hu,_⟩:=hp.shape;have HP:=zW hp;have hM:=zW hone;clear hp hone;have hu:=Tryz.underlying107;have hi:(Tryz.prog.info? 107).map (·.size)=some 34:=Q3g;have Hl:=fun w=>run_make_row' (P:=Tryz.prog) 134 4 (.bool false) 1 Tryz.underlying134 Q6u rfl .i64 .i64 (s.size+1) yY yY w;rw [show ((s.size+1:Nat):Int)=(s.size:Int)+1 by omega] at Hl;obtain ⟨R,hX⟩:∃ R,yK (R=G7 s l Q8b):=⟨_,rfl⟩;rw [←hX.o];go_enter Tryz.func102,Tryz.ntmps102
 have hN:yK ((w.alloc (.cells (madeCells #[.bool false] (s.size+1)) 4)).rowIs w.heap.size 4 (s.size+1) (fun j=>.bool (decide (j < 0)))):=(World.rowIs_made w (.bool false) (s.size+1) 4).congr fun j _=>by rw [decide_eq_false yY]
 have hE:=zW ((Below.refl w.heap.size w).alloc yQ (.cells (madeCells #[.bool false] (s.size+1)) 4));go_upto_region 2 with fail
 generalize w.alloc (.cells (madeCells #[.bool false] (s.size+1)) 4)=w1 at hN hE ⊢;go_wp2_with fail
 go_loopg [17] (s.size+1) (fun gk kv wr=>∃ k:Nat,k≤s.size+1∧kv=.int .i64 k∧yK (wr.rowIs w.heap.size 4 (s.size+1) (fun j=>.bool (decide (j < k))))∧yK (Below w.heap.size w wr)∧s.size+1 - k≤gk)
 case atStart=>exact ⟨0,yY,rfl,hN.o,hE.o,yY⟩
 case round=>
  clear hN hE;obtain ⟨k,hk,rfl,HR,HB,hgk⟩:=hrel;by_cases hkl:k < s.size+1
  ·have Hj:(k:Int) < (s.size:Int)+1:=yY;have r0:=HR.o.cell (i:=k) hkl;have rf:=HR.o.frozen k;have hd:yK ((wr.setCell ⟨w.heap.size,k,none⟩ (.bool true)).rowIs w.heap.size 4 (s.size+1) (fun j=>.bool (decide (j < k+1)))):=(HR.o.set k (.bool true)).congr fun j _=>by
    by_cases h:j=k
    ·rw [if_pos h,decide_eq_true yY]
    ·rw [if_neg h];congr 1;rw [decide_eq_decide];omega
   go_wp2_with fail
   go_roundg (s.size+1 - (k+1))
   case measure=>omega
   case rel=>exact ⟨k+1,yY,by go_num,hd.o,HB.o.setCell (p:=⟨w.heap.size,k,none⟩) yQ _,yQ⟩
  obtain rfl:k=s.size+1:=yY;have Hj:¬ (((s.size+1:Nat)):Int) < (s.size:Int)+1:=yY;have hW:yK (wr.rowIs w.heap.size 4 (s.size+1) (fun j=>.bool (Q8b j))):=HR.o.congr fun j hj=>by rw [decide_eq_true hj];rfl
  clear HR;go_wp2_with fail
  obtain ⟨wo,hZ⟩:∃ wo,yK (wo=wr):=⟨wr,rfl⟩;go_loopg [5,26] l.length (fun gk pv kv wr=>∃ (k b:Nat) (g:Nat→Bool),pv=.slice (some ⟨b,0,none⟩) (s.size+1) (s.size+1)∧kv=.int .i64 k∧k≤l.length∧w.heap.size≤b∧yK (wr.rowIs b 4 (s.size+1) (fun j=>.bool (g j)))∧yK (G7 s (l.drop k) g=R)∧yK (Below w.heap.size w wr)∧l.length - k≤gk)
  case atStart=>exact ⟨0,w.heap.size,Q8b,rfl,rfl,yY,yY,hW.o,by (show _=_);rw [hX.o];rfl,HB.o,yY⟩
  case round=>
   clear hW HB hZ;obtain ⟨k,b,g,rfl,rfl,Ht,Hd,HG,HX,HB,Hf⟩:=hrel;by_cases hkl:k < l.length
   ·have hP:(k:Int) < (l.length:Int):=yY;have Hs:(0:Int)≤(k:Int):=yY;obtain ⟨bp,o,rfl,Hb,hh⟩:=HP.o.cells yY;have hx:l[k]? =some l[k]:=List.getElem?_eq_getElem hkl;have hY:yK (G7 s (l.drop (k+1)) (Q0g l[k] s g)=R):=by
     have h:=HX.o;rw [List.drop_eq_getElem_cons hkl] at h;exact h
    have hQ:wr.rangeAt bp (o+k * 34) (atC l[k]):=fun j v hj=>by
     rw [Nat.add_assoc];exact (HB.o.cell (p:=⟨bp,o+(k * 34+j),none⟩) Hb).trans (hh k _ j v hx hj)
    have hL:=zW (hM.o _ (List.getElem_mem hkl));clear HX hx hh;generalize l[k]=x at hY hQ hL;have hz:=HB.o.size;have hb:=zW ((X4h wr).row x);have he:yK (Below w.heap.size w ((wr.alloc (.cells V2h 107)).setRow wr.heap.size (atC x).toArray)):=below_setRow (HB.o.alloc hz _) hz _;have hJ:yK (Below wr.heap.size wr ((wr.alloc (.cells V2h 107)).setRow wr.heap.size (atC x).toArray)):=below_setRow ((Below.refl _ wr).alloc yQ _) yQ _;go_upto_region 10 with (first
     | (refine wpList_load_mid rfl 107 (.tmp 28) rfl bp (o+k * 34) rfl (atC x) _ hQ hu rfl (by rw [hi,E3]) ?_)
     | (refine wpList_store_row rfl 107 (.tmp 8) (.tmp 29) rfl (wr.heap.size) (atC x).toArray rfl rfl 107 (atC ⟨noP,0,false⟩).toArray (X4h wr) (by rw [Q3g,Q9p]) (by simp only [Q9p]) (Q3f _) ?_))
    have hf:=zW (HG.o.of_block (w':=(wr.alloc (.cells V2h 107)).setRow wr.heap.size (atC x).toArray) (hJ.o.block _ HG.o.lt));have Hc:b < wr.heap.size:=HG.o.lt;have hR:=hJ.o.size;have hC:wr.heap.size < ((wr.alloc (.cells V2h 107)).setRow wr.heap.size (atC x).toArray).heap.size:=(Array.getElem?_eq_some_iff.1 hb.o).1;clear HB hQ HG hJ;generalize wr.heap.size=q at hb he hf hz Hc hR hC ⊢;generalize (wr.alloc (.cells V2h 107)).setRow q (atC x).toArray=w2 at hb he hf hR hC ⊢;have hd:yK ((w2.alloc (.cells (madeCells #[.bool false] (s.size+1)) 4)).rowIs w2.heap.size 4 (s.size+1) (fun j=>.bool (if j < 0 then Q0g x s g j else false))):=(World.rowIs_made w2 (.bool false) (s.size+1) 4).congr fun j _=>by rw [if_neg (Nat.not_lt_zero j)]
    have hF:=zW (he.o.alloc yY (.cells (madeCells #[.bool false] (s.size+1)) 4));have hD:yK (AtIn (w2.alloc (.cells (madeCells #[.bool false] (s.size+1)) 4)) q x):=hb.o.keep (Below.heap_alloc w2 _ q hC);have hG:=zW (hf.o.of_block (w':=w2.alloc (.cells (madeCells #[.bool false] (s.size+1)) 4)) (Below.heap_alloc w2 _ b yY));go_upto_region 11 with fail
    clear he hb hf hR;generalize w2.heap.size=N at hd hC ⊢;generalize w2.alloc (.cells (madeCells #[.bool false] (s.size+1)) 4)=w3 at hd hF hD hG ⊢;go_wp2_with fail
    obtain ⟨wo2,Ha⟩:∃ wo,yK (wo=w3):=⟨w3,rfl⟩;go_loopg [36] (s.size+1) (fun gk kv wr=>∃ i:Nat,i≤s.size+1∧kv=.int .i64 i∧yK (wr.rowIs N 4 (s.size+1) (fun j=>.bool (if j < i then Q0g x s g j else false)))∧yK (wr.rowIs b 4 (s.size+1) (fun j=>.bool (g j)))∧yK (AtIn wr q x)∧yK (Below w.heap.size w wr)∧s.size+1 - i≤gk)
    case atStart=>exact ⟨0,yY,rfl,hd.o,hG.o,hD.o,hF.o,yY⟩
    case round=>
     clear hd hG hD hF;obtain ⟨i,Hi,rfl,HR,HG,HA,HB,Hg⟩:=hrel;by_cases hil:i < s.size+1
     ·have Hh:(i:Int) < (s.size:Int)+1:=yY;have Hr:(0:Int)≤(i:Int):=yY;have qm:=HA.o.mn;have qg:=HG.o.cell (i:=i) hil;have r0:=HR.o.cell (i:=i) hil;rw [if_neg (Nat.lt_irrefl i)] at r0;have rf:=HR.o.frozen i;have Hq:b < N:=yY;have hm:¬ x.mn < 1:=(by have:=hL.o.1;omega);have hV:=zW hL.o.2;have hS:yK ((decide (x.mn < 1) && g i)=false):=(by show _=_;rw [decide_eq_false hm];rfl);have hd:yK ((wr.setCell ⟨N,i,none⟩ (.bool false)).rowIs N 4 (s.size+1) (fun j=>.bool (if j=i then false else if j < i then Q0g x s g j else false))):=(HR.o.set i (.bool false)).congr fun j hj=>by
       by_cases h:j=i
       ·rw [if_pos h,if_pos h]
       ·rw [if_neg h,if_neg h]
      have hf:=zW (HG.o.of_block (w':=(wr.setCell ⟨N,i,none⟩ (.bool false))) (Below.heap_setCell _ _ _ _ (show b≠N by omega)));have hb:yK (AtIn (wr.setCell ⟨N,i,none⟩ (.bool false)) q x):=HA.o.keep (Below.heap_setCell _ _ _ _ (show q≠N by omega));have he:yK (Below w.heap.size w (wr.setCell ⟨N,i,none⟩ (.bool false))):=HB.o.setCell (p:=⟨N,i,none⟩) (show w.heap.size≤N by omega) _;have hO:N < (wr.setCell ⟨N,i,none⟩ (.bool false)).heap.size:=hd.o.lt;go_upto_region 15 with fail
      clear HR HG HA HB qm qg r0 rf;generalize (wr.setCell ⟨N,i,none⟩ (.bool false))=w4 at hd hf hb he hO ⊢;rcases i with _ | m
      ·have hn:yK (Q0g x s g 0=false):=(by show _=_;rw [Z7l,hS.o]);refine zqR (l0:=#[false,false,false,false,false,false,false,false,false,false,false,false,false,false,false,false,false,false,false,false,false,false,false,false,false,false,false,false]) 28 rfl ?_;refine zqM 0 51 (.int .i64 0) rfl ?_;refine zqB 1 52 (.bool false) rfl rfl (.int .i64 0) (.int .i64 0) ?_;refine zqM 2 53 (.bool false) rfl ?_;refine zqS 3 54 rfl ?_;refine zqS 4 55 rfl ?_;refine zqS 5 56 rfl ?_;refine zqS 6 57 rfl ?_;refine zqS 7 58 rfl ?_;refine zqS 8 59 rfl ?_;refine zqP 9 60 (.bool false) rfl rfl false ?_;refine zqM 10 61 (.bool false) rfl ?_;refine zqS 11 62 rfl ?_;refine zqS 12 63 rfl ?_;refine zqS 13 64 rfl ?_;refine zqS 14 65 rfl ?_;refine zqS 15 66 rfl ?_;refine zqS 16 67 rfl ?_;refine zqS 17 68 rfl ?_;refine zqS 18 69 rfl ?_;refine zqS 19 70 rfl ?_;refine zqS 20 71 rfl ?_;refine zqS 21 72 rfl ?_;refine zqS 22 73 rfl ?_;refine zqS 23 74 rfl ?_;refine zqS 24 75 rfl ?_;refine zqS 25 76 rfl ?_;refine zqS 26 77 rfl ?_;refine zqP 27 78 (.bool false) rfl rfl false ?_;refine wpAny_done yZ ?_ _;simp only [Act.put,zZ,zY,zX];have hg:yK (w4.drew.rowIs N 4 (s.size+1) (fun j=>.bool (if j < 0+1 then Q0g x s g j else false))):=hd.o.congr fun j hj=>by
        by_cases h:j=0
        ·rw [if_pos h,if_pos yY,h,hn.o]
        ·rw [if_neg h,if_neg yY,if_neg yY]
       go_wp2_with fail
       go_roundg (s.size+1 - (0+1))
       case measure=>omega
       case rel=>exact ⟨0+1,yY,by go_num,hg.o,hf.o.drew,hb.o,he.o.drew,yQ⟩
      ·have Hm:m < s.size:=yY;have Hn:(m:Int) < (s.size:Int):=yY;have Hv:(0:Int)≤(m:Int):=yY;have He:((m+1:Nat):Int)=(m:Int)+1:=yY;rw [He];have hK:=zW (run_loadAt_mid (P:=Tryz.prog) w4.drew q 0 107 (atC x) _ (Z7q hb.o) hu rfl (by rw [hi,E3]));have hH:yK (∀ w,(do eqGuard .gtr 3 (.tmp 51) (.const (.int .i64 0)) (.int .i64 ((m:Int)+1)) (.int .i64 0);Go.binOp .gtr 3 (.int .i64 ((m:Int)+1)) (.int .i64 0):Sem Value).run Tryz.prog w=.ok (.bool true) w):=by
        have h1:(0:Int) < (m:Int)+1:=yY;show ∀ w,_=_;intro w;go_simp
       have hB:yK (∀ {x y:Operand} (w:World),(do eqGuard .sub 3 x y (.int .i64 ((m:Int)+1)) (.int .i64 1);Go.binOp .sub 3 (.int .i64 ((m:Int)+1)) (.int .i64 1):Sem Value).run Tryz.prog w=.ok (.int .i64 m) w):=by
        show ∀ (x y:Operand) (w:World),_=_;intro x y w;go_simp;rw [IntKind.wrap_i64];omega
       have hI:yK (∀ w,(Instr.index 9 (.string s) (.int .i64 m)).run Tryz.prog w=.ok (.int .u8 (s[m].toNat)) w):=by
        show ∀ w,_=_;intro w;go_simp
       have Hk:(m:Int) < (s.size:Int)+1:=yY;have hU:yK (∀ w,(Instr.indexAt 134 (.slice (some ⟨b,0,none⟩) (s.size+1) (s.size+1)) (.int .i64 m)).run Tryz.prog w=.ok (.pointer (some ⟨b,m,none⟩)) w):=by
        show ∀ w,_=_;intro w;go_simp
       have Ho:yK (∀ w,(Instr.indexAt 134 (.slice (some ⟨N,0,none⟩) (s.size+1) (s.size+1)) (.int .i64 m)).run Tryz.prog w=.ok (.pointer (some ⟨N,m,none⟩)) w):=by
        show ∀ w,_=_;intro w;go_simp
       have HV:yK (Q0g x s g (m+1)=(false || (x.p (s[m].toNat) && (g m || (x.many && Q0g x s g m))))):=by
        show _=_;rw [V2k,hS.o,Y1b s m Hm]
       have hT:=zW (fun w=>Y1d x (s[m].toNat) w (UInt8.toNat_lt _));have ha:yK (w4.drew.rowIs N 4 (s.size+1) (fun j=>.bool (if j=m+1 then false else if j < m+1 then Q0g x s g j else false))):=hd.o;have hc:yK (w4.drew.rowIs b 4 (s.size+1) (fun j=>.bool (g j))):=hf.o;have ho:yK (AtIn w4.drew q x):=hb.o;have hq:yK (Below w.heap.size w w4.drew):=he.o.drew;have ht:q < w4.drew.heap.size:=(Array.getElem?_eq_some_iff.1 hb.o).1;have Hp:N < w4.drew.heap.size:=hO;clear hd hf hb he hO;cases hpx:x.p (s[m].toNat) with
       | false=>
         rw [hpx] at HV;have HC:=hT;rw [hpx] at HC;have hn:yK (Q0g x s g (m+1)=false):=by
          show _=_;rw [HV.o];exact Bool.or_false _
         refine zqR (l0:=#[false,false,false,false,false,false,false,false,false,false,false,false,false,false,false,false,false,false,false,false,false,false,false,false,false,false,false,false]) 28 rfl ?_;refine zqM 0 51 (.int .i64 ((m:Int)+1)) rfl ?_;refine zqB 1 52 (.bool true) rfl rfl (.int .i64 ((m:Int)+1)) (.int .i64 0) ?_ (hr:=hH.o);refine zqM 2 53 (.bool true) rfl ?_;refine zqM 4 55 (.string s) rfl ?_;refine zqM 5 56 (.int .i64 ((m:Int)+1)) rfl ?_;refine zqB 6 57 (.int .i64 m) rfl rfl (.int .i64 ((m:Int)+1)) (.int .i64 1) ?_ (hr:=hB.o);refine zqJ 7 58 (.int .u8 (s[m].toNat)) rfl rfl (.string s) (.int .i64 m) ?_ (hr:=hI.o);simp only [Act.put,zZ,zY,zX];refine zqV 3 54 (.agg (atC x).toArray) rfl rfl (.pointer (some ⟨q,0,none⟩)) (hK.o) ?_;simp only [Act.put,zZ,zY,zX];refine zqK 8 59 rfl (#[.agg (atC x).toArray,.int .u8 (s[m].toNat)]) (HC.o _) ?_;rintro e w7 ⟨rfl,hb7⟩;refine ⟨_,rfl,?_⟩;have qa:=(hc.o.of_block (hb7.block _ hc.o.lt)).cell (i:=m) yY;have qn:=(ha.o.of_block (hb7.block _ ha.o.lt)).cell (i:=m) yY;have qy:=(ho.o.keep (hb7.block _ ht)).many;rw [if_neg yY,if_pos yY] at qn;have rf7:=(ha.o.of_block (hb7.block _ ha.o.lt)).frozen (m+1);have r7:=(ha.o.of_block (hb7.block _ ha.o.lt)).cell (i:=m+1) hil;rw [if_pos rfl] at r7;change wpAny _ _ _ _ _ _ (Act.put _ (some 59) _) _
         refine zqP 9 60 (.bool false) rfl rfl true ?_;refine zqM 10 61 (.bool false) rfl ?_;refine zqS 11 62 rfl ?_;refine zqS 12 63 rfl ?_;refine zqS 13 64 rfl ?_;refine zqS 14 65 rfl ?_;refine zqS 15 66 rfl ?_;refine zqS 16 67 rfl ?_;refine zqS 17 68 rfl ?_;refine zqS 18 69 rfl ?_;refine zqS 19 70 rfl ?_;refine zqS 20 71 rfl ?_;refine zqS 21 72 rfl ?_;refine zqS 22 73 rfl ?_;refine zqS 23 74 rfl ?_;refine zqS 24 75 rfl ?_;refine zqS 25 76 rfl ?_;refine zqS 26 77 rfl ?_;refine zqP 27 78 (.bool false) rfl rfl false ?_;refine wpAny_done yZ ?_ _;simp only [Act.put,zZ,zY,zX];go_wp2_with fail
         have hA:=zW (ha.o.of_block (hb7.block _ ha.o.lt));have hy:=zW (hc.o.of_block (hb7.block _ hc.o.lt));have hv:=zW (ho.o.keep (hb7.block _ ht));have hw:=zW (hq.o.trans (hb7.mono hq.o.size));have hg:yK (w7.rowIs N 4 (s.size+1) (fun j=>.bool (if j < m+1+1 then Q0g x s g j else false))):=hA.o.congr fun j hj=>by
          by_cases h:j=m+1
          ·rw [if_pos h,if_pos yY,h,hn.o]
          ·rw [if_neg h];by_cases h2:j < m+1
           ·rw [if_pos h2,if_pos yY]
           ·rw [if_neg h2,if_neg yY]
         go_roundg (s.size+1 - (m+1+1))
         case measure=>omega
         case rel=>exact ⟨m+1+1,yY,by go_num,hg.o,hy.o,hv.o,hw.o,yQ⟩
       | true=>
         rw [hpx] at HV;have HC:=hT;rw [hpx] at HC;cases hfi:g m with
         | true=>
           rw [hfi] at HV;have hn:yK (Q0g x s g (m+1)=true):=by
            show _=_;rw [HV.o];exact Bool.or_true _
           refine zqR (l0:=#[false,false,false,false,false,false,false,false,false,false,false,false,false,false,false,false,false,false,false,false,false,false,false,false,false,false,false,false]) 28 rfl ?_;refine zqM 0 51 (.int .i64 ((m:Int)+1)) rfl ?_;refine zqB 1 52 (.bool true) rfl rfl (.int .i64 ((m:Int)+1)) (.int .i64 0) ?_ (hr:=hH.o);refine zqM 2 53 (.bool true) rfl ?_;refine zqM 4 55 (.string s) rfl ?_;refine zqM 5 56 (.int .i64 ((m:Int)+1)) rfl ?_;refine zqB 6 57 (.int .i64 m) rfl rfl (.int .i64 ((m:Int)+1)) (.int .i64 1) ?_ (hr:=hB.o);refine zqJ 7 58 (.int .u8 (s[m].toNat)) rfl rfl (.string s) (.int .i64 m) ?_ (hr:=hI.o);simp only [Act.put,zZ,zY,zX];refine zqV 3 54 (.agg (atC x).toArray) rfl rfl (.pointer (some ⟨q,0,none⟩)) (hK.o) ?_;simp only [Act.put,zZ,zY,zX];refine zqK 8 59 rfl (#[.agg (atC x).toArray,.int .u8 (s[m].toNat)]) (HC.o _) ?_;rintro e w7 ⟨rfl,hb7⟩;refine ⟨_,rfl,?_⟩;have qa:=(hc.o.of_block (hb7.block _ hc.o.lt)).cell (i:=m) yY;have qn:=(ha.o.of_block (hb7.block _ ha.o.lt)).cell (i:=m) yY;have qy:=(ho.o.keep (hb7.block _ ht)).many;rw [if_neg yY,if_pos yY] at qn;rw [hfi] at qa;have rf7:=(ha.o.of_block (hb7.block _ ha.o.lt)).frozen (m+1);have r7:=(ha.o.of_block (hb7.block _ ha.o.lt)).cell (i:=m+1) hil;rw [if_pos rfl] at r7;change wpAny _ _ _ _ _ _ (Act.put _ (some 59) _) _
           refine zqP 9 60 (.bool true) rfl rfl true ?_;refine zqM 10 61 (.bool true) rfl ?_;refine zqM 11 62 (.slice (some ⟨b,0,none⟩) (s.size+1) (s.size+1)) rfl ?_;refine zqM 12 63 (.int .i64 ((m:Int)+1)) rfl ?_;refine zqB 13 64 (.int .i64 m) rfl rfl (.int .i64 ((m:Int)+1)) (.int .i64 1) ?_ (hr:=hB.o);refine zqI 14 65 (.pointer (some ⟨b,m,none⟩)) rfl rfl (.slice (some ⟨b,0,none⟩) (s.size+1) (s.size+1)) (.int .i64 m) ?_ (hr:=hU.o);simp only [Act.put,zZ,zY,zX];refine zqV 15 66 (.bool true) rfl rfl (.pointer (some ⟨b,m,none⟩)) yU ?_;refine zqM 16 67 (.bool true) rfl ?_;refine zqS 17 68 rfl ?_;refine zqS 18 69 rfl ?_;refine zqS 19 70 rfl ?_;refine zqS 20 71 rfl ?_;refine zqS 21 72 rfl ?_;refine zqS 22 73 rfl ?_;refine zqS 23 74 rfl ?_;refine zqS 24 75 rfl ?_;refine zqS 25 76 rfl ?_;refine zqP 26 77 (.bool true) rfl rfl true ?_;refine zqP 27 78 (.bool true) rfl rfl true ?_;refine wpAny_done yZ ?_ _;simp only [Act.put,zZ,zY,zX];go_wp2_with fail
           have hA:=zW (ha.o.of_block (hb7.block _ ha.o.lt));have hy:=zW (hc.o.of_block (hb7.block _ hc.o.lt));have hv:=zW (ho.o.keep (hb7.block _ ht));have hw:=zW (hq.o.trans (hb7.mono hq.o.size));have hg:yK ((w7.setCell ⟨N,m+1,none⟩ (.bool true)).rowIs N 4 (s.size+1) (fun j=>.bool (if j < m+1+1 then Q0g x s g j else false))):=(hA.o.set (m+1) (.bool true)).congr fun j hj=>by
            by_cases h:j=m+1
            ·rw [if_pos h,if_pos yY,h,hn.o]
            ·rw [if_neg h,if_neg h];by_cases h2:j < m+1
             ·rw [if_pos h2,if_pos yY]
             ·rw [if_neg h2,if_neg yY]
           go_roundg (s.size+1 - (m+1+1))
           case measure=>omega
           case rel=>exact ⟨m+1+1,yY,by go_num,hg.o,hy.o.of_block (Below.heap_setCell _ _ _ _ (show b≠N by omega)),hv.o.keep (Below.heap_setCell _ _ _ _ (show q≠N by omega)),hw.o.setCell (p:=⟨N,m+1,none⟩) (show w.heap.size≤N by omega) _,yQ⟩
         | false=>
           rw [hfi,hV.o] at HV;have hn:yK (Q0g x s g (m+1)=false):=by
            show _=_;rw [HV.o];exact Bool.or_false _
           refine zqR (l0:=#[false,false,false,false,false,false,false,false,false,false,false,false,false,false,false,false,false,false,false,false,false,false,false,false,false,false,false,false]) 28 rfl ?_;refine zqM 0 51 (.int .i64 ((m:Int)+1)) rfl ?_;refine zqB 1 52 (.bool true) rfl rfl (.int .i64 ((m:Int)+1)) (.int .i64 0) ?_ (hr:=hH.o);refine zqM 2 53 (.bool true) rfl ?_;refine zqM 4 55 (.string s) rfl ?_;refine zqM 5 56 (.int .i64 ((m:Int)+1)) rfl ?_;refine zqB 6 57 (.int .i64 m) rfl rfl (.int .i64 ((m:Int)+1)) (.int .i64 1) ?_ (hr:=hB.o);refine zqJ 7 58 (.int .u8 (s[m].toNat)) rfl rfl (.string s) (.int .i64 m) ?_ (hr:=hI.o);simp only [Act.put,zZ,zY,zX];refine zqV 3 54 (.agg (atC x).toArray) rfl rfl (.pointer (some ⟨q,0,none⟩)) (hK.o) ?_;simp only [Act.put,zZ,zY,zX];refine zqK 8 59 rfl (#[.agg (atC x).toArray,.int .u8 (s[m].toNat)]) (HC.o _) ?_;rintro e w7 ⟨rfl,hb7⟩;refine ⟨_,rfl,?_⟩;have qa:=(hc.o.of_block (hb7.block _ hc.o.lt)).cell (i:=m) yY;have qn:=(ha.o.of_block (hb7.block _ ha.o.lt)).cell (i:=m) yY;have qy:=(ho.o.keep (hb7.block _ ht)).many;rw [if_neg yY,if_pos yY] at qn;rw [hfi] at qa;rw [hV.o] at qy;have rf7:=(ha.o.of_block (hb7.block _ ha.o.lt)).frozen (m+1);have r7:=(ha.o.of_block (hb7.block _ ha.o.lt)).cell (i:=m+1) hil;rw [if_pos rfl] at r7;change wpAny _ _ _ _ _ _ (Act.put _ (some 59) _) _
           refine zqP 9 60 (.bool true) rfl rfl true ?_;refine zqM 10 61 (.bool true) rfl ?_;refine zqM 11 62 (.slice (some ⟨b,0,none⟩) (s.size+1) (s.size+1)) rfl ?_;refine zqM 12 63 (.int .i64 ((m:Int)+1)) rfl ?_;refine zqB 13 64 (.int .i64 m) rfl rfl (.int .i64 ((m:Int)+1)) (.int .i64 1) ?_ (hr:=hB.o);refine zqI 14 65 (.pointer (some ⟨b,m,none⟩)) rfl rfl (.slice (some ⟨b,0,none⟩) (s.size+1) (s.size+1)) (.int .i64 m) ?_ (hr:=hU.o);simp only [Act.put,zZ,zY,zX];refine zqV 15 66 (.bool false) rfl rfl (.pointer (some ⟨b,m,none⟩)) yU ?_;refine zqM 16 67 (.bool false) rfl ?_;refine zqF 17 68 (.pointer (some ⟨q,33,none⟩)) rfl rfl (.pointer (some ⟨q,0,none⟩)) ?_;simp only [Act.put,zZ,zY,zX];refine zqV 18 69 (.bool false) rfl rfl (.pointer (some ⟨q,33,none⟩)) yU ?_;refine zqM 19 70 (.bool false) rfl ?_;refine zqS 20 71 rfl ?_;refine zqS 21 72 rfl ?_;refine zqS 22 73 rfl ?_;refine zqS 23 74 rfl ?_;refine zqS 24 75 rfl ?_;refine zqP 25 76 (.bool false) rfl rfl false ?_;refine zqP 26 77 (.bool false) rfl rfl false ?_;refine zqP 27 78 (.bool false) rfl rfl true ?_;refine wpAny_done yZ ?_ _;simp only [Act.put,zZ,zY,zX];go_wp2_with fail
           have hA:=zW (ha.o.of_block (hb7.block _ ha.o.lt));have hy:=zW (hc.o.of_block (hb7.block _ hc.o.lt));have hv:=zW (ho.o.keep (hb7.block _ ht));have hw:=zW (hq.o.trans (hb7.mono hq.o.size));have hg:yK (w7.rowIs N 4 (s.size+1) (fun j=>.bool (if j < m+1+1 then Q0g x s g j else false))):=hA.o.congr fun j hj=>by
            by_cases h:j=m+1
            ·rw [if_pos h,if_pos yY,h,hn.o]
            ·rw [if_neg h];by_cases h2:j < m+1
             ·rw [if_pos h2,if_pos yY]
             ·rw [if_neg h2,if_neg yY]
           go_roundg (s.size+1 - (m+1+1))
           case measure=>omega
           case rel=>exact ⟨m+1+1,yY,by go_num,hg.o,hy.o,hv.o,hw.o,yQ⟩
     ·obtain rfl:i=s.size+1:=yY;have Hh:¬ (((s.size+1:Nat)):Int) < (s.size:Int)+1:=yY;have hg:yK (wr.rowIs N 4 (s.size+1) (fun j=>.bool (Q0g x s g j))):=HR.o.congr fun j hj=>by rw [if_pos hj]
      go_wp2_with fail
      go_roundg (l.length - (k+1))
      case measure=>omega
      case rel=>exact ⟨k+1,N,Q0g x s g,rfl,by go_num,yY,yY,hg.o,hY.o,HB.o,yQ⟩
   ·have hP:¬ (k:Int) < (l.length:Int):=yY;have HE:yK (g=R):=by
     have h:=HX.o;rw [List.drop_eq_nil_of_le yY] at h;exact h
    go_wp2_with fail
    go_ret
    rw [HE.o] at HG;exact ⟨b,rfl,Hd,HG.o,HB.o⟩
def RowA (w:World) (g n:Nat) (q:Nat→At):Prop:=g < w.heap.size∧∀ t,t < n→w.rangeAt g (t * 34) (atC (q t))∧w.there g (t * 34) 34
theorem RowA.congr {w:World} {g n:Nat} {q r:Nat→At} (h:RowA w g n q) (e:∀ t,t < n→q t=r t):RowA w g n r:=
 ⟨h.1,fun t ht=>by rw [←e t ht];exact h.2 t ht⟩
theorem RowA.drew {w:World} {g n:Nat} {q:Nat→At} (h:RowA w g n q):RowA w.drew g n q:=h
theorem Q8j (g:Nat):∀ (vs:List Value) (o:Nat) (w:World),(w.setCells g o vs).heap.size=w.heap.size
 | [],_,_=>rfl
 | v::r,o,w=>by rw [World.setCells,Q8j g r];simp [World.setCell]
theorem Q1s {B:Nat} {a:World} {g:Nat} (hg:B≤g):∀ (vs:List Value) (o:Nat) (w:World),Below B a w→Below B a (w.setCells g o vs)
 | [],_,_,h=>h
 | v::r,o,w,h=>by rw [World.setCells];exact Q1s hg r _ _ (h.setCell (p:=⟨g,o,none⟩) hg v)
theorem RowA.set {w:World} {g n:Nat} {q:Nat→At} (h:RowA w g n q) (i:Nat) (hi:i < n) (x:At):RowA (w.setCells g (i * 34) (atC x)) g n (fun t=>if t=i then x else q t):=
 ⟨by rw [Q8j];exact h.1,fun t ht=>by
   refine ⟨?_,World.there_setCells (h.2 t ht).2 _ _ _⟩;by_cases hti:t=i
   ·subst hti;show (w.setCells g (t * 34) (atC x)).rangeAt g (t * 34) (atC (if t=t then x else q t));rw [if_pos rfl];exact World.rangeAt_setCells_same w g (t * 34) (atC x) (by rw [E3];exact (h.2 t ht).2)
   ·show (w.setCells g (i * 34) (atC x)).rangeAt g (t * 34) (atC (if t=i then x else q t));rw [if_neg hti];refine World.rangeAt_setCells_apart (h.2 t ht).1 _ _ _ (.inr ?_);rw [E3,E3];omega⟩
def Y3k (l:List At) (t:Nat):At:=l.getD t ⟨noP,0,false⟩
theorem Y3l (l:List At) (t:Nat) (h:t < l.length):l[t]? =some (Y3k l t):=by
 unfold Y3k;rw [List.getD_eq_getElem?_getD,List.getElem?_eq_getElem h];rfl
theorem RowA.of {w:World} {B g cap:Nat} {l:List At} (h:OwnE 107 atC 34 w B (.slice (some ⟨g,0,none⟩) l.length cap) l):RowA w g l.length (Y3k l)∧B≤g:=by
 obtain ⟨h0,h1 | ⟨g',cap',cur,hv,hd,hg,hn,hm,hs,ht⟩⟩:=h
 ·exact absurd h1.1 yW
 injection hv with e1 _ _;injection e1 with e1;injection e1 with e1 _ _;subst e1;refine ⟨⟨(Array.getElem?_eq_some_iff.1 hg).1,fun t hc=>?_⟩,hd⟩;have he:∀ j,j < 34→t * 34+j < l.length * 34:=fun j hj=>by
  have:(t+1) * 34≤l.length * 34:=Nat.mul_le_mul_right _ hc;omega
 have ha:∀ j,j < 34→w.cell? ⟨g,t * 34+j,none⟩=(atC (Y3k l t))[j]? :=fun j hj=>by
  rw [cell_of_row _ _ _ _ _ _ hg];have h2:=Q1y atC 34 E3 l t j (Y3k l t) (Y3l l t hc) hj;rw [←h2,←ht,List.getElem?_take_of_lt (he j hj)];simp
 refine ⟨fun j v hj=>?_,fun j hj=>⟨?_,frozen_of_row _ _ _ _ _ hg⟩⟩
 ·have hb:j < 34:=(by rw [←E3 (Y3k l t)];exact (List.getElem?_eq_some_iff.1 hj).1);rw [ha j hb,hj]
 ·rw [ha j hj,List.getElem?_eq_getElem (by rw [E3];exact hj)];rfl
theorem RowA.rd {w:World} {g n c:Nat} {q:Nat→At} (h:RowA w g n q) (l:List At) (hl:l.length=n) (hc:n≤c) (hq:∀ t x,l[t]? =some x→q t=x):RdE atC 34 w (.slice (some ⟨g,0,none⟩) n c) l:=by
 subst hl;refine ⟨some ⟨g,0,none⟩,c,rfl,hc,(fun e=>by cases e),fun _=>⟨g,0,rfl,h.1,fun i x j u hi hj=>?_⟩⟩;have ha:=(List.getElem?_eq_some_iff.1 hi).1;have:=(h.2 i ha).1 j u (by rw [hq i x hi];exact hj);rw [Nat.zero_add];exact this
def X4c (n i:Nat) (L:Nat→At) (t:Nat):At:=if t < i∨n≤t+i then L (n - 1 - t) else L t
theorem Z5m (n:Nat) (L:Nat→At):∀ t,t < n→L t=X4c n 0 L t:=fun t ht=>by
 unfold X4c;rw [if_neg yY]
theorem Z5l (n i j:Nat) (L:Nat→At) (hj:j+i+1=n) (hij:i < j):∀ t,t < n→
 (if t=j then X4c n i L i else if t=i then X4c n i L j else X4c n i L t)=X4c n (i+1) L t:=fun t ht=>by
 unfold X4c;by_cases h1:t=j
 ·rw [if_pos h1,if_neg (show ¬ (i < i∨n≤i+i) by omega),if_pos (show t < i+1∨n≤t+(i+1) by omega)];congr 1;omega
 ·rw [if_neg h1];by_cases h2:t=i
  ·rw [if_pos h2,if_neg (show ¬ (j < i∨n≤j+i) by omega),if_pos (show t < i+1∨n≤t+(i+1) by omega)];congr 1;omega
  ·rw [if_neg h2];by_cases h3:t < i∨n≤t+i
   ·rw [if_pos h3,if_pos (show t < i+1∨n≤t+(i+1) by omega)]
   ·rw [if_neg h3,if_neg (show ¬ (t < i+1∨n≤t+(i+1)) by omega)]
theorem Z9z (n i:Nat) (L:Nat→At) (h1:n≤2 * i+1):∀ t,t < n→X4c n i L t=L (n - 1 - t):=fun t ht=>by
 unfold X4c;by_cases h3:t < i∨n≤t+i
 ·rw [if_pos h3]
 ·rw [if_neg h3];congr 1;omega
theorem V8e (l:List At) (t:Nat) (x:At) (h:l.reverse[t]? =some x):Y3k l (l.length - 1 - t)=x:=by
 have ht:t < l.length:=(by simpa using (List.getElem?_eq_some_iff.1 h).1);rw [List.getElem?_reverse ht,Y3l l (l.length - 1 - t) yY] at h;exact Option.some.inj h
def V6k (w:World) (B:Nat) (l:List At) (e:Ending) (w':World):Prop:=∃ v,e=.returned v∧RdE atC 34 w' v l∧Below B w w'
def Z1g (w:World) (l:List At) (e:Ending) (w':World):Prop:=∃ v,e=.returned v∧OwnE 107 atC 34 w' w.heap.size v l∧Below w.heap.size w w'
theorem Z4d (l:List At) (v:Value) (w:World) (hp:RdE atC 34 w v l) (hl:l.length≤140737488355):
 Calls Tryz.prog 153 #[v] w (Z1g w l):=by
 obtain ⟨R,ha⟩:∃ R,yK (R=Z1g w l):=⟨_,rfl⟩;rw [←ha.o];have q22:∀ (w:World) (a:Option Addr) (n c n' c':Nat),(binOp .eql 108 (.slice a n c) (.slice none n' c')).run Tryz.prog w=.ok (.bool a.isNone) w:=fun w a n c n' c'=>Lib.run_eql_slice_nil w _ _ a n c n' c' Tryz.underlying108;obtain ⟨A,c,rfl,hc,hn⟩:=hp.shape;have HP:=zW hp;clear hp;rcases A with _ | ad
 ·have hb:=hn rfl;obtain rfl:l=[]:=List.eq_nil_of_length_eq_zero yY;obtain rfl:c=0:=hb;clear hn;go_enter Tryz.func153,Tryz.ntmps153
  go_wp2_with fail
  rw [ha.o];exact ⟨_,rfl,OwnE.nil,Below.refl _ _⟩
 ·clear hn;have HO:yK (OwnE 107 atC 34 (w.alloc (.cells #[] 107)) w.heap.size (.slice (some ⟨w.heap.size,0,none⟩) 0 0) []):=World.ownsRow_made (base:=w.heap.size) (e:=107) (size:=34) w #[] 0 yQ yX rfl;have HQ:=zW (HP.o.alloc (.cells #[] 107));go_enter Tryz.func153,Tryz.ntmps153
  go_wp2_with (refine V1 rfl (.tmp 5) (.tmp 6) 108 107 rfl Tryz.underlying108 _ atC 34 48 X8v rfl yX E3 V2q w.heap.size (.slice (some ⟨w.heap.size,0,none⟩) 0 0) [] rfl HO.o _ l rfl HQ.o (by simp only [List.length_nil];omega) yX yW ?_;intro v1 w1 hown1 hbel1 hgrow1)
  rw [ha.o];exact ⟨v1,rfl,hown1,hbel1 w.heap.size w yQ ((Below.refl _ w).alloc yQ _)⟩
theorem V1z (B g c n:Nat) (L:Nat→At) (w:World) (hr:RowA w g n L) (hB:B≤g) (hn:n≤140737488355):
 Calls Tryz.prog 154 #[.slice (some ⟨g,0,none⟩) n c] w fun e w'=>e=.returned (.tuple #[])∧RowA w' g n (fun t=>L (n - 1 - t))∧Below B w w':=by
 have hu:=Tryz.underlying107;have hi:(Tryz.prog.info? 107).map (·.size)=some 34:=Q3g;have hh:=zW (hr.congr (Z5m n L));have hf:=zW (Below.refl B w);clear hr;go_enter Tryz.func154,Tryz.ntmps154
 go_wp2_with fail
 obtain ⟨wo,HW⟩:∃ wo:World,yK (wo=w):=⟨w,rfl⟩;go_loopg [2,3] (n+1) (fun m iv jv wr=>∃ i:Nat,iv=.int .i64 i∧jv=.int .i64 ((n:Int) - 1 - i)∧2 * i≤n∧yK (RowA wr g n (X4c n i L))∧yK (Below B w wr)∧n - i≤m)
 case atStart=>exact ⟨0,rfl,by simp,yY,hh.o,hf.o,yY⟩
 case round=>
  clear hh hf;obtain ⟨i,rfl,rfl,hs,HR,HB,hm⟩:=hrel;by_cases hlt:2 * i+1 < n
  ·have ha:(i:Int) < (n:Int) - 1 - (i:Int):=yY;obtain ⟨j,hj⟩:∃ j,j+i+1=n:=⟨n - 1 - i,yY⟩;have hq:i < j:=yY;have ht:(i:Int) < (n:Int):=yY;have hw:(j:Int) < (n:Int):=yY;obtain ⟨k,hk⟩:∃ k:Int,k=(n:Int) - 1 - (i:Int):=⟨_,rfl⟩;rw [←hk] at ha ⊢;obtain rfl:k=(j:Int):=yY;clear hk;have hv:(i:Int) < (j:Int):=yY;obtain ⟨q,HQ⟩:∃ q,yK (q=X4c n i L):=⟨_,rfl⟩;have hp:yK (∀ t,t < n→(if t=j then q i else if t=i then q j else q t)=X4c n (i+1) L t):=by
    show _;rw [HQ.o];exact Z5l n i j L hj hq
   rw [←HQ.o] at HR;clear HQ ha;have S1:yK (wr.drew.there g (i * 34) (atC (q j)).length):=(by show World.there _ _ _ _;rw [E3];exact (HR.o.drew.2 i yY).2);have hl:=zW (HR.o.drew.set i yY (q j));have S2:yK ((wr.drew.setCells g (i * 34) (atC (q j))).there g (j * 34) (atC (q i)).length):=(by show World.there _ _ _ _;rw [E3];exact (hl.o.2 j yY).2);have ho:=zW ((hl.o.set j yY (q i)).congr hp.o);have hg:=zW (Q1s hB (atC (q i)) (j * 34) _ (Q1s hB (atC (q j)) (i * 34) _ HB.o.drew));have hb:(Tryz.prog.info? 107).map (·.size)=some (atC (q j)).length:=(by rw [hi,E3]);have hc:(Tryz.prog.info? 107).map (·.size)=some (atC (q i)).length:=(by rw [hi,E3]);have hd:yK (∀ w,(Instr.indexAt 108 (.slice (some ⟨g,0,none⟩) n c) (.int .i64 i)).run Tryz.prog w=.ok (.pointer (some ⟨g,i * 34,none⟩)) w):=fun w=>by go_simp
   have he:yK (∀ w,(Instr.indexAt 108 (.slice (some ⟨g,0,none⟩) n c) (.int .i64 j)).run Tryz.prog w=.ok (.pointer (some ⟨g,j * 34,none⟩)) w):=fun w=>by go_simp
   go_wp2_with fail
   refine zqR (l0:=#[false,false,false,false,false,false,false,false,false,false,false,false,false,false,false,false]) 16 rfl ?_;refine zqM 0 14 (.slice (some ⟨g,0,none⟩) n c) rfl ?_;refine zqM 1 15 (.int .i64 i) rfl ?_;refine zqM 2 16 (.slice (some ⟨g,0,none⟩) n c) rfl ?_;refine zqM 3 17 (.int .i64 j) rfl ?_;refine zqM 4 18 (.slice (some ⟨g,0,none⟩) n c) rfl ?_;refine zqM 5 19 (.int .i64 j) rfl ?_;refine zqI 6 20 (.pointer (some ⟨g,j * 34,none⟩)) rfl rfl (.slice (some ⟨g,0,none⟩) n c) (.int .i64 j) ?_ (hr:=he.o);refine zqM 8 22 (.slice (some ⟨g,0,none⟩) n c) rfl ?_;refine zqM 9 23 (.int .i64 i) rfl ?_;refine zqI 10 24 (.pointer (some ⟨g,i * 34,none⟩)) rfl rfl (.slice (some ⟨g,0,none⟩) n c) (.int .i64 i) ?_ (hr:=hd.o);refine Y7u 7 11 (some 21) (some 25) yZ rfl rfl rfl rfl yZ yZ 107 (.tmp 20) rfl (g) (j * 34) yZ (atC (q j)) _ ((HR.o.drew.2 j yY).1) hu rfl (by rw [hi,E3]) 107 (.tmp 24) rfl (g) (i * 34) yZ (atC (q i)) _ ((HR.o.drew.2 i yY).1) hu rfl (by rw [hi,E3]) ?_ ?_
   ·simp only [Act.put,zZ,zY,zX];refine X8d 11 (some 25) yZ rfl rfl yZ 107 (.tmp 24) rfl (g) (i * 34) yZ (atC (q i)) _ ((HR.o.drew.2 i yY).1) hu rfl (by rw [hi,E3]) ?_;refine zqI 12 26 (.pointer (some ⟨g,i * 34,none⟩)) rfl rfl (.slice (some ⟨g,0,none⟩) n c) (.int .i64 i) ?_ (hr:=hd.o);refine Q3a 13 yZ rfl rfl yZ 107 (.tmp 26) (.tmp 21) rfl (g) (i * 34) (atC (q j)) yZ yZ (S1.o) (hb) (Q3f _) ?_;refine zqI 14 27 (.pointer (some ⟨g,j * 34,none⟩)) rfl rfl (.slice (some ⟨g,0,none⟩) n c) (.int .i64 j) ?_ (hr:=he.o);refine Q3a 15 yZ rfl rfl yZ 107 (.tmp 27) (.tmp 25) rfl (g) (j * 34) (atC (q i)) yZ yZ (S2.o) (hc) (Q3f _) ?_;refine wpAny_done yZ ?_ _;simp only [Act.put,zZ,zY,zX];go_wp2_with fail
    go_roundg (n - (i+1))
    case measure=>omega
    case rel=>exact ⟨i+1,by go_num,by (show Value.int .i64 _=Value.int .i64 _);congr 1;omega,yY,ho.o,hg.o,yQ⟩
   ·simp only [Act.put,zZ,zY,zX];refine X8d 7 (some 21) yZ rfl rfl yZ 107 (.tmp 20) rfl (g) (j * 34) yZ (atC (q j)) _ ((HR.o.drew.2 j yY).1) hu rfl (by rw [hi,E3]) ?_;refine zqI 12 26 (.pointer (some ⟨g,i * 34,none⟩)) rfl rfl (.slice (some ⟨g,0,none⟩) n c) (.int .i64 i) ?_ (hr:=hd.o);refine Q3a 13 yZ rfl rfl yZ 107 (.tmp 26) (.tmp 21) rfl (g) (i * 34) (atC (q j)) yZ yZ (S1.o) (hb) (Q3f _) ?_;refine zqI 14 27 (.pointer (some ⟨g,j * 34,none⟩)) rfl rfl (.slice (some ⟨g,0,none⟩) n c) (.int .i64 j) ?_ (hr:=he.o);refine Q3a 15 yZ rfl rfl yZ 107 (.tmp 27) (.tmp 25) rfl (g) (j * 34) (atC (q i)) yZ yZ (S2.o) (hc) (Q3f _) ?_;refine wpAny_done yZ ?_ _;simp only [Act.put,zZ,zY,zX];go_wp2_with fail
    go_roundg (n - (i+1))
    case measure=>omega
    case rel=>exact ⟨i+1,by go_num,by (show Value.int .i64 _=Value.int .i64 _);congr 1;omega,yY,ho.o,hg.o,yQ⟩
  ·have ha:¬ (i:Int) < (n:Int) - 1 - (i:Int):=yY;have HE:=zW (HR.o.congr (Z9z n i L yY));go_wp2_with fail
   go_end0
   exact ⟨rfl,HE.o,HB.o⟩
theorem V2a (a:Option Addr) (c:Nat) (w:World):
 Calls Tryz.prog 154 #[.slice a 0 c] w fun e w'=>e=.returned (.tuple #[])∧w=w':=by
 go_enter Tryz.func154,Tryz.ntmps154
 go_wp2_with fail
 go_loopg [2,3] 0 (fun _ s2 s3 wr=>s2=.int .i64 0∧s3=.int .i64 (-1)∧w=wr)
 case atStart=>exact ⟨rfl,rfl,rfl⟩
 case round=>
  obtain ⟨rfl,rfl,rfl⟩:=hrel;go_wp2_with fail
  go_end0
  exact ⟨rfl,rfl⟩
theorem V1b (l:List At) (v:Value) (w:World) (hp:RdE atC 34 w v l) (hl:l.length≤140737488355):
 Calls Tryz.prog 103 #[v] w (V6k w w.heap.size l.reverse):=by
 obtain ⟨R,ha⟩:∃ R,yK (R=V6k w w.heap.size l.reverse):=⟨_,rfl⟩;rw [←ha.o];have HC:=zW (Z4d l v w hp hl);clear hp;go_enter Tryz.func103,Tryz.ntmps103
 go_upto_region 2 with (go_at_call 153;refine HC.o.mono ?_;rintro e w1 ⟨v1,rfl,hown,hb1⟩)
 have hd:=zW hb1;rcases hown.2 with ⟨rfl,h0⟩ | ⟨g,cap,cur,rfl,hbg,hh,hc,hcm,hs,htk⟩
 ·obtain rfl:l=[]:=List.eq_nil_of_length_eq_zero h0;clear hown hb1 HC;go_wp2_with (go_at_call 154;refine (V2a _ _ _).mono ?_;rintro e w' ⟨rfl,rfl⟩)
  rw [ha.o];exact ⟨_,rfl,RdE.nil,hd.o⟩
 ·have hb:=RowA.of hown;have HT:=zW (V1z g g cap l.length (Y3k l) w1 hb.1 yQ hl);have he:=hb.2;clear hb hown hh htk hs hcm hb1 HC;go_wp2_with (go_at_call 154;refine HT.o.mono ?_;rintro e w2 ⟨rfl,hr2,hb2⟩)
  rw [ha.o];refine ⟨_,rfl,hr2.rd l.reverse yW hc (fun t x h=>V8e l t x h),hd.o.trans (hb2.mono he)⟩
structure Sl where
 A:Option Addr
 n:Nat
 c:Nat
def Sl.v (x:Sl):Value:=.slice x.A x.n x.c
structure RuV where
 b:Bool
 u:Sl
 t:Sl
def ruC (x:RuV):List Value:=[.bool x.b,x.u.v,x.t.v]
theorem V5o (x:RuV):(ruC x).length=3:=rfl
theorem V5p (x:RuV):∀ v∈ruC x,v.oneCell'=true:=by
 intro v hv;simp [ruC,Sl.v] at hv;rcases hv with rfl | rfl | rfl<;>rfl
def RdRu (w:World) (v:Value) (l:List Ru):Prop:=∃ xs:List RuV,RdE ruC 3 w v xs∧xs.length=l.length∧∀ (i:Nat) (x:RuV) (r:Ru),xs[i]? =some x→l[i]? =some r→x.b=r.br∧RdE atC 34 w x.u.v r.bf∧RdE atC 34 w x.t.v r.af
theorem RdRu.below {w w':World} {B:Nat} {v:Value} {l:List Ru} (h:RdRu w v l) (hb:Below B w w') (hB:w.heap.size≤B):RdRu w' v l:=by
 obtain ⟨xs,h1,h2,h3⟩:=h;exact ⟨xs,h1.below hb hB,h2,fun i x r hx hr=>⟨(h3 i x r hx hr).1,(h3 i x r hx hr).2.1.below hb hB,(h3 i x r hx hr).2.2.below hb hB⟩⟩
theorem V1h (x:RuV):(ruC x).toArray.all (·.oneCell')=true:=by
 rw [Array.all_eq_true_iff_forall_mem];intro v hv;exact V5p x v (List.mem_toArray.1 hv)
theorem X2g:(Tryz.prog.info? 3).map (fun i=>(i.zero,i.size,i.bytes))=some (some (.int .i64 0),1,8):=by kernel_rfl
theorem X2f (x:Int):∀ u∈V6 x,u.oneCell'=true:=by
 intro u hu;simp [V6] at hu;subst hu;rfl
theorem Q3n {w:World} {b o:Nat} {A:Option Addr} {n c:Nat} (h:w.cell? ⟨b,o,none⟩=some (.slice A n c)):(Instr.loadAt 108 (.pointer (some ⟨b,o,none⟩))).run Tryz.prog w=.ok (.slice A n c) w:=by
 go_simp
theorem Q4b {w:World} {g n i:Nat} {t:TypeId} {P Q:Nat→Bool} (h:w.rowIs g t n (fun j=>.bool (if j < i then P j else Q j))) (e:P i=Q i):w.rowIs g t n (fun j=>.bool (if j < i+1 then P j else Q j)):=h.congr fun j _=>by
 by_cases h:j=i
 ·rw [if_neg yY,if_pos yY,h,e]
 ·by_cases h2:j < i
  ·rw [if_pos h2,if_pos yY]
  ·rw [if_neg h2,if_neg yY]
theorem Z3e {w:World} {g n i:Nat} {t:TypeId} {P Q:Nat→Bool} (h:w.rowIs g t n (fun j=>.bool (if j < i then P j else Q j))) (b:Bool) (e:P i=b):(w.setCell ⟨g,i,none⟩ (.bool b)).rowIs g t n (fun j=>.bool (if j < i+1 then P j else Q j)):=(h.set i (.bool b)).congr fun j _=>by
 by_cases h:j=i
 ·rw [if_pos h,if_pos yY,h,e]
 ·rw [if_neg h];by_cases h2:j < i
  ·rw [if_pos h2,if_pos yY]
  ·rw [if_neg h2,if_neg yY]
def Z7k (rs:List Ru):Prop:=rs.length≤1000000∧∀ r∈rs,(r.bf.length≤1000000∧r.af.length≤1000000)∧(∀ x∈r.bf,1≤x.mn∧x.many=false)∧∀ x∈r.af,1≤x.mn∧x.many=false
theorem Y3p (rs:List Ru) (v:Value) (s:ByteArray) (w:World) (ht:RdRu w v rs) (hsm:Z7k rs):
 Calls Tryz.prog 59 #[v,.string s] w (F7 3 V6 1 w (M6 rs s)):=by
 have hl:=hsm.1;have HY:=fun r hr=>(hsm.2 r hr).1;have hZ:=zW (fun r hr=>(hsm.2 r hr).2);clear hsm;obtain ⟨R,Ha⟩:∃ R,yK (R=F7 3 V6 1 w (M6 rs s)):=⟨_,rfl⟩;rw [←Ha.o];obtain ⟨xs,Hl,Hn,hx⟩:=ht;have iC:xs.length≤rs.length:=Nat.le_of_eq Hn;have io:rs.length≤xs.length:=Nat.le_of_eq Hn.symm;clear Hn;obtain ⟨Av,cv,rfl,ix,_⟩:=Hl.shape;by_cases h24:1024 < s.size
 ·have Hf:(1024:Int) < (s.size:Int):=yY;have e0:M6 rs s=[]:=(by unfold M6;rw [if_pos h24]);go_enter Tryz.func59,Tryz.ntmps59
  go_wp2_with fail
  rw [Ha.o,e0];exact ⟨_,rfl,OwnE.nil,Below.refl _ _⟩
 have Hf:¬ (1024:Int) < (s.size:Int):=yY;have HX:=zW Hl;have HP:=zW hx;clear Hl hx;have hu:=Tryz.underlying110;have hi:(Tryz.prog.info? 110).map (·.size)=some 3:=yZ;have ij:=fun w=>run_make_row' (P:=Tryz.prog) 134 4 (.bool false) 1 Tryz.underlying134 Q6u rfl .i64 .i64 (s.size+1) yY yY w;rw [show ((s.size+1:Nat):Int)=(s.size:Int)+1 by omega] at ij;have Hb:=zW (Y2p s w yY);have hq:(rvS s s.size).size=s.size:=V5r s;have Hp:yK (∀ j,j < s.size→bt (rvS s s.size) j=bt s (s.size - 1 - j)):=V9q s;generalize rvS s s.size=bk at Hb hq Hp;go_enter Tryz.func59,Tryz.ntmps59
 go_upto_region 4 with (go_at_call 101;refine Hb.o.mono ?_;rintro e w1 ⟨rfl,hb1⟩)
 have hK:=zW hb1;have hs:yK ((w1.alloc (.cells (madeCells #[.bool false] (s.size+1)) 4)).rowIs w1.heap.size 4 (s.size+1) (fun j=>.bool (false))):=World.rowIs_made w1 (.bool false) (s.size+1) 4;have hf:=zW (hK.o.alloc hK.o.size (.cells (madeCells #[.bool false] (s.size+1)) 4));clear hb1 Hb;go_upto_region 5 with fail
 have ip:=hK.o.size;generalize w1.heap.size=D at hs ip ⊢;generalize w1.alloc (.cells (madeCells #[.bool false] (s.size+1)) 4)=w2 at hs hf ⊢;have hL:yK ((w2.alloc (.cells (madeCells #[.bool false] (s.size+1)) 4)).rowIs w2.heap.size 4 (s.size+1) (fun j=>.bool (false))):=World.rowIs_made w2 (.bool false) (s.size+1) 4;have hS:=zW (hf.o.alloc hf.o.size (.cells (madeCells #[.bool false] (s.size+1)) 4));have hT:=zW (hs.o.of_block (w':=w2.alloc (.cells (madeCells #[.bool false] (s.size+1)) 4)) (Below.heap_alloc w2 _ D hs.o.lt));have HS:D < w2.heap.size:=hs.o.lt;go_upto_region 6 with fail
 clear hs hf hK;generalize w2.heap.size=K at hL HS ⊢;generalize w2.alloc (.cells (madeCells #[.bool false] (s.size+1)) 4)=w3 at hL hT hS ⊢;go_wp2_with fail
 obtain ⟨wo,HN⟩:∃ wo,yK (wo=w3):=⟨w3,rfl⟩;go_loopg [31] xs.length (fun gk kv wr=>∃ k:Nat,kv=.int .i64 k∧k≤xs.length∧yK (wr.rowIs D 4 (s.size+1) (fun j=>.bool (decide (0 < j∧j < s.size) && D8 (rs.take k) s j)))∧yK (wr.rowIs K 4 (s.size+1) (fun j=>.bool (decide (0 < j∧j < s.size) && U5 (rs.take k) s j)))∧yK (Below w.heap.size w wr)∧xs.length - k≤gk)
 case atStart=>exact ⟨0,rfl,yY,hT.o.congr (fun j _=>by rw [List.take_zero];show _=Value.bool (_ && false);rw [Bool.and_false]),hL.o.congr (fun j _=>by rw [List.take_zero];show _=Value.bool (_ && false);rw [Bool.and_false]),hS.o,yY⟩
 case round=>
  clear hT hL hS HN;obtain ⟨k,rfl,hk,HD,HK,HB,hgk⟩:=hrel;by_cases hkl:k < xs.length
  ·have ih:(k:Int) < (xs.length:Int):=yY;have ig:(0:Int)≤(k:Int):=yY;obtain ⟨bp,o,rfl,Hx,hg⟩:=HX.o.cells yY;have Hm:xs[k]? =some xs[k]:=List.getElem?_eq_getElem hkl;have Hy:rs[k]? =some (rs[k]'yY):=List.getElem?_eq_getElem yY;have Hk:wr.rangeAt bp (o+k * 3) (ruC xs[k]):=fun j v hj=>by
    rw [Nat.add_assoc];exact (HB.o.cell (p:=⟨bp,o+(k * 3+j),none⟩) Hx).trans (hg k _ j v Hm hj)
   obtain ⟨Hi,Hw,Hv⟩:=HP.o k _ _ Hm Hy;have Hc:yK (rs.take (k+1)=rs.take k++[rs[k]'yY]):=List.take_succ_eq_append_getElem yY;have Hz:(rs[k]'yY).bf.length≤140737488355328∧(rs[k]'yY).af.length≤140737488355:=(by have:=HY _ (List.getElem_mem (show k < rs.length by omega));omega);have hO:=zW (hZ.o _ (List.getElem_mem (show k < rs.length by omega)));have hQ:=zW (Hw.below HB.o yQ);have hP:=zW (Hv.below HB.o yQ);clear hg Hm Hy Hw Hv;generalize xs[k]=y at Hk Hi hQ hP;generalize rs[k]'yY=r at Hi hQ hP Hc Hz hO;obtain ⟨yb,⟨uA,un,uc⟩,⟨tA,tn,tc⟩⟩:=y;obtain rfl:yb=r.br:=Hi;have hz:=HB.o.size;have HC:=HB.o.size;have il:bp < wr.heap.size:=Nat.lt_of_lt_of_le Hx HC;have HQ:yK (((wr.alloc (.cells #[.bool false,.slice none 0 0,.slice none 0 0] 110)).setRow wr.heap.size (ruC ⟨r.br,⟨uA,un,uc⟩,⟨tA,tn,tc⟩⟩).toArray).heap[wr.heap.size]? =some (.cells (ruC ⟨r.br,⟨uA,un,uc⟩,⟨tA,tn,tc⟩⟩).toArray 110)):=setRow_heap _ _ _ _ _ _ (heap_alloc_new wr _);have hA:yK (Below w.heap.size w ((wr.alloc (.cells #[.bool false,.slice none 0 0,.slice none 0 0] 110)).setRow wr.heap.size (ruC ⟨r.br,⟨uA,un,uc⟩,⟨tA,tn,tc⟩⟩).toArray)):=below_setRow (HB.o.alloc hz _) hz _;have hH:yK (Below wr.heap.size wr ((wr.alloc (.cells #[.bool false,.slice none 0 0,.slice none 0 0] 110)).setRow wr.heap.size (ruC ⟨r.br,⟨uA,un,uc⟩,⟨tA,tn,tc⟩⟩).toArray)):=below_setRow ((Below.refl _ wr).alloc yQ _) yQ _;go_upto_region 9 with (first
    | (refine wpList_load_mid rfl 110 (.tmp 33) rfl bp (o+k * 3) rfl (ruC ⟨r.br,⟨uA,un,uc⟩,⟨tA,tn,tc⟩⟩) _ Hk hu rfl (by rw [hi];rfl) ?_)
    | (refine wpList_store_row rfl 110 (.tmp 9) (.tmp 34) rfl (wr.heap.size) (ruC ⟨r.br,⟨uA,un,uc⟩,⟨tA,tn,tc⟩⟩).toArray rfl rfl 110 _ (heap_alloc_new wr _) (by rw [hi];rfl) rfl (V1h _) ?_))
   have hD:=zW (HD.o.of_block (w':=(wr.alloc (.cells #[.bool false,.slice none 0 0,.slice none 0 0] 110)).setRow wr.heap.size (ruC ⟨r.br,⟨uA,un,uc⟩,⟨tA,tn,tc⟩⟩).toArray) (hH.o.block _ HD.o.lt));have hF:=zW (HK.o.of_block (w':=(wr.alloc (.cells #[.bool false,.slice none 0 0,.slice none 0 0] 110)).setRow wr.heap.size (ruC ⟨r.br,⟨uA,un,uc⟩,⟨tA,tn,tc⟩⟩).toArray) (hH.o.block _ HK.o.lt));have hw:=zW (hQ.o.below hH.o yQ);have hI:=zW (hP.o.below hH.o yQ);have HT:D < wr.heap.size:=HD.o.lt;have HV:K < wr.heap.size:=HK.o.lt;have hn:wr.heap.size < ((wr.alloc (.cells #[.bool false,.slice none 0 0,.slice none 0 0] 110)).setRow wr.heap.size (ruC ⟨r.br,⟨uA,un,uc⟩,⟨tA,tn,tc⟩⟩).toArray).heap.size:=(Array.getElem?_eq_some_iff.1 HQ.o).1;clear HD HK HB hH hQ hP Hk hz HC il;generalize wr.heap.size=q at HQ hA hD hF hw hI HT HV hn ⊢;generalize (wr.alloc (.cells #[.bool false,.slice none 0 0,.slice none 0 0] 110)).setRow q (ruC ⟨r.br,⟨uA,un,uc⟩,⟨tA,tn,tc⟩⟩).toArray=wr4 at HQ hA hD hF hw hI hn ⊢;change yK (RdE atC 34 wr4 (.slice uA un uc) r.bf) at hw
   change yK (RdE atC 34 wr4 (.slice tA tn tc) r.af) at hI
   have z0:wr4.cell? ⟨q,0,none⟩=some (.bool r.br):=(by rw [cell_of_row _ _ _ _ _ _ HQ.o];rfl);have z1:wr4.cell? ⟨q,1,none⟩=some (.slice uA un uc):=(by rw [cell_of_row _ _ _ _ _ _ HQ.o];rfl);have z2:wr4.cell? ⟨q,2,none⟩=some (.slice tA tn tc):=(by rw [cell_of_row _ _ _ _ _ _ HQ.o];rfl);have hY:yK (∀ W,Below wr4.heap.size wr4 W→(Instr.loadAt 108 (.pointer (some ⟨q,1,none⟩))).run Tryz.prog W=.ok (.slice uA un uc) W):=fun W h=>Q3n ((h.cell (p:=⟨q,1,none⟩) hn).trans z1);have hN:yK (∀ W,Below wr4.heap.size wr4 W→(Instr.loadAt 108 (.pointer (some ⟨q,2,none⟩))).run Tryz.prog W=.ok (.slice tA tn tc) W):=fun W h=>Q3n ((h.cell (p:=⟨q,2,none⟩) hn).trans z2);obtain ⟨hJ,Hh⟩:=Hz;refine zqR (l0:=bL 11 0) 11 kr ?_;show let o:=_;let q0:=_;let a0:=_;wpAny Tryz.prog _ o q0 _ _ a0 _
   intro o q0 a0;let a_:Act:=(((a0.put (some 35) (.pointer (some ⟨q,1,none⟩))).put (some 37) (.string s)).put (some 39) (.pointer (some ⟨q,2,none⟩))).put (some 42) (.string bk)
   let a_0:Act:=a_.put (some 36) (.slice uA un uc)
   let a_1:Act:=a_.put (some 40) (.slice tA tn tc)
   let a_02:Nat→Act:=fun g1=>a_0.put (some 38) (.slice (some ⟨g1,0,none⟩) (s.size+1) (s.size+1))
   let a_01:Act:=a_0.put (some 40) (.slice tA tn tc)
   let a_012:Nat→Act:=fun g1=>(a_02 g1).put (some 40) (.slice tA tn tc)
   let a_0123:Nat→Value→Act:=fun g1 v6=>(a_012 g1).put (some 41) (v6)
   let a_01234:Nat→Value→Nat→Act:=fun g1 v6 g2=>(((a_0123 g1 v6).put (some 43) (.slice (some ⟨g2,0,none⟩) (s.size+1) (s.size+1))).put (some 10) (.slice (some ⟨g1,0,none⟩) (s.size+1) (s.size+1))).put (some 11) (.slice (some ⟨g2,0,none⟩) (s.size+1) (s.size+1))
   have S01234:∀ (W:World) (g1:Nat) (v6:Value) (g2:Nat),Below wr4.heap.size wr4 W→wr4.heap.size≤g1→W.rowIs g1 4 (s.size+1) (fun j=>.bool (G7 s r.bf Q8b j))→wr4.heap.size≤g2→W.rowIs g2 4 (s.size+1) (fun j=>.bool (G7 bk r.af.reverse Q8b j))→wpAny Tryz.prog .any o q0 0 (bL 11 2047) (a_01234 g1 v6 g2) W:=by
    intro W g1 v6 g2 HB hg1 hr1 hg2 hr2;simp only [a_01234,a_0123,a_012,a_02,a_0,a_,a0,Act.put,zZ,zY,zX];refine wpAny_done yZ ?_ _;simp only [q0];have Hr:=zW hr1;have Hs:=zW hr2;have hC:=zW HB;have Hq:=zW (hD.o.of_block (hC.o.block _ hD.o.lt));have Ht:=zW (hF.o.of_block (hC.o.block _ hF.o.lt));have Ho:=zW (hA.o.trans (hC.o.mono hA.o.size));have z0w:=(hC.o.cell (p:=⟨q,0,none⟩) hn).trans z0;have HZ:q < g1:=Nat.lt_of_lt_of_le hn hg1;have ia:q < g2:=Nat.lt_of_lt_of_le hn hg2;clear hr1 hr2 HB hC z0 z1 z2 hY hN hD hF hA hw hI HQ hn;go_wp2_with fail
    obtain ⟨wo2,Hd⟩:∃ wo,yK (wo=W):=⟨W,rfl⟩;go_loopg [12] (s.size+1) (fun gk iv wr=>∃ i:Nat,iv=.int .i64 i∧1≤i∧i≤s.size+1∧yK (wr.rowIs D 4 (s.size+1) (fun j=>.bool (if j < i then decide (0 < j∧j < s.size) && D8 (rs.take (k+1)) s j else decide (0 < j∧j < s.size) && D8 (rs.take k) s j)))∧yK (wr.rowIs K 4 (s.size+1) (fun j=>.bool (if j < i then decide (0 < j∧j < s.size) && U5 (rs.take (k+1)) s j else decide (0 < j∧j < s.size) && U5 (rs.take k) s j)))∧yK (wr.rowIs g1 4 (s.size+1) (fun j=>.bool (G7 s r.bf Q8b j)))∧yK (wr.rowIs g2 4 (s.size+1) (fun j=>.bool (G7 bk r.af.reverse Q8b j)))∧wr.cell? ⟨q,0,none⟩=some (.bool r.br)∧yK (Below w.heap.size w wr)∧s.size+1 - i≤gk)
    case atStart=>exact ⟨1,rfl,yQ,yY,Hq.o.congr (fun j _=>by
     by_cases h:j < 1
     ·rw [if_pos h,show j=0 by omega];rfl
     ·rw [if_neg h]),Ht.o.congr (fun j _=>by
     by_cases h:j < 1
     ·rw [if_pos h,show j=0 by omega];rfl
     ·rw [if_neg h]),Hr.o,Hs.o,z0w,Ho.o,yY⟩
    case round=>
     clear Hq Ht Hr Hs z0w Ho Hd;obtain ⟨i,rfl,Hj,it,ho,hp,hd,he,z0i,hB,ic⟩:=hrel;by_cases hil:i < s.size
     ·have ie:(i:Int) < (s.size:Int):=yY;have ir:(0:Int)≤(i:Int):=yY;have iu:(i:Int) < (s.size:Int)+1:=yY;obtain ⟨t,ht⟩:∃ t,t+i=s.size:=⟨s.size - i,yY⟩;have im:(s.size:Int) - (i:Int)=(t:Int):=yY;have iA:(0:Int)≤(t:Int):=yY;have iB:(t:Int) < (s.size:Int)+1:=yY;have qd:=ho.o.cell (i:=i) yY;rw [if_neg (Nat.lt_irrefl i),decide_eq_true ⟨Hj,hil⟩,Bool.true_and] at qd;have qk:=hp.o.cell (i:=i) yY;have qb:=hd.o.cell (i:=i) yY;rw [Z8o r.bf s i yY] at qb;have qa:=he.o.cell (i:=t) yY;rw [show t=s.size - i by omega,Z8n r.af hq Hp.o i yY,show s.size - i=t by omega] at qa;have hh:D8 (rs.take (k+1)) s i=(D8 (rs.take k) s i || (Q2x r.bf (s.extract 0 i) && Q2u r.af (s.extract i s.size))):=(by rw [Hc.o,Y8r];rfl);have hm:U5 (rs.take (k+1)) s i=if D8 (rs.take k) s i=true then U5 (rs.take k) s i else ((Q2x r.bf (s.extract 0 i) && Q2u r.af (s.extract i s.size)) && r.br):=by rw [Hc.o,Y4c];rfl
      have hy:=X3l (rs.take k) s i;cases hfd:D8 (rs.take k) s i with
      | true=>
        rw [hfd] at qd;have ha:(decide (0 < i∧i < s.size) && D8 (rs.take (k+1)) s i)=(decide (0 < i∧i < s.size) && D8 (rs.take k) s i):=(by rw [hh,hfd];rfl);have hc:(decide (0 < i∧i < s.size) && U5 (rs.take (k+1)) s i)=(decide (0 < i∧i < s.size) && U5 (rs.take k) s i):=(by rw [hm,if_pos hfd]);clear hh hm hy;have hE:=zW (Q4b ho.o ha);have hG:=zW (Q4b hp.o hc);clear ha hc;go_wp2_with fail
        go_roundg (s.size+1 - (i+1))
        case measure=>omega
        case rel=>exact ⟨i+1,by go_num,yY,yY,hE.o,hG.o,hd.o,he.o,z0i,hB.o,yQ⟩
      | false=>
        rw [hfd] at qd;cases hsb:Q2x r.bf (s.extract 0 i) with
        | false=>
          rw [hsb] at qb;have ha:(decide (0 < i∧i < s.size) && D8 (rs.take (k+1)) s i)=(decide (0 < i∧i < s.size) && D8 (rs.take k) s i):=(by rw [hh,hfd,hsb];rfl);have hc:(decide (0 < i∧i < s.size) && U5 (rs.take (k+1)) s i)=(decide (0 < i∧i < s.size) && U5 (rs.take k) s i):=(by rw [hm,if_neg (by rw [hfd];exact Bool.false_ne_true),hsb,hy hfd];rfl);clear hh hm hy;have hE:=zW (Q4b ho.o ha);have hG:=zW (Q4b hp.o hc);clear ha hc;go_wp2_with fail
          go_roundg (s.size+1 - (i+1))
          case measure=>omega
          case rel=>exact ⟨i+1,by go_num,yY,yY,hE.o,hG.o,hd.o,he.o,z0i,hB.o,yQ⟩
        | true=>
          rw [hsb] at qb;cases hpa:Q2u r.af (s.extract i s.size) with
          | false=>
            rw [hpa] at qa;have ha:(decide (0 < i∧i < s.size) && D8 (rs.take (k+1)) s i)=(decide (0 < i∧i < s.size) && D8 (rs.take k) s i):=(by rw [hh,hfd,hsb,hpa];rfl);have hc:(decide (0 < i∧i < s.size) && U5 (rs.take (k+1)) s i)=(decide (0 < i∧i < s.size) && U5 (rs.take k) s i):=(by rw [hm,if_neg (by rw [hfd];exact Bool.false_ne_true),hsb,hpa,hy hfd];rfl);clear hh hm hy;have hE:=zW (Q4b ho.o ha);have hG:=zW (Q4b hp.o hc);clear ha hc;go_wp2_with fail
            go_roundg (s.size+1 - (i+1))
            case measure=>omega
            case rel=>exact ⟨i+1,by go_num,yY,yY,hE.o,hG.o,hd.o,he.o,z0i,hB.o,yQ⟩
          | true=>
            rw [hpa] at qa;have ha:D8 (rs.take (k+1)) s i=true:=(by rw [hh,hfd,hsb,hpa];rfl);have hc:U5 (rs.take (k+1)) s i=r.br:=(by rw [hm,if_neg (by rw [hfd];exact Bool.false_ne_true),hsb,hpa];rfl);clear hh hm hy;have fd:=ho.o.frozen i;have fk:=hp.o.frozen i;have iy:¬ D=K:=yY;have ik:¬ K=D:=yY;have HG:yK (((wr.drew.setCell ⟨D,i,none⟩ (.bool true)).setCell ⟨K,i,none⟩ (.bool r.br)).rowIs D 4 (s.size+1) (fun j=>.bool (if j < i+1 then decide (0 < j∧j < s.size) && D8 (rs.take (k+1)) s j else decide (0 < j∧j < s.size) && D8 (rs.take k) s j))):=(Z3e ho.o.drew true (by rw [ha,decide_eq_true ⟨Hj,hil⟩];rfl)).of_block (Below.heap_setCell _ _ _ _ (show D≠K by omega));have HI:yK (((wr.drew.setCell ⟨D,i,none⟩ (.bool true)).setCell ⟨K,i,none⟩ (.bool r.br)).rowIs K 4 (s.size+1) (fun j=>.bool (if j < i+1 then decide (0 < j∧j < s.size) && U5 (rs.take (k+1)) s j else decide (0 < j∧j < s.size) && U5 (rs.take k) s j))):=Z3e (hp.o.drew.of_block (Below.heap_setCell _ _ _ _ (show K≠D by omega))) r.br (by rw [hc,decide_eq_true ⟨Hj,hil⟩];rfl);have hU:yK (((wr.drew.setCell ⟨D,i,none⟩ (.bool true)).setCell ⟨K,i,none⟩ (.bool r.br)).rowIs g1 4 (s.size+1) (fun j=>.bool (G7 s r.bf Q8b j))):=(hd.o.drew.of_block (Below.heap_setCell _ _ _ _ (show g1≠D by omega))).of_block (Below.heap_setCell _ _ _ _ (show g1≠K by omega));have hV:yK (((wr.drew.setCell ⟨D,i,none⟩ (.bool true)).setCell ⟨K,i,none⟩ (.bool r.br)).rowIs g2 4 (s.size+1) (fun j=>.bool (G7 bk r.af.reverse Q8b j))):=(he.o.drew.of_block (Below.heap_setCell _ _ _ _ (show g2≠D by omega))).of_block (Below.heap_setCell _ _ _ _ (show g2≠K by omega));have HR:yK (((wr.drew.setCell ⟨D,i,none⟩ (.bool true)).setCell ⟨K,i,none⟩ (.bool r.br)).cell? ⟨q,0,none⟩=some (.bool r.br)):=by
             show _=_;rw [World.cell?_of_block (w:=wr.drew.setCell ⟨D,i,none⟩ (.bool true)) (Below.heap_setCell _ _ _ _ (show q≠K by omega)),World.cell?_of_block (w:=wr.drew) (Below.heap_setCell _ _ _ _ (show q≠D by omega))];exact z0i
            have HE:yK (Below w.heap.size w ((wr.drew.setCell ⟨D,i,none⟩ (.bool true)).setCell ⟨K,i,none⟩ (.bool r.br))):=(hB.o.drew.setCell (p:=⟨D,i,none⟩) (show w.heap.size≤D by omega) _).setCell (p:=⟨K,i,none⟩) (show w.heap.size≤K by omega) _;go_upto_region 14 with fail
            go_region
            go_wp2_with fail
            go_roundg (s.size+1 - (i+1))
            case measure=>omega
            case rel=>exact ⟨i+1,by go_num,yY,yY,HG.o,HI.o,hU.o,hV.o,HR.o,HE.o,yQ⟩
     ·have iq:s.size≤i:=yY;have ie:¬ (i:Int) < (s.size:Int):=yY;have HH:yK (wr.rowIs D 4 (s.size+1) (fun j=>.bool (decide (0 < j∧j < s.size) && D8 (rs.take (k+1)) s j))):=ho.o.congr fun j hj=>by
       by_cases h:j < i
       ·rw [if_pos h]
       ·rw [if_neg h,decide_eq_false yY];rfl
      have HL:yK (wr.rowIs K 4 (s.size+1) (fun j=>.bool (decide (0 < j∧j < s.size) && U5 (rs.take (k+1)) s j))):=hp.o.congr fun j hj=>by
       by_cases h:j < i
       ·rw [if_pos h]
       ·rw [if_neg h,decide_eq_false yY];rfl
      go_wp2_with fail
      go_roundg (xs.length - (k+1))
      case measure=>omega
      case rel=>exact ⟨k+1,by go_num,yY,HH.o,HL.o,hB.o,yQ⟩
   have S0123:∀ (W:World) (g1:Nat) (v6:Value),Below wr4.heap.size wr4 W→wr4.heap.size≤g1→W.rowIs g1 4 (s.size+1) (fun j=>.bool (G7 s r.bf Q8b j))→RdE atC 34 W v6 r.af.reverse→wpAny Tryz.prog .any o q0 3 (bL 11 255) (a_0123 g1 v6) W:=by
    intro W g1 v6 HB hg1 hr1 hr6;simp only [a_0123,a_012,a_02,a_0,a_,a0,Act.put,zZ,zY,zX];refine zqo 8 rfl ?_;refine Q2n (v6) (.string bk) rfl Tryz.func102 (X2a r.af.reverse bk v6 W hr6 yY yV (fun x hx=>hO.o.2 x (List.mem_reverse.1 hx))) ?_;rintro e W7 ⟨g2,rfl,hg2,hr2,hb⟩;refine ⟨_,rfl,?_⟩;rw [hq] at hr2 ⊢;refine zqG 9 10 (.slice (some ⟨g1,0,none⟩) (s.size+1) (s.size+1)) rfl ?_;refine zqG 10 11 (.slice (some ⟨g2,0,none⟩) (s.size+1) (s.size+1)) rfl ?_;exact zqX (S01234 W7 g1 v6 g2 (HB.trans (hb.mono HB.size)) hg1 (hr1.of_block (hb.block _ hr1.lt)) (Nat.le_trans HB.size hg2) hr2)
   have S012:∀ (W:World) (g1:Nat),Below wr4.heap.size wr4 W→wr4.heap.size≤g1→W.rowIs g1 4 (s.size+1) (fun j=>.bool (G7 s r.bf Q8b j))→wpAny Tryz.prog .any o q0 4 (bL 11 191) (a_012 g1) W:=by
    intro W g1 HB hg1 hr1;simp only [a_012,a_02,a_0,a_,a0,Act.put,zZ,zY,zX];refine zqo 6 rfl ?_;refine Q0y (.slice tA tn tc) rfl Tryz.func103 (V1b r.af _ W (hI.o.below HB yQ) Hh) ?_;rintro e W6 ⟨v6,rfl,hr6,hb⟩;refine ⟨_,rfl,?_⟩;exact zqX (S0123 W6 g1 v6 (HB.trans (hb.mono HB.size)) hg1 (hr1.of_block (hb.block _ hr1.lt)) hr6)
   have S02:∀ (W:World) (g1:Nat),Below wr4.heap.size wr4 W→wr4.heap.size≤g1→W.rowIs g1 4 (s.size+1) (fun j=>.bool (G7 s r.bf Q8b j))→wpAny Tryz.prog .any o q0 5 (bL 11 159) (a_02 g1) W:=by
    intro W g1 HB hg1 hr1;simp only [a_02,a_0,a_,a0,Act.put,zZ,zY,zX];refine zqo 5 rfl ?_;refine zqL (.slice tA tn tc) rfl (.pointer (some ⟨q,2,none⟩)) (hN.o W HB) ?_;exact zqX (S012 W g1 HB hg1 hr1)
   have S01:∀ (W:World),Below wr4.heap.size wr4 W→wpAny Tryz.prog .any o q0 5 (bL 11 183) a_01 W:=by
    intro W HB;simp only [a_01,a_0,a_,a0,Act.put,zZ,zY,zX];refine zqo 3 rfl ?_;refine Q2n (.slice uA un uc) (.string s) rfl Tryz.func102 (X2a r.bf s _ W (hw.o.below HB yQ) yY hJ hO.o.1) ?_;rintro e W5 ⟨g1,rfl,hg1,hr1,hb⟩;refine ⟨_,rfl,?_⟩;exact zqX (S012 W5 g1 (HB.trans (hb.mono HB.size)) (Nat.le_trans HB.size hg1) hr1)
   have S0:∀ (W:World),Below wr4.heap.size wr4 W→wpAny Tryz.prog .any o q0 6 (bL 11 151) a_0 W:=by
    intro W HB;simp only [a_0,a_,a0,Act.put,zZ,zY,zX];refine zqt 3 5 rfl rfl ?_ ?_
    ·refine Q2n (.slice uA un uc) (.string s) rfl Tryz.func102 (X2a r.bf s _ W (hw.o.below HB yQ) yY hJ hO.o.1) ?_;rintro e W5 ⟨g1,rfl,hg1,hr1,hb⟩;refine ⟨_,rfl,?_⟩;exact zqX (S02 W5 g1 (HB.trans (hb.mono HB.size)) (Nat.le_trans HB.size hg1) hr1)
    ·refine zqL (.slice tA tn tc) rfl (.pointer (some ⟨q,2,none⟩)) (hN.o W HB) ?_;exact zqX (S01 W HB)
   have S1:∀ (W:World),Below wr4.heap.size wr4 W→wpAny Tryz.prog .any o q0 6 (bL 11 181) a_1 W:=by
    intro W HB;simp only [a_1,a_,a0,Act.put,zZ,zY,zX];refine zqo 1 rfl ?_;refine zqL (.slice uA un uc) rfl (.pointer (some ⟨q,1,none⟩)) (hY.o W HB) ?_;exact zqX (S01 W HB)
   have S:∀ (W:World),Below wr4.heap.size wr4 W→wpAny Tryz.prog .any o q0 11 (bL 11 0) a0 W:=by
    intro W HB;simp only [a0,Act.put,zZ,zY,zX];refine zqF 0 35 (.pointer (some ⟨q,1,none⟩)) rfl rfl (.pointer (some ⟨q,0,none⟩)) ?_;refine zqM 2 37 (.string s) rfl ?_;refine zqF 4 39 (.pointer (some ⟨q,2,none⟩)) rfl rfl (.pointer (some ⟨q,0,none⟩)) ?_;refine zqM 7 42 (.string bk) rfl ?_;simp only [Act.put,zZ,zY,zX];refine zqt 1 5 rfl rfl ?_ ?_
    ·refine zqL (.slice uA un uc) rfl (.pointer (some ⟨q,1,none⟩)) (hY.o W HB) ?_;exact zqX (S0 W HB)
    ·refine zqL (.slice tA tn tc) rfl (.pointer (some ⟨q,2,none⟩)) (hN.o W HB) ?_;exact zqX (S1 W HB)
   exact S _ (Q1 (Below.refl _ wr4) 1)
  ·obtain rfl:k=xs.length:=yY;have ih:¬ (xs.length:Int) < (xs.length:Int):=yY;have hX:yK (wr.rowIs K 4 (s.size+1) (fun j=>.bool (X8r rs s j))):=HK.o.congr fun j hj=>by
    rw [List.take_of_length_le io];rfl
   have e0:Q8l (X8r rs s) (s.size+1)=M6 rs s:=Y8c rs s yY;have E0:=zW e0;clear HD HK e0;obtain ⟨M,hM⟩:∃ M,yK (M=wr.heap.size):=⟨_,rfl⟩;have HU:K < M:=(by rw [hM.o];exact hX.o.lt);have HA:w.heap.size≤M:=(by rw [hM.o];exact HB.o.size);have Hu:M≤wr.heap.size:=(by rw [hM.o];exact yQ);go_wp2_with fail
   obtain ⟨wo3,He⟩:∃ wo,yK (wo=wr):=⟨wr,rfl⟩;go_loopg [13,81] (s.size+1) (fun gk ov kv wr=>∃ (k:Nat) (q:List Int) (A:Option Addr) (c:Nat),ov=.slice A q.length c∧kv=.int .i64 k∧k≤s.size+1∧yK (q=Q8l (X8r rs s) k)∧yK (OwnE 3 V6 1 wr M (.slice A q.length c) q)∧yK (wr.rowIs K 4 (s.size+1) (fun j=>.bool (X8r rs s j)))∧M≤wr.heap.size∧yK (Below w.heap.size w wr)∧q.length≤k∧s.size+1 - k≤gk)
   case atStart=>exact ⟨0,[],none,0,rfl,rfl,yY,rfl,OwnE.nil,hX.o,Hu,HB.o,yQ,yY⟩
   case round=>
    clear hX HB Hu He hM;obtain ⟨k,q,A,c,rfl,rfl,iw,HQ,HO,hW,Hg,hf,iz,ib⟩:=hrel;by_cases hkl2:k < s.size+1
    ·have ii:(k:Int) < (s.size:Int)+1:=yY;have ig:(0:Int)≤(k:Int):=yY;have qk:=hW.o.cell (i:=k) hkl2;have hv:yK (Q8l (X8r rs s) (k+1)=q++if X8r rs s k=true then [(k:Int)] else []):=(by show _=_;rw [Q5d,HQ.o]);cases hb:X8r rs s k with
     | false=>
       rw [hb] at qk hv;rw [if_neg Bool.false_ne_true,List.append_nil] at hv;go_wp2_with fail
       go_roundg (s.size+1 - (k+1))
       case measure=>omega
       case rel=>exact ⟨k+1,q,A,c,rfl,by go_num,yY,hv.o.symm,HO.o,hW.o,Hg,hf.o,yY,yQ⟩
     | true=>
       rw [hb] at qk hv;rw [if_pos rfl] at hv;go_wp2_with (at_builtin;go_must (refine Z5 rfl (.tmp 87) (.tmp 89) 22 3 rfl Tryz.underlying22 _ 1 8 X2g rfl yX M (.slice A q.length c) q.length (q.flatMap V6) rfl (V4 HO.o ((Below.refl _ wr).alloc yQ _) yQ) ⟨wr.heap.size,0,none⟩ 1 (V6 k) rfl rfl (F4 wr (V6 k) 3) (X2f k) yY yX yV ?_);intro g9 cap w9 hown9 hbg9 hbel9 hgrow9)
       have hR:=hbel9 M wr yQ ((Below.refl M wr).alloc Hg (.cells (V6 k).toArray 3));have HF:=zW (hf.o.trans (hR.mono HA));have HM:yK (OwnE 3 V6 1 w9 M (.slice (some ⟨g9,0,none⟩) (q.length+1) cap) (q++[(k:Int)])):=OwnE.snoc hown9;have HJ:=zW (hW.o.of_block (hR.block _ HU));have HW:=Nat.le_trans Hg hR.size;clear hown9 hbel9 hgrow9 hR;go_wp2_with fail
       go_roundg (s.size+1 - (k+1))
       case measure=>omega
       case rel=>exact ⟨k+1,q++[(k:Int)],some ⟨g9,0,none⟩,cap,by (show Value.slice _ _ _=Value.slice _ _ _);rw [List.length_append];rfl,by go_num,yY,hv.o.symm,by (show OwnE _ _ _ _ _ _ _);rw [List.length_append];exact HM.o,HJ.o,HW,HF.o,by rw [List.length_append];show q.length+1≤k+1;omega,yQ⟩
    ·obtain rfl:k=s.size+1:=yY;have ii:¬ (((s.size+1:Nat)):Int) < (s.size:Int)+1:=yY;have E1:yK (q=M6 rs s):=HQ.o.trans E0.o;go_wp2_with fail
     rw [Ha.o];have h:=Y7 HO.o HA;rw [←E1.o];exact ⟨_,rfl,h,hf.o⟩
end Go.Proofs.YtfkojnofbpdjdaaGreatDoor
namespace Go.Proofs.YtfkojnofbpdjdaaGreatDoor
def bnF (rs:List Ru) (s:ByteArray):List Nat:=if 1024 < s.size then [] else (List.range s.size).filter fun k=>decide (0 < k) && U5 rs s k
theorem Y8b (rs:List Ru) (s:ByteArray):M6 rs s=(bnF rs s).map fun (k:Nat)=>(k:Int):=by
 unfold M6 bnF;split<;>rfl
theorem V2w (rs:List Ru) (s:ByteArray):(0::bnF rs s).Pairwise (·≤·):=by
 refine List.pairwise_cons.2 ⟨fun _ _=>Nat.zero_le _,?_⟩;unfold bnF;split
 ·exact List.Pairwise.nil
 ·exact ((List.pairwise_lt_range (n:=s.size)).filter _).imp fun h=>Nat.le_of_lt h
theorem Z7u (rs:List Ru) (s:ByteArray):∀ b∈bnF rs s,b < s.size:=by
 unfold bnF;intro b hb;split at hb
 ·simp at hb
 ·exact List.mem_range.1 (List.mem_filter.1 hb).1
theorem V2x (rs:List Ru) (s:ByteArray):(bnF rs s).length≤s.size:=by
 unfold bnF;split
 ·simp
 ·exact Nat.le_trans (List.length_filter_le _ _) yW
def H6 (rs:List Ru) (f:List Tk):List (Nat×Nat):=X1c (sqF f) 0 (Q5g f (bnF rs (plS f)))
theorem Z1n (rs:List Ru) (f:List Tk):AscF 0 (Q5g f (bnF rs (plS f))) (X2 f):=by
 have hs:=Q6g f;have h:=Y4b f (bnF rs (plS f)) 0 (V2w _ _) (fun b hb=>by
  rcases List.mem_cons.1 hb with rfl | hb
  ·exact Nat.zero_le _
  ·have:=Z7u _ _ b hb;omega)
 exact h.zero (by unfold Q5g;simp)
theorem Z8d (f:List Tk) (bn:List Nat):(Q5g f bn).length=bn.length+1:=by unfold Q5g;simp
theorem V3e (f:List Tk) (bn:List Nat) (k:Nat) (h:k < bn.length):(Q5g f bn)[k]? =some (J6 (G8 f) bn[k]):=by
 unfold Q5g;rw [List.getElem?_append_left (by simpa using h),List.getElem?_map,List.getElem?_eq_getElem h];rfl
theorem Z8c (f:List Tk) (bn:List Nat):(Q5g f bn)[bn.length]? =some (X2 f):=by
 unfold Q5g;rw [List.getElem?_append_right yW];simp
theorem Y9q (f:List Tk) (b:Nat) (h:b≤(plI f).length):X6y f (b:Int)=(J6 (G8 f) b:Nat):=by
 unfold X6y;rw [if_neg yY,Int.toNat_natCast]
theorem V5u (R:List (Bool×Bool)) (p q:Nat) (hR:∀ c∈R,c.1=true→c.2=false) (hq:q≤R.length) (ha:((R.take q).drop p).any (·.1)=true):sgF R p q=[(frI R p,bkI R q)]∧p≤frI R p∧frI R p < bkI R q∧bkI R q≤q∧(∃ h:frI R p < R.length,R[frI R p].2=false)∧(∃ h:bkI R q - 1 < R.length,R[bkI R q - 1].2=false):=by
 obtain ⟨j,hj,h1,h2,h3,h4⟩:=Z1j R p q hR ha;have e1:=Z9d R p;have e2:=Y8s R p j h1 hj h4;have e3:=Y7z R q j h2 hq h4;have e4:=Z7s R q;refine ⟨by unfold sgF;rw [if_pos ha],e1,yY,e4,?_,?_⟩
 ·obtain ⟨k,hk,hb,hc⟩:=Z9c R p j h1 hj h4;rw [hk];exact ⟨hb,hc⟩
 ·obtain ⟨k,hk,hb,hc⟩:=Z7r R q j h2 hq h4;rw [hk];exact ⟨hb,hc⟩
theorem V8g (R:List (Bool×Bool)) (p q:Nat) (ha:((R.take q).drop p).any (·.1)≠true):sgF R p q=[]:=by unfold sgF;rw [if_neg ha]
theorem Z9e (R:List (Bool×Bool)) (x j:Nat) (h1:x≤j) (h2:j < frI R x):(R.map (·.2))[j]? =some true:=by
 obtain ⟨h,hs⟩:=Y4t R x j h1 h2;rw [List.getElem?_map,List.getElem?_eq_getElem h];simp [hs]
theorem Z7t (R:List (Bool×Bool)) (y j:Nat) (hyl:y≤R.length) (h1:bkI R y≤j) (h2:j < y):(R.map (·.2))[j]? =some true:=by
 have hs:=Y3n R y j hyl h1 h2;rw [List.getElem?_map,List.getElem?_eq_getElem yY];simp [hs]
structure SegAt (S:List Bool) (p q x y:Nat):Prop where
 px:p≤x
 xy:x < y
 yq:y≤q
 lead:∀ j,p≤j→j < x→S[j]? =some true
 atx:S[x]? =some false
 tail:∀ j,y≤j→j < q→S[j]? =some true
 aty:S[y - 1]? =some false
theorem V9r (f:List Tk) (p q:Nat) (hq:q≤X2 f) (ha:(plI (slI f 0 p q)).any (fun c=>!Q2j c)=true):∃ x y,sgF (sqF f) p q=[(x,y)]∧SegAt ((sqF f).map (·.2)) p q x y:=by
 rw [Y2e,Z0q,Nat.sub_zero,Nat.sub_zero] at ha;have hb:q≤(sqF f).length:=(by rw [Q7v];exact hq);obtain ⟨h0,h1,h2,h3,⟨h4,h5⟩,⟨h6,h7⟩⟩:=V5u (sqF f) p q (V1q f) hb ha;refine ⟨_,_,h0,h1,h2,h3,fun j a b=>Z9e _ p j a b,?_,fun j a b=>Z7t _ q j hb a b,?_⟩
 ·rw [List.getElem?_map,List.getElem?_eq_getElem h4,Option.map_some,h5]
 ·rw [List.getElem?_map,List.getElem?_eq_getElem h6,Option.map_some,h7]
theorem V9s (f:List Tk) (p q:Nat) (ha:(plI (slI f 0 p q)).any (fun c=>!Q2j c)≠true):sgF (sqF f) p q=[]:=by
 rw [Y2e,Z0q,Nat.sub_zero,Nat.sub_zero] at ha;exact V8g _ _ _ ha
end Go.Proofs.YtfkojnofbpdjdaaGreatDoor
namespace Go.Proofs.YtfkojnofbpdjdaaGreatDoor
open Go.RowKit
theorem V1y (s:ByteArray) (w:World) (hs:s.size≤maxLen):
 Calls Tryz.prog 64 #[.string s] w fun e w'=>∃ x y:Nat,Z7h s.data.toList x y∧e=.returned (.tuple #[.int .i64 x,.int .i64 y])∧w=w':=by
 unfold maxLen at hs;have hd:=Lib.size_eq s;have HZ:=zW hd;clear hd;go_enter Tryz.func64,Tryz.ntmps64
 go_wp2
 go_loop [2] (fun i=>∃ k:Nat,k≤s.size∧i=.int .i64 k∧yK (∀ (j:Nat) (c:UInt8),j < k→s.data.toList[j]? =some c→Q5k c.toNat=2)) (fun i=>s.size - (intOf i).toNat)
 case atStart=>exact ⟨0,yY,rfl,fun j c h=>yY⟩
 case round=>
  obtain ⟨k,hk,rfl,HR⟩:=hrel;by_cases hlt:k < s.size
  ·have he:s[k].toNat < 256:=s[k].toNat_lt;have hgk:=zW (show s.data.toList[k]? =some s[k] from List.getElem?_eq_getElem (by rw [←Lib.size_eq];exact hlt));by_cases hsp:Q5k (s[k].toNat:Int)=2
   ·have ht:(Q5k (s[k].toNat:Int)==2)=true:=(by rw [hsp];rfl);have HP:=zW hsp;clear hsp;go_wp2_with (go_at_call 97;refine (X6t _ _ yY yY).mono ?_;rintro e w' ⟨rfl,rfl⟩)
    refine ⟨⟨k+1,yY,by go_num,fun j c hj hc=>?_⟩,by simp [intOf];try omega⟩;by_cases hjk:j=k
    ·subst hjk;rw [hgk.o] at hc;injection hc with hc;subst hc;exact HP.o
    ·exact HR.o j c yY hc
   ·have ht:(Q5k (s[k].toNat:Int)==2)=false:=(by simpa using hsp);have HP:=zW hsp;clear hsp;go_wp2_with (go_at_call 97;refine (X6t _ _ yY yY).mono ?_;rintro e w' ⟨rfl,rfl⟩)
    go_loop [3] (fun i=>∃ u:Nat,k≤u∧u < s.size∧i=.int .i64 ((u:Int)+1)∧yK (∀ (j:Nat) (c:UInt8),u+1≤j→s.data.toList[j]? =some c→Q5k c.toNat=2)) (fun i=>(intOf i).toNat)
    case atStart=>
     refine ⟨s.size - 1,yY,yY,by go_num,fun j c hj hc=>?_⟩;have:=(List.getElem?_eq_some_iff.1 hc).1;rw [←HZ.o] at this;omega
    case round=>
     obtain ⟨u,hi,hh,rfl,HU⟩:=hrel;have h255':s[u].toNat < 256:=s[u].toNat_lt;have hb:=zW (show s.data.toList[u]? =some s[u] from List.getElem?_eq_getElem (by rw [←Lib.size_eq];exact hh));by_cases hsp2:Q5k (s[u].toNat:Int)=2
     ·have hf:k≠u:=by
       rintro rfl;exact HP.o hsp2
      have hg:(Q5k (s[u].toNat:Int)==2)=true:=(by rw [hsp2];rfl);have ha:=zW hsp2;clear hsp2;go_wp2_with (go_at_call 97;refine (X6t _ _ yY yY).mono ?_;rintro e w' ⟨rfl,rfl⟩)
      refine ⟨⟨u - 1,yY,yY,by go_num,fun j c hj hc=>?_⟩,by simp [intOf];try omega⟩;by_cases hju:j=u
      ·subst hju;rw [hb.o] at hc;injection hc with hc;subst hc;exact ha.o
      ·exact HU.o j c yY hc
     ·have hg:(Q5k (s[u].toNat:Int)==2)=false:=(by simpa using hsp2);have ha:=zW hsp2;clear hsp2;have hf:((k:Int)==(u:Int)+1)=false:=yV;go_wp2_with (go_at_call 97;refine (X6t _ _ yY yY).mono ?_;rintro e w' ⟨rfl,rfl⟩)
      go_ret2
      refine ⟨k,u+1,.inr ⟨yY,by rw [←HZ.o];omega,fun c hc=>?_,fun c hc=>?_,fun j c hj hc=>HR.o j c hj hc,fun j c hj hc=>HU.o j c hj hc⟩,by go_num,rfl⟩
      ·rw [hgk.o] at hc;injection hc with hc;subst hc;exact HP.o
      ·rw [Nat.add_sub_cancel,hb.o] at hc;injection hc with hc;subst hc;exact ha.o
  ·obtain rfl:k=s.size:=yY;go_wp2
   go_loop [3] (fun i=>i=.int .i64 (s.size:Nat)) (fun i=>(intOf i).toNat)
   case atStart=>rfl
   case round=>
    subst hrel;go_wp2
    go_ret2
    refine ⟨0,0,.inl ⟨rfl,rfl,fun j c hc=>HR.o j c ?_ hc⟩,rfl,rfl⟩;have:=(List.getElem?_eq_some_iff.1 hc).1;rw [←HZ.o] at this;exact this
end Go.Proofs.YtfkojnofbpdjdaaGreatDoor
