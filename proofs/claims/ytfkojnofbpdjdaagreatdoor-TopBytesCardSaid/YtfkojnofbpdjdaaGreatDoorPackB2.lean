/-
  Contracts and plain laws that this claim leans on, part 2.
-/
import Derived.Test.YtfkojnofbpdjdaaGreatDoorPackB1
import Derived.Deep.RegionLaw
import Derived.Deep.LoopGhost
import Derived.Deep.DeepCutAuto
import Derived.Deep.CutBlock
import Derived.Deep.RegionWith
import Derived.BigRegion
import Derived.Deep.RegionHeld3
import Derived.Great.BuildSlice
import Derived.LaidMore
import Derived.Laws.CopyOwn
import Derived.Laws.ResultCell
import Derived.Laws.Tables
import Derived.Lay
import Derived.Lib.Bytealg
import Derived.Lib.IndexMore
import Derived.Lib.SliceRun
import Derived.Lib.SmallJoins
import Derived.Lib.Split
import Derived.Lib.SplitLaws
import Derived.Lib.Walk
import Derived.Maps.Own
import Derived.Maps.OwnOps
import Derived.Maps.Views
import Derived.OpenShut
import Derived.ProofKit
import Derived.SizedLaws
import Derived.Stop.Joined
import Derived.Shelf.Vars
import Derived.Deep.OwnRows
import Derived.Deep.MidRow
import Derived.StillTailTactics
import Derived.Shelf.Strings.Builder1
import Derived.Shelf.Strings.Builder2
import Derived.Shelf.Strings.Trim
import Derived.Shelf.Small.Utf8
import Derived.Shelf.Small.Strs
import Derived.Shelf.Strings.BuilderF
import Derived.Shelf.Strings.BuilderK
import Derived.Shelf.Utf8.RuneCount
import Derived.Shelf.Strings.Builder2Cap
import Derived.Shelf.Strconv.Itoa0
import Derived.Shelf.Strconv.Itoa1
import Derived.Shelf.LaysM
import Derived.Shelf.Strconv.Itoa2
import Derived.Shelf.Strconv.Itoa3
import Derived.Shelf.Strings.Search1
import Derived.Shelf.Strings.Search2
import Derived.Shelf.Strings.Search3
import Derived.Shelf.Strings.Cut
import Derived.Shelf.Strings.Count
import Derived.Shelf.Strings.Shaped
import Derived.Shelf.Strings.Prefix
import Derived.Shelf.Strings.Split
import Derived.Shelf.Unicode.Decode
import Derived.Shelf.Strings.Runes
import Derived.Shelf.Strings.RuneCount
import Derived.Shelf.Strings.AsciiSet
import Derived.Shelf.Unicode.DecodeSlow
import Derived.Shelf.Unicode.DecodeAny
import Derived.Shelf.Strings.BuilderCap
import Derived.Test.YtfkojnofbpdjdaaGreatDoorProg
import Derived.Shelf.Abstract
set_option linter.unusedVariables false
set_option linter.unusedSimpArgs false
set_option maxHeartbeats 16000000
set_option maxRecDepth 100000
namespace Go.Proofs.YtfkojnofbpdjdaaGreatDoor
open Go.RowKit
section
variable {P:Program} {ops:Array Oper} {w:World} {a:Act} {o:Oper}
theorem X1 {o:Oper} {v:Value} {w2:World} {K:Act→World→Prop} {QE:Exit→Act→World→Prop} (hv:(execOp a.eval o).run P w=.ok (.value v) w2) (h:K (a.put o.dst v) w2):Oper.wp P o a w K QE:=by
 show Oper.upon _ _ _ _ _ _;rw [hv];exact h
theorem X0p {md:Region.Mode} {QE:Exit→Act→World→Prop} (i:Nat) (d:Option Tmp) (v:Value) (w2:World) {oi:Oper} {fuel:Nat} {listed:Array Bool} {rs:List Oper} (hr:Region.ready md ops listed=[i]) (hi:ops.toList.drop i=oi::rs) (hd:oi.dst=d) (hw:Region.wanted oi (yielded ops a.tmps)=true)
 (hv:(execOp a.eval oi).run P w=.ok (.value v) w2) (h:wpAny P md ops QE fuel (listed.setIfInBounds i true) (a.put d v) w2):wpAny P md ops QE (fuel+1) listed a w:=by
 subst hd;exact G7 i hr hi hw (X1 hv h)
theorem X0o {md:Region.Mode} {QE:Exit→Act→World→Prop} (i j:Nat) {oi oj:Oper} {fuel:Nat} {listed:Array Bool} {r1 r2:List Oper} (hr:Region.ready md ops listed=[i,j]) (hi:ops.toList.drop i=oi::r1) (hj:ops.toList.drop j=oj::r2)
 (hwi:Region.wanted oi (yielded ops a.tmps)=true) (hwj:Region.wanted oj (yielded ops a.tmps)=true)
 (h1:Oper.wp P oi a w (wpAny P md ops QE fuel (listed.setIfInBounds i true)) QE) (h2:Oper.wp P oj a w (wpAny P md ops QE fuel (listed.setIfInBounds j true)) QE):wpAny P md ops QE (fuel+1) listed a w:=
 wpAny_ready hr yW (fB (R8 hi) (fun K hK=>by rw [aK hwi];exact fK hK h1) (fB (R8 hj) (fun K hK=>by rw [aK hwj];exact fK hK h2) AllReady.nil))
theorem Y0g {md:Region.Mode} {QE:Exit→Act→World→Prop} (i j k:Nat) {oi oj ok:Oper} {fuel:Nat} {listed:Array Bool} {r1 r2 r3:List Oper} (hr:Region.ready md ops listed=[i,j,k]) (hi:ops.toList.drop i=oi::r1) (hj:ops.toList.drop j=oj::r2) (hk:ops.toList.drop k=ok::r3)
 (hwi:Region.wanted oi (yielded ops a.tmps)=true) (hwj:Region.wanted oj (yielded ops a.tmps)=true) (hwk:Region.wanted ok (yielded ops a.tmps)=true)
 (h1:Oper.wp P oi a w (wpAny P md ops QE fuel (listed.setIfInBounds i true)) QE) (h2:Oper.wp P oj a w (wpAny P md ops QE fuel (listed.setIfInBounds j true)) QE) (h3:Oper.wp P ok a w (wpAny P md ops QE fuel (listed.setIfInBounds k true)) QE):wpAny P md ops QE (fuel+1) listed a w:=
 wpAny_ready hr yW (fB (R8 hi) (fun K hK=>by rw [aK hwi];exact fK hK h1) (fB (R8 hj) (fun K hK=>by rw [aK hwj];exact fK hK h2) (fB (R8 hk) (fun K hK=>by rw [aK hwk];exact fK hK h3) AllReady.nil)))
theorem U2o {md:Region.Mode} {QE:Exit→Act→World→Prop} (i j k b:Nat) (d e f s:Tmp) (v:Value) (vb:Value→Value) (ob:Obj) {oi oj ok ox:Oper} {fuel:Nat} {listed L:Array Bool} {r1 r2 r3 r4:List Oper} (fn:FuncId) (vs:Array Value) {Post1 Post2:Ending→World→Prop}
 (hns:Region.noSelect ops=true) (hr:Region.ready md ops listed=[i,j,k]) (hri:Region.ready md ops (listed.setIfInBounds i true)=[j,k]) (hrj:Region.ready md ops (listed.setIfInBounds j true)=[i,k]) (hrk:Region.ready md ops (listed.setIfInBounds k true)=[i,j])
 (hfij:Region.free md ops ((listed.setIfInBounds i true).setIfInBounds j true) b=true) (hrij:(Region.ready md ops ((listed.setIfInBounds i true).setIfInBounds j true)).contains b=true) (hrijb:Region.ready md ops (((listed.setIfInBounds i true).setIfInBounds j true).setIfInBounds b true)=[k])
 (hrik:Region.ready md ops ((listed.setIfInBounds i true).setIfInBounds k true)=[j]) (hrjk:Region.ready md ops ((listed.setIfInBounds j true).setIfInBounds k true)=[i])
 (hrijk:Region.ready md ops (((listed.setIfInBounds i true).setIfInBounds j true).setIfInBounds k true)=[b])
 (hi:ops.toList.drop i=oi::r1) (hj:ops.toList.drop j=oj::r2) (hk:ops.toList.drop k=ok::r3) (hb:ops.toList.drop b=ox::r4) (hd:oi.dst=some d) (he:oj.dst=some e) (hf:ok.dst=some f) (hs:ox.dst=some s) (hde:d≠e) (hdf:d≠f) (hef:e≠f) (hsf:s≠f) (hij:i≠j) (hik:i≠k) (hjk:j≠k) (hkb:k≠b)
 (hw:∀ A:Act,Region.wanted oi (yielded ops A.tmps)=true∧Region.wanted oj (yielded ops A.tmps)=true∧Region.wanted ok (yielded ops A.tmps)=true∧Region.wanted ox (yielded ops A.tmps)=true)
 (hQ:∀ c x A W,QE (.panic c) (Act.put A ox.dst x) W→QE (.panic c) A W)
 (hv:∀ (A:Act) (W:World),A=a∨(∃ u,A=a.put (some e) u)∨(∃ p,A=a.put (some f) p)∨(∃ u p,A=(a.put (some e) u).put (some f) p)→(W=w∨W=w.alloc ob∨(∃ e',Post1 e' W)∨(∃ e',Post2 e' W)∨∃ e' W1,Post1 e' W1∧W=W1.alloc ob)→(execOp A.eval oi).run P W=.ok (.value v) W)
 (hc:∀ A:Act,A=a∨A=a.put (some d) v∨(∃ p,A=a.put (some f) p)∨(∃ p,A=(a.put (some d) v).put (some f) p)→∀ W,(execOp A.eval oj).run P W=.ok (.enter fn vs) W)
 (ha:∀ (A:Act) (W:World),(execOp A.eval ok).run P W=.ok (.value (.pointer (some ⟨W.heap.size,0,none⟩))) (W.alloc ob))
 (hvb:∀ (u:Value) (W0:World),(Post1 (.returned u) W0∨Post2 (.returned u) W0)→∀ (A:Act),(A=(a.put (some d) v).put (some e) u∨∃ p,A=((a.put (some d) v).put (some e) u).put (some f) p)→∀ W,(execOp A.eval ox).run P W=.ok (.value (vb u)) W)
 (hc1:Calls P fn vs w Post1) (hc2:Calls P fn vs (w.alloc ob) Post2)
 (hL:(((listed.setIfInBounds i true).setIfInBounds j true).setIfInBounds k true).setIfInBounds b true=L)
 (h1:∀ e' w1,Post1 e' w1→∃ u,e'=.returned u∧wpAny P md ops QE fuel L ((((a.put (some d) v).put (some e) u).put (some f) (.pointer (some ⟨w1.heap.size,0,none⟩))).put (some s) (vb u)) (w1.alloc ob))
 (h2:∀ e' w1,Post2 e' w1→∃ u,e'=.returned u∧wpAny P md ops QE fuel L ((((a.put (some d) v).put (some e) u).put (some f) (.pointer (some ⟨w.heap.size,0,none⟩))).put (some s) (vb u)) w1):
 wpAny P md ops QE (fuel+1+1+1+1) listed a w:=by
 have hg:(((listed.setIfInBounds i true).setIfInBounds j true).setIfInBounds b true).setIfInBounds k true=L:=(by rw [dD (xs:=(listed.setIfInBounds i true).setIfInBounds j true) _ _ (fun x=>hkb x.symm)];exact hL);have eji:(listed.setIfInBounds j true).setIfInBounds i true=(listed.setIfInBounds i true).setIfInBounds j true:=dD _ _ (fun x=>hij x.symm);have eki:(listed.setIfInBounds k true).setIfInBounds i true=(listed.setIfInBounds i true).setIfInBounds k true:=dD _ _ (fun x=>hik x.symm);have ekj:(listed.setIfInBounds k true).setIfInBounds j true=(listed.setIfInBounds j true).setIfInBounds k true:=dD _ _ (fun x=>hjk x.symm);have eikj:((listed.setIfInBounds i true).setIfInBounds k true).setIfInBounds j true=((listed.setIfInBounds i true).setIfInBounds j true).setIfInBounds k true:=dD _ _ (fun x=>hjk x.symm);have ejki:((listed.setIfInBounds j true).setIfInBounds k true).setIfInBounds i true=((listed.setIfInBounds i true).setIfInBounds j true).setIfInBounds k true:=by
  rw [dD (xs:=listed.setIfInBounds j true) _ _ (fun x=>hik x.symm),eji]
 -- load and call done, the alloc still to come
 have pre:∀ (u:Value) (w1:World),Post1 (.returned u) w1→wpAny P md ops QE fuel L ((((a.put (some d) v).put (some e) u).put (some f) (.pointer (some ⟨w1.heap.size,0,none⟩))).put (some s) (vb u)) (w1.alloc ob)→
  wpAny P md ops QE (fuel+1+1) ((listed.setIfInBounds i true).setIfInBounds j true) ((a.put (some d) v).put (some e) u) w1:=fun u w1 hp h=>by
  refine wpAny_take (R8 hb) hns hfij hrij (hQ · (vb u)) (Or.inl ⟨(hw _).2.2.2,hvb u w1 (.inl hp) _ (.inl rfl)⟩) ?_;refine G7 k hrijb hk (hw _).2.2.1 (X1 (ha _ w1) ?_);rw [hs,hf,hg,B4 f s _ _ (fun x=>hsf x.symm)];exact h
 have post:∀ (u:Value) (p:Value) (W:World),(∃ W0,Post1 (.returned u) W0∨Post2 (.returned u) W0)→wpAny P md ops QE fuel L ((((a.put (some d) v).put (some e) u).put (some f) p).put (some s) (vb u)) W→
  wpAny P md ops QE (fuel+1) (((listed.setIfInBounds i true).setIfInBounds j true).setIfInBounds k true) (((a.put (some d) v).put (some e) u).put (some f) p) W:=fun u p W ⟨W0,hp⟩ h=>by
  refine Q9a b (some s) (vb u) hrijk hb hs (hw _).2.2.2 (hvb u W0 hp _ (.inr ⟨p,rfl⟩) W) ?_;rw [hL];exact h
 refine Y0g i j k hr hi hj hk (hw a).1 (hw a).2.1 (hw a).2.2.1 ?_ ?_ ?_
 ·-- the load first
  refine J4 (hv a w (.inl rfl) (.inl rfl)) ?_;rw [hd];refine X0o j k hri hj hk (hw _).2.1 (hw _).2.2.1 ?_ ?_
  ·refine J1 (hc _ (.inr (.inl rfl)) w) hc1 fun e' w1 hp=>?_;obtain ⟨u,rfl,h⟩:=h1 e' w1 hp;refine ⟨u,rfl,?_⟩;rw [he];exact pre u w1 hp h
  ·refine X1 (ha _ w) ?_;rw [hf];refine G7 j hrik hj (hw _).2.1 (J1 (hc _ (.inr (.inr (.inr ⟨_,rfl⟩))) _) hc2 fun e' w1 hp=>?_);obtain ⟨u,rfl,h⟩:=h2 e' w1 hp;refine ⟨u,rfl,?_⟩;rw [he,eikj,B4 e f _ _ hef];exact post u _ w1 ⟨w1,.inr hp⟩ h
 ·-- the call first
  refine J1 (hc a (.inl rfl) w) hc1 fun e' w1 hp=>?_;obtain ⟨u,rfl,h⟩:=h1 e' w1 hp;refine ⟨u,rfl,?_⟩;rw [he];refine X0o i k hrj hi hk (hw _).1 (hw _).2.2.1 ?_ ?_
  ·refine J4 (hv _ w1 (.inr (.inl ⟨u,rfl⟩)) (.inr (.inr (.inl ⟨_,hp⟩)))) ?_;rw [hd,eji,B4 d e _ _ hde];exact pre u w1 hp h
  ·refine X1 (ha _ w1) ?_;rw [hf];refine G7 i hrjk hi (hw _).1 (J4 (hv _ _ (.inr (.inr (.inr ⟨_,_,rfl⟩))) (.inr (.inr (.inr (.inr ⟨_,w1,hp,rfl⟩))))) ?_);rw [hd,ejki,B4 d f _ _ hdf,B4 d e _ _ hde];exact post u _ _ ⟨w1,.inl hp⟩ h
 ·-- the alloc first
  refine X1 (ha a w) ?_;rw [hf];refine X0o i j hrk hi hj (hw _).1 (hw _).2.1 ?_ ?_
  ·refine J4 (hv _ _ (.inr (.inr (.inl ⟨_,rfl⟩))) (.inr (.inl rfl))) ?_;rw [hd,eki];refine G7 j hrik hj (hw _).2.1 (J1 (hc _ (.inr (.inr (.inr ⟨.pointer (some ⟨w.heap.size,0,none⟩),by rw [B4 d f _ _ hdf]⟩))) _) hc2 fun e' w1 hp=>?_);obtain ⟨u,rfl,h⟩:=h2 e' w1 hp;refine ⟨u,rfl,?_⟩;rw [he,eikj,B4 d f _ _ hdf,B4 e f _ _ hef];exact post u _ w1 ⟨w1,.inr hp⟩ h
  ·refine J1 (hc _ (.inr (.inr (.inl ⟨_,rfl⟩))) _) hc2 fun e' w1 hp=>?_;obtain ⟨u,rfl,h⟩:=h2 e' w1 hp;refine ⟨u,rfl,?_⟩;rw [he,ekj];refine G7 i hrjk hi (hw _).1 (J4 (hv _ _ (.inr (.inr (.inr ⟨u,.pointer (some ⟨w.heap.size,0,none⟩),by rw [B4 e f _ _ hef]⟩))) (.inr (.inr (.inr (.inl ⟨_,hp⟩))))) ?_);rw [hd,ejki,B4 e f _ _ hef,B4 d f _ _ hdf,B4 d e _ _ hde];exact post u _ w1 ⟨w1,.inr hp⟩ h
end
section
variable {P:Program} {ops:Array Oper} {a:Act} {w:World}
def Q9d (md:Region.Mode) (ops:Array Oper) (listed:Array Bool) (i:Nat) (oi:Oper) (a:Act) (b:Bool):Bool:=
 Region.noSelect ops && Region.free md ops listed i && (Region.ready md ops listed).contains i && (Region.wanted oi (yielded ops a.tmps)==b)
theorem Y1h {md:Region.Mode} {listed:Array Bool} {i:Nat} {oi:Oper} {b:Bool} (h:Q9d md ops listed i oi a b=true):Region.noSelect ops=true∧Region.free md ops listed i=true∧(Region.ready md ops listed).contains i=true∧Region.wanted oi (yielded ops a.tmps)=b:=by
 unfold Q9d at h;simp only [Bool.and_eq_true,beq_iff_eq] at h;exact ⟨h.1.1.1,h.1.1.2,h.1.2,h.2⟩
theorem zzA {md:Region.Mode} {QE:Exit→Act→World→Prop} (i:Nat) {oi:Oper} (v:Value) {fuel:Nat} {listed:Array Bool} {rs:List Oper} (d:Option Tmp) (hi0:ops.toList.drop i=oi::rs)
 (hv:∀ w,(execOp a.eval oi).run P w=.ok (.value v) w)
 (h:wpAny P md ops QE fuel (listed.setIfInBounds i true) (a.put d v) w)
 (hd:oi.dst=d:=by rfl) (hc:Q9d md ops listed i oi a true=true:=by kernel_rfl) (hQ:∀ c a w,QE (.panic c) (a.put oi.dst v) w→QE (.panic c) a w:=by exact fun _ _ _ h=>h):wpAny P md ops QE (fuel+1) listed a w:=by
 obtain ⟨h1,h2,h3,h4⟩:=Y1h hc;exact V6o d hi0 hd h1 h2 h3 hQ h4 hv h
theorem zzM {md:Region.Mode} {QE:Exit→Act→World→Prop} (i:Nat) {oi:Oper} (v:Value) {fuel:Nat} {listed:Array Bool} {rs:List Oper} (d:Option Tmp) (hi0:ops.toList.drop i=oi::rs)
 (h:wpAny P md ops QE fuel (listed.setIfInBounds i true) (a.put d v) w) {x:Operand} (ho:oi.op=.move x:=by rfl) (hx:a.eval x=v:=by kernel_rfl)
 (hd:oi.dst=d:=by rfl) (hc:Q9d md ops listed i oi a true=true:=by kernel_rfl) (hQ:∀ c a w,QE (.panic c) (a.put oi.dst v) w→QE (.panic c) a w:=by exact fun _ _ _ h=>h):wpAny P md ops QE (fuel+1) listed a w:=
 zzA i v d hi0 (fun _=>Z5e x v ho hx) h hd hc hQ
theorem zzG {md:Region.Mode} {QE:Exit→Act→World→Prop} (i:Nat) {oi:Oper} (v:Value) {fuel:Nat} {listed:Array Bool} {rs:List Oper} (d:Option Tmp) (hi0:ops.toList.drop i=oi::rs)
 (h:wpAny P md ops QE fuel (listed.setIfInBounds i true) (a.put d v) w) {x:Operand} (ho:oi.op=.assign x:=by rfl) (hx:a.eval x=v:=by kernel_rfl)
 (hd:oi.dst=d:=by rfl) (hc:Q9d md ops listed i oi a true=true:=by kernel_rfl) (hQ:∀ c a w,QE (.panic c) (a.put oi.dst v) w→QE (.panic c) a w:=by exact fun _ _ _ h=>h):wpAny P md ops QE (fuel+1) listed a w:=
 zzA i v d hi0 (fun _=>Y1w x v ho hx) h hd hc hQ
theorem zzS {md:Region.Mode} {QE:Exit→Act→World→Prop} (i:Nat) {oi:Oper} {fuel:Nat} {listed:Array Bool} {rs:List Oper} (d:Option Tmp) (hi0:ops.toList.drop i=oi::rs)
 (h:wpAny P md ops QE fuel (listed.setIfInBounds i true) (a.put d undef) w)
 (hd:oi.dst=d:=by rfl) (hc:Q9d md ops listed i oi a false=true:=by kernel_rfl) (hQ:∀ c a w,QE (.panic c) (a.put oi.dst undef) w→QE (.panic c) a w:=by exact fun _ _ _ h=>h):wpAny P md ops QE (fuel+1) listed a w:=by
 obtain ⟨h1,h2,h3,h4⟩:=Y1h hc;exact Z3v i d hi0 hd h1 h2 h3 hQ h4 h
end
theorem kr {p:Prop} (h:p:=by kernel_rfl):p:=h
section
variable {P:Program} {ops:Array Oper} {a:Act} {w:World} {o oi oj ok:Oper} {md:Region.Mode} {QE:Exit→Act→World→Prop} {fuel:Nat} {listed:Array Bool} {rs rs2 rs3:List Oper}
theorem zqM (i n:Nat) (v:Value) (hi0:ops.toList.drop i=oi::rs) (h:wpAny P md ops QE fuel (listed.setIfInBounds i true) (a.put (some n) v) w) {x:Operand} (ho:oi.op=.move x:=by rfl) (hx:a.eval x=v:=by kernel_rfl)
 (hd:oi.dst=some n:=by rfl) (hc:Q9d md ops listed i oi a true=true:=by kernel_rfl) (hQ:∀ c a w,QE (.panic c) (a.put oi.dst v) w→QE (.panic c) a w:=by exact fun _ _ _ h=>h):wpAny P md ops QE (fuel+1) listed a w:=
 zzA i v (some n) hi0 (fun _=>Z5e x v ho hx) h hd hc hQ
theorem zqG (i n:Nat) (v:Value) (hi0:ops.toList.drop i=oi::rs) (h:wpAny P md ops QE fuel (listed.setIfInBounds i true) (a.put (some n) v) w) {x:Operand} (ho:oi.op=.assign x:=by rfl) (hx:a.eval x=v:=by kernel_rfl)
 (hd:oi.dst=some n:=by rfl) (hc:Q9d md ops listed i oi a true=true:=by kernel_rfl) (hQ:∀ c a w,QE (.panic c) (a.put oi.dst v) w→QE (.panic c) a w:=by exact fun _ _ _ h=>h):wpAny P md ops QE (fuel+1) listed a w:=
 zzA i v (some n) hi0 (fun _=>Y1w x v ho hx) h hd hc hQ
theorem zqS (i n:Nat) (hi0:ops.toList.drop i=oi::rs) (h:wpAny P md ops QE fuel (listed.setIfInBounds i true) (a.put (some n) undef) w)
 (hd:oi.dst=some n:=by rfl) (hc:Q9d md ops listed i oi a false=true:=by kernel_rfl) (hQ:∀ c a w,QE (.panic c) (a.put oi.dst undef) w→QE (.panic c) a w:=by exact fun _ _ _ h=>h):wpAny P md ops QE (fuel+1) listed a w:=
 zzS i (some n) hi0 h hd hc hQ
theorem zqB (i n:Nat) (v:Value) (hi0:ops.toList.drop i=oi::rs) {op:BinOp} {t t2:TypeId} {x y:Operand} (ho:oi.op=.binOp op t x y t2) (vx vy:Value)
 (h:wpAny P md ops QE fuel (listed.setIfInBounds i true) (a.put (some n) v) w) (hx:a.eval x=vx:=by kernel_rfl) (hy:a.eval y=vy:=by kernel_rfl)
 (hr:∀ w:World,(do eqGuard op t x y vx vy;Go.binOp op t vx vy:Sem Value).run P w=.ok v w:=by intro _;go_simp)
 (hd:oi.dst=some n:=by rfl) (hc:Q9d md ops listed i oi a true=true:=by kernel_rfl) (hQ:∀ c a w,QE (.panic c) (a.put oi.dst v) w→QE (.panic c) a w:=by exact fun _ _ _ h=>h):wpAny P md ops QE (fuel+1) listed a w:=
 zzA i v (some n) hi0 (fun w=>Y7d op t t2 x y vx vy v ho hx hy (hr w)) h hd hc hQ
theorem zqP (i n:Nat) (v:Value) (hi0:ops.toList.drop i=oi::rs) {c x y:Operand} (ho:oi.op=.pick c x y) (b:Bool)
 (h:wpAny P md ops QE fuel (listed.setIfInBounds i true) (a.put (some n) v) w) (hb:a.eval c=.bool b:=by kernel_rfl) (hv:(if b=true then a.eval x else a.eval y)=v:=by kernel_rfl)
 (hd:oi.dst=some n:=by rfl) (hc:Q9d md ops listed i oi a true=true:=by kernel_rfl) (hQ:∀ c a w,QE (.panic c) (a.put oi.dst v) w→QE (.panic c) a w:=by exact fun _ _ _ h=>h):wpAny P md ops QE (fuel+1) listed a w:=
 zzA i v (some n) hi0 (fun w=>by rw [←hv];exact V7u c x y b (a.eval x) (a.eval y) ho hb rfl rfl) h hd hc hQ
theorem zqF (i n:Nat) (v:Value) (hi0:ops.toList.drop i=oi::rs) {t:TypeId} {x:Operand} {f:Nat} (ho:oi.op=.fieldAddr t x f) (vx:Value)
 (h:wpAny P md ops QE fuel (listed.setIfInBounds i true) (a.put (some n) v) w) (hx:a.eval x=vx:=by kernel_rfl) (hr:∀ w:World,(Instr.fieldAt t vx f).run P w=.ok v w:=by intro _;go_simp)
 (hd:oi.dst=some n:=by rfl) (hc:Q9d md ops listed i oi a true=true:=by kernel_rfl) (hQ:∀ c a w,QE (.panic c) (a.put oi.dst v) w→QE (.panic c) a w:=by exact fun _ _ _ h=>h):wpAny P md ops QE (fuel+1) listed a w:=
 zzA i v (some n) hi0 (fun w=>Y3x t x f vx v ho hx (hr w)) h hd hc hQ
theorem zqI (i n:Nat) (v:Value) (hi0:ops.toList.drop i=oi::rs) {t:TypeId} {x y:Operand} (ho:oi.op=.indexAddr t x y) (vx vy:Value)
 (h:wpAny P md ops QE fuel (listed.setIfInBounds i true) (a.put (some n) v) w) (hx:a.eval x=vx:=by kernel_rfl) (hy:a.eval y=vy:=by kernel_rfl) (hr:∀ w:World,(Instr.indexAt t vx vy).run P w=.ok v w:=by intro _;go_simp)
 (hd:oi.dst=some n:=by rfl) (hc:Q9d md ops listed i oi a true=true:=by kernel_rfl) (hQ:∀ c a w,QE (.panic c) (a.put oi.dst v) w→QE (.panic c) a w:=by exact fun _ _ _ h=>h):wpAny P md ops QE (fuel+1) listed a w:=
 zzA i v (some n) hi0 (fun w=>Y3y t x y vx vy v ho hx hy (hr w)) h hd hc hQ
theorem zqJ (i n:Nat) (v:Value) (hi0:ops.toList.drop i=oi::rs) {t:TypeId} {x y:Operand} (ho:oi.op=.index t x y) (vx vy:Value)
 (h:wpAny P md ops QE fuel (listed.setIfInBounds i true) (a.put (some n) v) w) (hx:a.eval x=vx:=by kernel_rfl) (hy:a.eval y=vy:=by kernel_rfl) (hr:∀ w:World,(Instr.index t vx vy).run P w=.ok v w:=by intro _;go_simp)
 (hd:oi.dst=some n:=by rfl) (hc:Q9d md ops listed i oi a true=true:=by kernel_rfl) (hQ:∀ c a w,QE (.panic c) (a.put oi.dst v) w→QE (.panic c) a w:=by exact fun _ _ _ h=>h):wpAny P md ops QE (fuel+1) listed a w:=
 zzA i v (some n) hi0 (fun w=>V2k t x y vx vy v ho hx hy (hr w)) h hd hc hQ
def U4c:Value→Nat→Option Value
 | .tuple vs,k=>vs[k]?
 | _,_=>none
theorem zqE (i n:Nat) (v:Value) (hi0:ops.toList.drop i=oi::rs) {x:Operand} {k:Nat} (ho:oi.op=.extract x k)
 (h:wpAny P md ops QE fuel (listed.setIfInBounds i true) (a.put (some n) v) w) (hv:U4c (a.eval x) k=some v:=by kernel_rfl)
 (hd:oi.dst=some n:=by rfl) (hc:Q9d md ops listed i oi a true=true:=by kernel_rfl) (hQ:∀ c a w,QE (.panic c) (a.put oi.dst v) w→QE (.panic c) a w:=by exact fun _ _ _ h=>h):wpAny P md ops QE (fuel+1) listed a w:=
 zzA i v (some n) hi0 (fun w=>by
  generalize a.eval=ρ at hv ⊢;unfold execOp;simp only [ho];generalize ρ x=u at hv ⊢;unfold U4c at hv;split at hv
  ·go_simp
  ·cases hv) h hd hc hQ
theorem zqV (i n:Nat) (v:Value) (hi:ops.toList.drop i=oi::rs) {t:TypeId} {x:Operand} (ho:oi.op=.load t x) (vx:Value) (hr:(Instr.loadAt t vx).run P w=.ok v w)
 (h:wpAny P md ops QE fuel (listed.setIfInBounds i true) (a.put (some n) v) w) (hx:a.eval x=vx:=by kernel_rfl) (hd:oi.dst=some n:=by rfl)
 (hk:Region.ready md ops listed=[i]:=by kernel_rfl) (hw:Region.wanted oi (yielded ops a.tmps)=true:=by kernel_rfl):wpAny P md ops QE (fuel+1) listed a w:=
 Q9a i (some n) v hk hi hd hw (L0 t x vx v ho hx hr) h
theorem zqL (v:Value) {K:Act→World→Prop} {t:TypeId} {x:Operand} (ho:o.op=.load t x) (vx:Value) (hr:(Instr.loadAt t vx).run P w=.ok v w) (h:K (a.put o.dst v) w) (hx:a.eval x=vx:=by kernel_rfl):Oper.wp P o a w K QE:=
 J4 (L0 t x vx v ho hx hr) h
theorem zqo (i:Nat) (hi:ops.toList.drop i=oi::rs) (h:Oper.wp P oi a w (wpAny P md ops QE fuel (listed.setIfInBounds i true)) QE)
 (hr:Region.ready md ops listed=[i]:=by kernel_rfl) (hw:Region.wanted oi (yielded ops a.tmps)=true:=by kernel_rfl):wpAny P md ops QE (fuel+1) listed a w:=G7 i hr hi hw h
theorem zqt (i j:Nat) (hi:ops.toList.drop i=oi::rs) (hj:ops.toList.drop j=oj::rs2)
 (h1:Oper.wp P oi a w (wpAny P md ops QE fuel (listed.setIfInBounds i true)) QE) (h2:Oper.wp P oj a w (wpAny P md ops QE fuel (listed.setIfInBounds j true)) QE)
 (hr:Region.ready md ops listed=[i,j]:=by kernel_rfl) (hwi:Region.wanted oi (yielded ops a.tmps)=true:=by kernel_rfl) (hwj:Region.wanted oj (yielded ops a.tmps)=true:=by kernel_rfl):wpAny P md ops QE (fuel+1) listed a w:=Q5b i j hr hi hj hwi hwj h1 h2
theorem zqh (i j k:Nat) (hi:ops.toList.drop i=oi::rs) (hj:ops.toList.drop j=oj::rs2) (hk:ops.toList.drop k=ok::rs3)
 (h1:Oper.wp P oi a w (wpAny P md ops QE fuel (listed.setIfInBounds i true)) QE) (h2:Oper.wp P oj a w (wpAny P md ops QE fuel (listed.setIfInBounds j true)) QE) (h3:Oper.wp P ok a w (wpAny P md ops QE fuel (listed.setIfInBounds k true)) QE)
 (hr:Region.ready md ops listed=[i,j,k]:=by kernel_rfl) (hwi:Region.wanted oi (yielded ops a.tmps)=true:=by kernel_rfl) (hwj:Region.wanted oj (yielded ops a.tmps)=true:=by kernel_rfl) (hwk:Region.wanted ok (yielded ops a.tmps)=true:=by kernel_rfl):wpAny P md ops QE (fuel+1) listed a w:=Y0g i j k hr hi hj hk hwi hwj hwk h1 h2 h3
theorem zqK (i n:Nat) (hi:ops.toList.drop i=oi::rs) {f:FuncId} (vs:Array Value) {Post:Ending→World→Prop} (hc:Calls P f vs w Post)
 (h:∀ e w',Post e w'→∃ v,e=.returned v∧wpAny P md ops QE fuel (listed.setIfInBounds i true) (a.put (some n) v) w') (hrun:(execOp a.eval oi).run P w=.ok (.enter f vs) w:=by go_simp) (hd:oi.dst=some n:=by rfl)
 (hr:Region.ready md ops listed=[i]:=by kernel_rfl) (hw:Region.wanted oi (yielded ops a.tmps)=true:=by kernel_rfl):wpAny P md ops QE (fuel+1) listed a w:=
 Z3u i (some n) hr hi hd hw f vs hrun hc h
theorem zqX {a':Act} {l':Array Bool} (h:wpAny P md ops QE fuel listed a w) (e:a=a':=by kernel_rfl) (el:listed=l':=by kernel_rfl):wpAny P md ops QE fuel l' a' w:=by
 subst e el;exact h
theorem zqR {id:Nat} {l0:Array Bool} (n:Nat) (hl:Array.replicate n false=l0) (h:wpAny P .any ops QE n l0 a w.drew) (hn:ops.size=n:=by rfl) (hm:P.follows .mixedOrders=true:=by kernel_rfl):(Code.region id ops true).wp P QE a w:=
 Y5t n l0 hn hl hm h
end
open Tryz
theorem Y5s {o:Oper} {a:Act} {K:Act→World→Prop} {Q:Exit→Act→World→Prop} {w:World} {α:Type} (hgd:o.guard=none) (s x:Operand) (t e:TypeId)
 (ho:o.op=.call { callee:=.builtin .append,args:=#[s,x],argTypes:=#[t,t] })
 (ht:prog.underlying t=some (.slice e)) (z:Value) (f:α→List Value) (size bytes:Nat) (hinfo:(prog.info? e).map (fun i=>(i.zero,i.size,i.bytes))=some (some z,size,bytes)) (hzs:z.cells.size=size) (hsz:0 < size)
 (hm:∀ x,(f x).length=size) (h1:∀ x,∀ u∈f x,u.oneCell'=true)
 (base:Nat) (v:Value) (l:List α) (hs:a.eval s=v) (hown:w.ownsRow base e size v l.length (l.flatMap f))
 (v2:Value) (l2:List α) (hx:a.eval x=v2) (hrd:RdE f size w v2 l2)
 (hbytes:(l.length+l2.length) * bytes≤140737488355328) (hb1:1≤bytes) (hbase:base≤w.heap.size)
 (h:∀ v' w',w'.ownsRow base e size v' (l++l2).length ((l++l2).flatMap f)→(∀ B W,B≤base→Below B W w→Below B W w')→w.grownBy w' v.ownBlock→(v'.ownBlock=v.ownBlock∨v'.ownBlock=some w.heap.size)→K (a.put o.dst v') w'):
 Oper.wp prog o a w K Q:=by
 have hh:=H4 (P:=prog) (ops:=#[]) (E:=True) (Q:=Q) hgd s x t e ho ht z f size bytes hinfo hzs hsz hm h1 base v l hs hown v2 l2 hx hrd hbytes hb1 hbase h;rw [aK (by unfold Region.wanted;rw [hgd])] at hh;exact hh
theorem Z3 {α:Type} (f:α→List Value) (m:Nat) (_hm:∀ x,(f x).length=m) (w:World) (g:Nat) (hg:w.heap.size=g) (x:α) (t:TypeId):RdE f m (w.alloc (.cells (f x).toArray t)) (.slice (some ⟨g,0,none⟩) 1 1) [x]:=by
 subst hg;refine ⟨some ⟨w.heap.size,0,none⟩,1,rfl,by simp,(fun h=>by cases h),fun _=>⟨w.heap.size,0,rfl,by simp,fun i y j u hi hj=>?_⟩⟩;have ha:i=0:=by
  have:=(aM.1 hi).1;simpa using this
 subst ha;simp at hi;subst hi;have:=N4 w (f x) t j u hj;rw [eO] at this;simpa using this
theorem bx3 {w:World} {b:Nat} {v0 v1 v2:Value} {t:TypeId} (h:w.heap[b]? =some (.cells #[v0,v1,v2] t)):
 w.cell? ⟨b,0,none⟩=some v0∧w.cell? ⟨b,1,none⟩=some v1∧w.cell? ⟨b,2,none⟩=some v2∧w.frozen? ⟨b,0,none⟩=false∧w.frozen? ⟨b,1,none⟩=false∧w.frozen? ⟨b,2,none⟩=false:=
 ⟨by rw [bV _ _ 0 _ _ _ h];rfl,by rw [bV _ _ 1 _ _ _ h];rfl,by rw [bV _ _ 2 _ _ _ h];rfl,eP w b 0 _ _ h,eP w b 1 _ _ h,eP w b 2 _ _ h⟩
theorem W8 {w:World} {b:Nat} {cs:Array Value} {t:TypeId} (h:w.heap[b]? =some (.cells cs t)) (j:Nat) (u:Value):(w.setCell ⟨b,j,none⟩ u).heap[b]? =some (.cells (cs.setIfInBounds j u) t):=
 heap_setCell_same w b j _ _ _ h
theorem E4 {w:World} {b o:Nat} {x:fY} (h:w.cell? ⟨b,o,none⟩=some (.string x)):(Instr.loadAt 9 (.pointer (some ⟨b,o,none⟩))).run prog w=.ok (.string x) w:=by
 go_simp
theorem V8g:(prog.info? 31).map (·.size)=some 3:=by kernel_rfl
theorem V8p {w:World} {b o:Nat} {x:Int} (h:w.cell? ⟨b,o,none⟩=some (.int .i64 x)):(Instr.loadAt 3 (.pointer (some ⟨b,o,none⟩))).run prog w=.ok (.int .i64 x) w:=by
 go_simp
theorem Z5d {o:Oper} {a:Act} {w:World} (x y z:Operand) (k:Int) (s:fY) (d:Int) (ho:o.op=.build 31 #[(0,x),(1,y),(2,z)]) (hx:a.eval x=.int .i64 k) (hy:a.eval y=.string s) (hz:a.eval z=.int .i64 d):(execOp a.eval o).run prog w=.ok (.value (.agg #[.int .i64 k,.string s,.int .i64 d])) w:=by
 generalize a.eval=ρ at hx hy hz ⊢;unfold execOp;simp only [ho];go_simp
theorem Z5b {o:Oper} {a:Act} {w:World} (x:Operand) (k:Int) (s:fY) (d:Int) (ho:o.op=.buildSlice 24 1 #[(0,x)]) (hx:a.eval x=.agg #[.int .i64 k,.string s,.int .i64 d]):(execOp a.eval o).run prog w=.ok (.value (.slice (some ⟨w.heap.size,0,none⟩) 1 1)) (w.alloc (.cells #[.int .i64 k,.string s,.int .i64 d] 31)):=by
 generalize a.eval=ρ at hx ⊢;unfold execOp;simp only [ho];go_simp
def Z4b (w:World) (l:List Tk) (e:Ending) (w':World):Prop:=∃ v,e=.returned (.tuple #[v,.bool true])∧OwnE 31 tkC 3 w' w.heap.size v l∧Below w.heap.size w w'
theorem Z3a (f:List Tk) (v:Value) (p q:Nat) (w:World) (h1:RdT w v f) (hl:X3 f≤1000000000000000000) (hfl:f.length≤1000000) (hpq:p≤q) (hq:q≤X3 f):
 Calls prog 171 #[v,.int .i64 (p:Int),.int .i64 (q:Int)] w (Z4b w (slI f 0 p q)):=by
 obtain ⟨R,hS⟩:∃ R,yK (R=Z4b w (slI f 0 p q)):=⟨_,rfl⟩;rw [←hS.o];obtain ⟨A,c,rfl,_,_⟩:=h1.shape;have HL:=zW (Q7s f _ w h1 hl hfl);have H1:=zW h1;clear h1;have Hl:¬ (p:Int) < 0:=yY;have Hm:¬ (q:Int) < (p:Int):=yY;have Hn:(p:Int)≤(q:Int):=yY;obtain ⟨n,hn⟩:∃ n,yK (n=X3 f):=⟨_,rfl⟩;rw [←hn.o] at hl hq HL;have Hk:¬ (n:Int) < (q:Int):=yY;have Hg:decide (n < q)=false:=cD yY;go_enter func171,ntmps171
 go_upto_region 6 with (go_at_call 91;refine HL.o.mono ?_;rintro e w1 ⟨rfl,rfl⟩)
 obtain ⟨wo,hY⟩:∃ wo,yK (wo=w):=⟨w,rfl⟩;go_loopg [8,9,10,11,12,13,29] f.length (fun gk ov av iv xv a1 b1 jv wr=>∃ k at_:Nat,av=.int .i64 at_∧jv=.int .i64 k∧k≤f.length∧yK (at_=X3 (f.take k))∧yK (OwnE 31 tkC 3 wr w.heap.size ov (slI (f.take k) 0 p q))∧yK (Below w.heap.size w wr)∧f.length - k≤gk)
 case atStart=>exact ⟨0,0,rfl,rfl,aO _,by (show _=_);rw [cW];rfl,OwnE.nil,aB _ _,yY⟩
 case round=>
  clear hY;obtain ⟨k,a0,rfl,rfl,hk,HA,HO,HB,hgk⟩:=hrel;by_cases hkl:k < f.length
  ·have Hj:(k:Int) < (f.length:Int):=yY;have Hi:(0:Int)≤(k:Int):=yY;obtain ⟨b,o,rfl,hM,q1,q2,q3⟩:=RdT.at_ H1.o k hkl;have Ho:=HB.o.size;rw [←HB.o.cell (p:=⟨b,o+k * 3,none⟩) hM] at q1;rw [←HB.o.cell (p:=⟨b,o+k * 3+1,none⟩) hM] at q2;rw [←HB.o.cell (p:=⟨b,o+k * 3+2,none⟩) hM] at q3;have Ha:b < wr.heap.size:=yY;have hr:=Q5q f (k+1);have hc:=zW (Z0g f p q k hkl);have hi:=zW (R2 f k hkl);rw [hi.o,←HA.o] at hr;rw [←HA.o] at hc hi;have hO:=X6m (f.take k) 0 p q;rw [bG] at hO;obtain ⟨Ao,co,hW⟩:=Q0 HO.o;generalize hol0:(slI (f.take k) 0 p q).length=no at hW hO;subst hW;have he:=zW hol0;clear hol0;have Hh:no≤1000000:=yY;clear hO;generalize f[k]=x at q1 q2 q3 hc hi hr;obtain ⟨xk,xt,xd⟩:=x;simp only at q1 q2 q3;rw [←hn.o] at hr;have hI:=zW ((aB wr.heap.size wr).alloc yQ (.cells #[.int .i64 xk,.string xt,.int .i64 xd] 31));have HX:yK ((wr.alloc (.cells #[.int .i64 xk,.string xt,.int .i64 xd] 31)).heap[wr.heap.size]? =some (.cells #[.int .i64 xk,.string xt,.int .i64 xd] 31)):=aT wr _;go_upto_region 9 with fail
   generalize wr.alloc (.cells #[.int .i64 xk,.string xt,.int .i64 xd] 31)=w1 at hI HX ⊢;obtain ⟨g,hg⟩:∃ g,yK (g=wr.heap.size):=⟨_,rfl⟩;rw [←hg.o] at HX ⊢;have hV:g < w1.heap.size:=(aN.1 HX.o).1;have Hp:wr.heap.size≤g:=fP hg.o.symm;clear q1 q2 q3;obtain ⟨x0,x1,x2,_⟩:=bx3 HX.o;have hw:=zW (U1 HO.o hI.o yQ);have hs:=zW (HB.o.trans (hI.o.mono HB.o.size));have hQ:=hs.o.size;unfold pcI at hc;unfold wdI at hi hr;simp only at hc hi hr;by_cases hx:xk=1
   ·subst hx;have t1:((1:Int) != 1)=false:=rfl;simp only [ne_eq,not_true_eq_false,if_false,if_true] at hc hi hr;have Hq:xt.size≤1000000000000000000:=yY;have hZ:a0≤1000000000000000000:=yY;have hJ:yK (w1.drew.heap[g]? =some (.cells #[.int .i64 1,.string xt,.int .i64 xd] 31)):=HX.o;have hz:=zW (U1 hw.o (Q1 (aB w1.heap.size w1) 1) yQ);have ht:=zW (Q1 hs.o 1);have hp:g < w1.drew.heap.size:=hV;have hX:w.heap.size≤w1.drew.heap.size:=hQ;change yK (OwnE 31 tkC 3 w1.drew w.heap.size _ _) at hz
    change yK (Below w.heap.size w w1.drew) at ht
    have hR:yK (∀ k,(Value.slice Ao no co).ownBlock=some k→k < g):=fun k hk=>by have:=(HO.o.lt k hk).2;omega
    go_upto_region 13 with fail
    go_region
    clear HX x0 x1 x2 hw hs hV hQ HO HB hI;generalize w1.drew=w2 at hJ hz ht hp hX ⊢;obtain ⟨x0,x1,x2,_⟩:=bx3 hJ.o;have hj:yK (a0+xt.size=X3 (f.take (k+1))):=hi.o.symm;generalize hca:max p a0 - a0=ca at hc;rw [show max (p:Int) (a0:Int) - (a0:Int)=(ca:Int) by omega];by_cases hqa:a0≤q
    ·generalize hcb:min q (a0+xt.size) - a0=cb at hc;rw [show min (q:Int) ((a0:Int)+(xt.size:Int)) - (a0:Int)=(cb:Int) by omega];have He:cb≤xt.size:=yY;clear hca hcb;by_cases hab:ca < cb
     ·have hF:(ca:Int) < (cb:Int):=yY;rw [aK hab] at hc;have Hd:(cb:Int)≤(xt.size:Int):=yY;have hU:(ca:Int)≤(cb:Int):=yY;have Hb:(0:Int)≤(ca:Int):=yY;have Hc:(0:Int)≤(cb:Int):=yY;go_upto_region 15 with fail
      obtain ⟨y,hy⟩:∃ y,yK (y=xt.extract ca cb):=⟨_,rfl⟩;have hT:yK (∀ W:World,(Instr.sliceAt 9 (.string xt) (some (.int .i64 (ca:Int))) (some (.int .i64 (cb:Int))) none).run prog W=.ok (.string y) W):=fun W=>by
       rw [hy.o];go_simp
      have hG:yK ((Instr.loadAt 9 (.pointer (some ⟨g,1,none⟩))).run prog w2.drew=.ok (.string xt) w2.drew):=E4 x1;have hH:yK ((Instr.loadAt 3 (.pointer (some ⟨g,2,none⟩))).run prog w2.drew=.ok (.int .i64 xd) w2.drew):=V8p x2;have hu:=zW (Q1 ht.o 1);change yK (Below w.heap.size w w2.drew) at hu
      have hA:=zW (U1 hz.o (Q1 (aB w2.heap.size w2) 1) yQ);change yK (OwnE 31 tkC 3 w2.drew w.heap.size _ _) at hA
      have hK:w.heap.size≤w2.drew.heap.size:=hX;rw [←hy.o] at hc;refine zqR (l0:=#[false,false,false,false,false,false,false,false,false,false,false,false]) 12 rfl ?_;refine zqM 0 70 (.slice Ao no co) rfl ?_;refine zqF 1 71 (.pointer (some ⟨g,1,none⟩)) rfl rfl (.pointer (some ⟨g,0,none⟩)) ?_;refine zqM 3 73 (.int .i64 (ca:Int)) rfl ?_;refine zqM 4 74 (.int .i64 (cb:Int)) rfl ?_;refine zqF 6 76 (.pointer (some ⟨g,2,none⟩)) rfl rfl (.pointer (some ⟨g,0,none⟩)) ?_;simp only [Act.put,zZ,zY,zX];refine zqt 2 7 rfl rfl ?_ ?_
      ·refine zqL (.string xt) rfl (.pointer (some ⟨g,1,none⟩)) (hG.o) ?_;simp only [Act.put,zZ,zY,zX];refine zzA 5 (.string y) (some 75) rfl (fun _=>X1j 9 _ _ _ (.string xt) _ (some (.int .i64 (ca:Int))) (some (.int .i64 (cb:Int))) rfl yZ yZ yZ (hT.o _)) ?_;simp only [Act.put,zZ,zY,zX];refine zqV 7 77 (.int .i64 xd) rfl rfl (.pointer (some ⟨g,2,none⟩)) (hH.o) ?_;simp only [Act.put,zZ,zY,zX];refine zzA 8 (.agg #[.int .i64 1,.string y,.int .i64 xd]) (some 78) rfl (fun _=>Z5d (.const (.int .i64 1)) (.tmp 75) (.tmp 77) 1 y xd rfl rfl yZ yZ) ?_;simp only [Act.put,zZ,zY,zX];have hD:yK (w2.drew.heap[g]? =some (.cells #[.int .i64 1,.string xt,.int .i64 xd] 31)):=hJ.o;have hh:g < w2.drew.heap.size:=hp;clear hG hH;generalize w2.drew=w3 at hu hA hK hD hh ⊢;have hB:=zW (U1 hA.o ((aB w3.heap.size w3).alloc yQ (.cells (tkC ⟨1,y,xd⟩).toArray 31)) yQ);refine X0p 9 (some 79) (.slice (some ⟨w3.heap.size,0,none⟩) 1 1) (w3.alloc (.cells (tkC ⟨1,y,xd⟩).toArray 31)) yZ rfl rfl yZ (Z5b (.tmp 78) 1 y xd rfl yZ) ?_;simp only [Act.put,zZ,zY,zX];refine zqo 10 rfl ?_;refine Y5s rfl (.tmp 70) (.tmp 79) 24 31 rfl underlying24 _ tkC 3 32 Z8 rfl yX Q5 D4 w.heap.size (.slice Ao no co) (slI (f.take k) 0 p q) rfl hB.o (.slice (some ⟨w3.heap.size,0,none⟩) 1 1) [⟨1,y,xd⟩] rfl (Z3 tkC 3 Q5 w3 _ rfl ⟨1,y,xd⟩ 31) (by rw [he.o,bZ];omega) yX yV ?_;intro v9 w9 ha hb hd hf;obtain ⟨A9,c9,ho⟩:=Q0 ha;rw [aA,he.o] at ho;subst ho;have hC:yK (OwnE 31 tkC 3 w9 w.heap.size (.slice A9 (no+1) c9) (slI (f.take (k+1)) 0 p q)):=by
        show OwnE _ _ _ _ _ _ _;rw [hc.o];exact ha
       have hm:=hb w.heap.size (w3.alloc (.cells (tkC ⟨1,y,xd⟩).toArray 31)) yQ (aB _ _);have hv:=zW ((hu.o.alloc hK (.cells (tkC ⟨1,y,xd⟩).toArray 31)).trans hm);show wpAny _ _ _ _ _ _ (Act.put _ (some 80) (.slice A9 (no+1) c9)) w9;refine zqG 11 8 (.slice A9 (no+1) c9) rfl ?_;refine bW yZ ?_ _;simp only [Act.put,zZ,zY,zX];have hE:yK (w9.heap[g]? =some (.cells #[.int .i64 1,.string xt,.int .i64 xd] 31)):=(hd.block g yV (fun e=>by have:=hR.o g e.symm;omega)).trans ((bE w3 _ g hh).trans hD.o);have hN:g < w9.heap.size:=(aN.1 hE.o).1;have y1:=(bx3 hE.o).2.1;clear ha hb hd hf hm x0 x1 x2;go_wp2_with fail
       go_roundg (f.length - (k+1))
       case measure=>omega
       case rel=>exact ⟨k+1,a0+xt.size,rfl,rfl,yY,hj.o,hC.o,hv.o,yY⟩
      ·refine zqL (.int .i64 xd) rfl (.pointer (some ⟨g,2,none⟩)) (hH.o) ?_;simp only [Act.put,zZ,zY,zX];refine zqV 2 72 (.string xt) rfl rfl (.pointer (some ⟨g,1,none⟩)) (hG.o) ?_;simp only [Act.put,zZ,zY,zX];refine zzA 5 (.string y) (some 75) rfl (fun _=>X1j 9 _ _ _ (.string xt) _ (some (.int .i64 (ca:Int))) (some (.int .i64 (cb:Int))) rfl yZ yZ yZ (hT.o _)) ?_;refine zzA 8 (.agg #[.int .i64 1,.string y,.int .i64 xd]) (some 78) rfl (fun _=>Z5d (.const (.int .i64 1)) (.tmp 75) (.tmp 77) 1 y xd rfl rfl yZ yZ) ?_;simp only [Act.put,zZ,zY,zX];have hD:yK (w2.drew.heap[g]? =some (.cells #[.int .i64 1,.string xt,.int .i64 xd] 31)):=hJ.o;have hh:g < w2.drew.heap.size:=hp;clear hG hH;generalize w2.drew=w3 at hu hA hK hD hh ⊢;have hB:=zW (U1 hA.o ((aB w3.heap.size w3).alloc yQ (.cells (tkC ⟨1,y,xd⟩).toArray 31)) yQ);refine X0p 9 (some 79) (.slice (some ⟨w3.heap.size,0,none⟩) 1 1) (w3.alloc (.cells (tkC ⟨1,y,xd⟩).toArray 31)) yZ rfl rfl yZ (Z5b (.tmp 78) 1 y xd rfl yZ) ?_;simp only [Act.put,zZ,zY,zX];refine zqo 10 rfl ?_;refine Y5s rfl (.tmp 70) (.tmp 79) 24 31 rfl underlying24 _ tkC 3 32 Z8 rfl yX Q5 D4 w.heap.size (.slice Ao no co) (slI (f.take k) 0 p q) rfl hB.o (.slice (some ⟨w3.heap.size,0,none⟩) 1 1) [⟨1,y,xd⟩] rfl (Z3 tkC 3 Q5 w3 _ rfl ⟨1,y,xd⟩ 31) (by rw [he.o,bZ];omega) yX yV ?_;intro v9 w9 ha hb hd hf;obtain ⟨A9,c9,ho⟩:=Q0 ha;rw [aA,he.o] at ho;subst ho;have hC:yK (OwnE 31 tkC 3 w9 w.heap.size (.slice A9 (no+1) c9) (slI (f.take (k+1)) 0 p q)):=by
        show OwnE _ _ _ _ _ _ _;rw [hc.o];exact ha
       have hm:=hb w.heap.size (w3.alloc (.cells (tkC ⟨1,y,xd⟩).toArray 31)) yQ (aB _ _);have hv:=zW ((hu.o.alloc hK (.cells (tkC ⟨1,y,xd⟩).toArray 31)).trans hm);show wpAny _ _ _ _ _ _ (Act.put _ (some 80) (.slice A9 (no+1) c9)) w9;refine zqG 11 8 (.slice A9 (no+1) c9) rfl ?_;refine bW yZ ?_ _;simp only [Act.put,zZ,zY,zX];have hE:yK (w9.heap[g]? =some (.cells #[.int .i64 1,.string xt,.int .i64 xd] 31)):=(hd.block g yV (fun e=>by have:=hR.o g e.symm;omega)).trans ((bE w3 _ g hh).trans hD.o);have hN:g < w9.heap.size:=(aN.1 hE.o).1;have y1:=(bx3 hE.o).2.1;clear ha hb hd hf hm x0 x1 x2;go_wp2_with fail
       go_roundg (f.length - (k+1))
       case measure=>omega
       case rel=>exact ⟨k+1,a0+xt.size,rfl,rfl,yY,hj.o,hC.o,hv.o,yY⟩
     ·have hF:¬ (ca:Int) < (cb:Int):=yY;rw [aE hab,aX] at hc;go_wp2_with fail
      go_roundg (f.length - (k+1))
      case measure=>omega
      case rel=>exact ⟨k+1,a0+xt.size,rfl,rfl,yY,hj.o,by (rw [hc.o];exact hz.o),ht.o,yY⟩
    ·rw [aE yY,aX] at hc;have Hf:min (q:Int) ((a0:Int)+(xt.size:Int)) - (a0:Int) < 0:=yY;generalize min (q:Int) ((a0:Int)+(xt.size:Int)) - (a0:Int)=cb at Hf ⊢;have hF:¬ (ca:Int) < cb:=yY;clear hca;go_wp2_with fail
     go_roundg (f.length - (k+1))
     case measure=>omega
     case rel=>exact ⟨k+1,a0+xt.size,rfl,rfl,yY,hj.o,by (rw [hc.o];exact hz.o),ht.o,yY⟩
   ·have t1:(xk != 1)=true:=(by simpa using hx);rw [aK hx] at hc;rw [aE hx] at hi hr;have hj:yK (a0+1=X3 (f.take (k+1))):=hi.o.symm;have hZ:a0≤1000000000000000000:=yY;by_cases hpa:p≤a0
    ·have hP:(p:Int)≤(a0:Int):=yY;by_cases haq:a0 < q
     ·have hL:(a0:Int) < (q:Int):=yY;rw [aK ⟨hpa,haq⟩] at hc;have hB:=zW (U1 hw.o ((aB w1.heap.size w1).alloc yQ (.cells (tkC ⟨xk,xt,xd⟩).toArray 31)) yQ);go_wp2_with (first
       | (refine wpList_load_row rfl 31 (.tmp 11) rfl g rfl 31 #[.int .i64 xk,.string xt,.int .i64 xd] (0,0) _ HX.o underlying31 rfl (by rw [V8g];rfl) ?_)
       | (at_builtin;refine X3d rfl (.tmp 47) (.tmp 49) 24 31 rfl underlying24 _ tkC 3 32 Z8 rfl yX Q5 D4 w.heap.size (.slice Ao no co) (slI (f.take k) 0 p q) rfl hB.o (.slice (some ⟨w1.heap.size,0,none⟩) 1 1) [⟨xk,xt,xd⟩] rfl (Z3 tkC 3 Q5 w1 _ rfl ⟨xk,xt,xd⟩ 31) (by rw [he.o,bZ];omega) yX yV ?_;intro v9 w9 ha hb hd hf;obtain ⟨A9,c9,ho⟩:=Q0 ha;rw [aA,he.o] at ho;subst ho))
      have hC:yK (OwnE 31 tkC 3 w9 w.heap.size (.slice A9 (no+1) c9) (slI (f.take (k+1)) 0 p q)):=by
       show OwnE _ _ _ _ _ _ _;rw [hc.o];exact ha
      have hm:=hb w.heap.size (w1.alloc (.cells (tkC ⟨xk,xt,xd⟩).toArray 31)) yQ (aB _ _);have hv:=zW ((hs.o.alloc hQ (.cells (tkC ⟨xk,xt,xd⟩).toArray 31)).trans hm);clear ha hb hd hf hm;go_wp2_with fail
      go_roundg (f.length - (k+1))
      case measure=>omega
      case rel=>exact ⟨k+1,a0+1,rfl,rfl,yY,hj.o,hC.o,hv.o,yY⟩
     ·have hL:¬ (a0:Int) < (q:Int):=yY;rw [aE (fun h=>haq h.2),aX] at hc;go_wp2_with fail
      go_roundg (f.length - (k+1))
      case measure=>omega
      case rel=>exact ⟨k+1,a0+1,rfl,rfl,yY,hj.o,by (rw [hc.o];exact hw.o),hs.o,yY⟩
    ·have hP:¬ (p:Int)≤(a0:Int):=yY;rw [aE (fun h=>hpa h.1),aX] at hc;go_wp2_with fail
     go_roundg (f.length - (k+1))
     case measure=>omega
     case rel=>exact ⟨k+1,a0+1,rfl,rfl,yY,hj.o,by (rw [hc.o];exact hw.o),hs.o,yY⟩
  ·obtain rfl:k=f.length:=yY;go_wp2_with fail
   rw [hS.o];refine ⟨_,rfl,?_,HB.o⟩;have h:=HO.o;rw [aW] at h;exact h
theorem Z8c (x:At):Instr.fill (fun i=>some (i * 34,34)) ((Array.range (1 * 34)).map ((Value.agg (atC ⟨noP,0,false⟩).toArray).cells[· % (Value.agg (atC ⟨noP,0,false⟩).toArray).cells.size]!)) [(0,.agg (atC x).toArray)]=some (atC x).toArray:=by kernel_rfl
theorem Y0y:(prog.info? 107).map (fun i=>(i.zero,i.size,i.bytes))=some (some (.agg (atC ⟨noP,0,false⟩).toArray),34,48):=by kernel_rfl
def AtIn (w:World) (g:Nat) (x:At):Prop:=w.heap[g]? =some (.cells (atC x).toArray 107)
theorem AtIn.setMn {w:World} {g:Nat} {p:Nat→Bool} {mn:Int} {many:Bool} (h:AtIn w g ⟨p,mn,many⟩) (k:Int):AtIn (w.setCell ⟨g,32,none⟩ (.int .i64 k)) g ⟨p,k,many⟩:=by
 unfold AtIn at *;rw [heap_setCell_same w g 32 _ _ _ h];rfl
theorem X5w (w:World):AtIn (w.alloc (.cells #[.int .u8 0,.int .u8 0,.int .u8 0,.int .u8 0,.int .u8 0,.int .u8 0,.int .u8 0,.int .u8 0,.int .u8 0,.int .u8 0,.int .u8 0,.int .u8 0,.int .u8 0,.int .u8 0,.int .u8 0,.int .u8 0,.int .u8 0,.int .u8 0,.int .u8 0,.int .u8 0,.int .u8 0,.int .u8 0,.int .u8 0,.int .u8 0,.int .u8 0,.int .u8 0,.int .u8 0,.int .u8 0,.int .u8 0,.int .u8 0,.int .u8 0,.int .u8 0,.int .i64 0,.bool false] 107)) w.heap.size ⟨noP,0,false⟩:=by
 have e:(#[.int .u8 0,.int .u8 0,.int .u8 0,.int .u8 0,.int .u8 0,.int .u8 0,.int .u8 0,.int .u8 0,.int .u8 0,.int .u8 0,.int .u8 0,.int .u8 0,.int .u8 0,.int .u8 0,.int .u8 0,.int .u8 0,.int .u8 0,.int .u8 0,.int .u8 0,.int .u8 0,.int .u8 0,.int .u8 0,.int .u8 0,.int .u8 0,.int .u8 0,.int .u8 0,.int .u8 0,.int .u8 0,.int .u8 0,.int .u8 0,.int .u8 0,.int .u8 0,.int .i64 0,.bool false]:Array Value)=(atC ⟨noP,0,false⟩).toArray:=yZ;rw [e];exact aT w _
theorem AtIn.row {w:World} {g:Nat} {x:At} (h:AtIn w g x) (y:At):AtIn (w.setRow g (atC y).toArray) g y:=setRow_heap w g _ _ _ _ h
theorem Q3y:(prog.info? 107).map (·.size)=some 34:=by kernel_rfl
theorem X0u (x:At):(atC x).toArray.size=34:=by rw [List.size_toArray,G2]
theorem Q3x (x:At):(atC x).toArray.all (·.oneCell')=true:=by
 rw [dS];intro v hv;have h:=List.mem_toArray.1 hv;unfold atC at h;rcases aS.1 h with h | h
 ·have:=(dS.1 (V5l x.p)) v (List.mem_toArray.2 h);exact this
 ·simp at h;rcases h with rfl | rfl<;>rfl
theorem AtIn.mn {w:World} {g:Nat} {x:At} (h:AtIn w g x):w.cell? ⟨g,32,none⟩=some (.int .i64 x.mn):=by
 rw [bV _ _ _ _ _ _ h];simpa using U0u x
theorem AtIn.many {w:World} {g:Nat} {x:At} (h:AtIn w g x):w.cell? ⟨g,33,none⟩=some (.bool x.many):=by
 rw [bV _ _ _ _ _ _ h];simpa using V1f x
theorem AtIn.free {w:World} {g:Nat} {x:At} (h:AtIn w g x) (k:Nat):w.frozen? ⟨g,k,none⟩=false:=eP w g k _ _ h
theorem AtIn.keep {w w':World} {g:Nat} {x:At} (h:AtIn w g x) (e:w'.heap[g]? =w.heap[g]?):AtIn w' g x:=e.trans h
theorem V6w (x:At):∀ u∈atC x,u.oneCell'=true:=fun u hu=>(dS.1 (Q3x x)) u (List.mem_toArray.2 hu)
theorem Q6h {ops:Array Oper} {rest:List Oper} {o:Oper} {a:Act} {w:World} {Q:Exit→Act→World→Prop} (hg:o.guard=none) (x:Operand) (ho:o.op=.buildSlice 108 1 #[(0,x)]) (y:At) (hx:a.eval x=.agg (atC y).toArray)
 (h:wpList prog ops Q rest (a.put o.dst (.slice (some ⟨w.heap.size,0,none⟩) 1 1)) (w.alloc (.cells (atC y).toArray 107))):wpList prog ops Q (o::rest) a w:=by
 obtain ⟨i,hi,hz,ha,hb⟩:=fF Y0y;refine wpList_buildSlice hg 108 107 1 #[(0,x)] ho (atC y).toArray i _ underlying108 hi hz (by rw [ha];decide) (by rw [ha];decide) ?_ h;rw [ha];simp only [List.map_toArray,cA,eM,hx];exact Z8c y
theorem AtIn.range {w:World} {g:Nat} {x:At} (h:AtIn w g x):w.rangeAt g 0 (atC x):=fun j v hj=>by
 rw [bI,bV _ _ _ _ _ _ h];simpa using hj
theorem Q8b:(prog.info? 4).map (fun i=>(i.zero,i.size,i.bytes))=some (some (.bool false),1,1):=by kernel_rfl
def U2v (w:World) (n:Nat) (f:Nat→Bool) (e:Ending) (w':World):Prop:=
 ∃ g,e=.returned (.slice (some ⟨g,0,none⟩) n n)∧w.heap.size≤g∧w'.rowIs g 4 n (fun j=>.bool (f j))∧Below w.heap.size w w'
def Q3i (b:Bool):List Value:=[.bool b]
theorem Z7g (b:Bool):(Q3i b).length=1:=rfl
theorem Y1d (b:Bool):∀ u∈Q3i b,u.oneCell'=true:=by
 intro u hu;simp [Q3i] at hu;subst hu;rfl
def spF (f:List Tk):List Bool:=(sqF f).map (·.2)
theorem V5p (f:List Tk) (k:Nat) (h:k < f.length):spF (f.take (k+1))=spF (f.take k)++(sqI f[k]).map (·.2):=by
 unfold spF;rw [aH h,X2r,cP,Q8w]
theorem Y5h (f:List Tk):(spF f).length=X3 f:=by unfold spF;rw [bA,Q8v]
theorem V5t (t:fY) (d:Int):(sqI ⟨1,t,d⟩).map (·.2)=t.data.toList.map Q3e:=by
 unfold sqI;rw [aK rfl,fQ];rfl
theorem V0n (k:Int) (t:fY) (d:Int) (h:k≠1):(sqI ⟨k,t,d⟩).map (·.2)=[false]:=by
 unfold sqI;rw [aE h];split<;>rfl
theorem Y0v (s:fY) (i:Nat) (h:i < s.size):(s.data.toList.map Q3e).take (i+1)=(s.data.toList.map Q3e).take i++[Q3e s[i]]:=by
 rw [aH (by simpa using h)];congr 1;simp only [eS];rfl
theorem Y1 {w:World} {B:Nat} {e:TypeId} {size:Nat} {v:Value} {n:Nat} {xs:List Value} (h:w.ownsRow B e size v n xs) {q:Nat} {cs:Array Value} {t:TypeId} (hq:w.heap[q]? =some (.cells cs t)) (ht:t≠e):∀ g,v.ownBlock=some g→g≠q:=by
 rintro g hg rfl;rcases h.2 with ⟨rfl,_⟩ | ⟨g',cap,cur,rfl,_,hh,_⟩
 ·cases hg
 ·injection hg with hg;subst hg;rw [hq] at hh;injection hh with hh;injection hh with _ h2 _;exact ht h2
theorem Z0x (f:List Tk) (v:Value) (w:World) (h1:RdT w v f) (hl:X3 f≤1000000000) (hfl:f.length≤1000000):
 Calls prog 63 #[v] w (N6 4 Q3i 1 w (spF f)):=by
 obtain ⟨R,hy⟩:∃ R,yK (R=N6 4 Q3i 1 w (spF f)):=⟨_,rfl⟩;rw [←hy.o];obtain ⟨A,c,rfl,_,_⟩:=h1.shape;have H1:=zW h1;clear h1;go_enter func63,ntmps63
 go_wp2_with fail
 obtain ⟨wo,hp⟩:∃ wo,yK (wo=w):=⟨w,rfl⟩;go_loopg [3,5,6,9] f.length (fun gk ov xv iv jv wr=>∃ k:Nat,jv=.int .i64 k∧k≤f.length∧yK (OwnE 4 Q3i 1 wr w.heap.size ov (spF (f.take k)))∧yK (Below w.heap.size w wr)∧f.length - k≤gk)
 case atStart=>exact ⟨0,rfl,aO _,by (show OwnE _ _ _ _ _ _ _);rw [cW];exact OwnE.nil,aB _ _,yY⟩
 case round=>
  clear hp;obtain ⟨k,rfl,hk,HO,HB,hgk⟩:=hrel;by_cases hkl:k < f.length
  ·have hT:(k:Int) < (f.length:Int):=yY;have hS:(0:Int)≤(k:Int):=yY;obtain ⟨b,o,rfl,hr,q1,q2,q3⟩:=RdT.at_ H1.o k hkl;have hM:=HB.o.size;rw [←HB.o.cell (p:=⟨b,o+k * 3,none⟩) hr] at q1;rw [←HB.o.cell (p:=⟨b,o+k * 3+1,none⟩) hr] at q2;rw [←HB.o.cell (p:=⟨b,o+k * 3+2,none⟩) hr] at q3;have hI:b < wr.heap.size:=yY;have hJ:=Q5q f (k+1);have he:=R2 f k hkl;have ha:=zW (V5p f k hkl);have hC:=Y5h (f.take k);have hf:=Y5h (f.take (k+1));obtain ⟨Ao,co,hs⟩:=Q0 HO.o;generalize hl0:spF (f.take k)=l0 at HO hs ha hC;generalize hl1:spF (f.take (k+1))=l1 at ha hf;subst hs;have hU:l0.length≤1000000000:=yY;have hK:l1.length≤1000000000:=yY;have hv:=zW hl1;clear hl0 hl1 hC hf;generalize f[k]=x at q1 q2 q3 ha he;obtain ⟨xk,xt,xd⟩:=x;simp only at q1 q2 q3;have hu:xk=1→xt.size≤1000000000:=fun e=>by
    have:wdI ⟨xk,xt,xd⟩=xt.size:=(by unfold wdI;rw [aK e]);omega
   have HX:yK ((wr.alloc (.cells #[.int .i64 xk,.string xt,.int .i64 xd] 31)).heap[wr.heap.size]? =some (.cells #[.int .i64 xk,.string xt,.int .i64 xd] 31)):=aT wr _;have hb:=zW (HB.o.alloc hM (.cells #[.int .i64 xk,.string xt,.int .i64 xd] 31));have hj:=zW (aD HO.o (.cells #[.int .i64 xk,.string xt,.int .i64 xd] 31));clear hJ he;go_upto_region 5 with fail
   generalize wr.alloc (.cells #[.int .i64 xk,.string xt,.int .i64 xd] 31)=w3 at HX hb hj ⊢;obtain ⟨q,hq⟩:∃ q,yK (q=wr.heap.size):=⟨_,rfl⟩;rw [←hq.o] at HX ⊢;have ht:q < w3.heap.size:=(aN.1 HX.o).1;clear q1 q2 q3;obtain ⟨x0,x1,x2,_⟩:=bx3 HX.o;have hh:yK (∀ g,(Value.slice Ao l0.length co).ownBlock=some g→g < q):=fun g hg=>by have:=(HO.o.lt g hg).2;rw [hq.o];exact this
   have hE:=hb.o.size;by_cases hx:xk=1
   ·subst hx;have hN:=hu rfl;rw [V5t] at ha;have t1:((1:Int) != 1)=false:=rfl;clear hu;go_upto_region 8 with fail
    obtain ⟨wo,hp⟩:∃ wo,yK (wo=w3):=⟨w3,rfl⟩;go_loopg [3,6] xt.size (fun gk ov iv wx=>∃ i:Nat,iv=.int .i64 i∧i≤xt.size∧yK (OwnE 4 Q3i 1 wx w.heap.size ov (l0++(xt.data.toList.map Q3e).take i))∧yK (Below w.heap.size w wx)∧yK (wx.heap[q]? =some (.cells #[.int .i64 1,.string xt,.int .i64 xd] 31))∧yK (∀ g,ov.ownBlock=some g→g≠q)∧xt.size - i≤gk)
    case atStart=>exact ⟨0,rfl,aO _,by (show OwnE _ _ _ _ _ _ _);rw [cW,aX];exact hj.o,hb.o,HX.o,fun g hg=>by have:=hh.o g hg;omega,yY⟩
    case round=>
     clear hp hj hb HX hh ht x0 x1 x2 hE;obtain ⟨i,rfl,hi,hd,hn,HX,hh,hP⟩:=hrel;obtain ⟨x0,x1,x2,_⟩:=bx3 HX.o;have ht:q < wr.heap.size:=(aN.1 HX.o).1;have hO:=hn.o.size;by_cases hil:i < xt.size
     ·have hR:(i:Int) < (xt.size:Int):=yY;have hQ:(0:Int)≤(i:Int):=yY;have hz:=zW (Y0v xt i hil);have hH:xt[i].toNat < 256:=xt[i].toNat_lt;have hw:=zW (fun w'=>X8s (xt[i].toNat:Int) w' yY yY);obtain ⟨bb,hB⟩:∃ bb:Bool,yK (Q3e xt[i]=bb):=⟨Q3e xt[i],rfl⟩;have t5:(Q6i (xt[i].toNat:Int)==2)=bb:=(by rw [←hB.o];rfl);rw [hB.o] at hz;generalize hzz:Q6i (xt[i].toNat:Int)=zz at hw t5;obtain ⟨Ax,cx,hD⟩:=Q0 hd.o;have hL:(l0++(xt.data.toList.map Q3e).take i).length≤1000000000:=by
       have:=congrArg List.length ha.o;rw [aA] at this ⊢;rw [bG];simp only [bA] at this ⊢;omega
      generalize hlq:l0++(xt.data.toList.map Q3e).take i=lq at hd hD hL;subst hD;have hF:=zW hlq;clear hlq hzz;have ho:yK (lq++[bb]=l0++(xt.data.toList.map Q3e).take (i+1)):=by
       show _=_;rw [hz.o,←hF.o,aZ]
      go_wp2_with (first
       | (go_at_call 97;refine (hw.o _).mono ?_;rintro e w4 ⟨rfl,rfl⟩)
       | (at_builtin;go_must (refine Z7 rfl (.tmp 26) (.tmp 33) 134 4 rfl underlying134 _ 1 1 Q8b rfl yX w.heap.size _ lq.length (lq.flatMap Q3i) rfl (by exact aD hd.o _) ⟨wr.heap.size,0,none⟩ 1 (Q3i bb) rfl rfl (by exact N4 _ _ _) (Y1d _) yY yX yV ?_);intro g9 cap9 w9 hown9 hg9 hbel9 hgr9))
      have hc:=zW (OwnE.snoc (f:=Q3i) (l:=lq) (x:=bb) hown9);have hm:=zW (hbel9 _ _ yQ (hn.o.alloc hO (.cells (Q3i bb).toArray 4)));have hA:yK (w9.heap[q]? =some (.cells #[.int .i64 1,.string xt,.int .i64 xd] 31)):=(hgr9.block q yV (fun e=>hh.o q e.symm rfl)).trans ((bE wr _ q ht).trans HX.o);have hG:yK (∀ g,(Value.slice (some ⟨g9,0,none⟩) (lq.length+1) cap9).ownBlock=some g→g≠q):=Y1 hown9 hA.o yX;rw [ho.o] at hc;clear hown9 hbel9 hgr9;go_wp2_with fail
      go_roundg (xt.size - (i+1))
      case measure=>omega
      case rel=>exact ⟨i+1,rfl,yY,hc.o,hm.o,hA.o,hG.o,yY⟩
     ·obtain rfl:i=xt.size:=yY;rw [bP yW,←ha.o] at hd;go_wp2_with fail
      go_roundg (f.length - (k+1))
      case measure=>omega
      case rel=>exact ⟨k+1,rfl,yY,by (show OwnE _ _ _ _ _ _ _);rw [hv.o];exact hd.o,hn.o,yY⟩
   ·have t1:(xk != 1)=true:=(by simpa using hx);rw [V0n _ _ _ hx] at ha;clear hu;go_wp2_with (at_builtin;refine Z7 rfl (.tmp 16) (.tmp 17) 134 4 rfl underlying134 _ 1 1 Q8b rfl yX w.heap.size _ _ _ rfl (by exact aD hj.o _) ⟨w3.heap.size,0,none⟩ 1 (Q3i false) rfl rfl (by exact N4 _ _ _) (Y1d _) yY yX yV ?_;intro g9 cap9 w9 hown9 hg9 hbel9 hgr9)
    have hc:=zW (OwnE.snoc (f:=Q3i) (l:=l0) (x:=false) hown9);have hm:=zW (hbel9 _ _ yQ (hb.o.alloc hE (.cells (Q3i false).toArray 4)));rw [←ha.o] at hc;clear hown9 hbel9 hgr9;go_roundg (f.length - (k+1))
    case measure=>omega
    case rel=>exact ⟨k+1,rfl,yY,by (show OwnE _ _ _ _ _ _ _);rw [hv.o];exact hc.o,hm.o,yY⟩
  ·obtain rfl:k=f.length:=yY;rw [aW] at HO;obtain ⟨Ao,co,hs⟩:=Q0 HO.o;go_wp2_with fail
   rw [hy.o];exact ⟨_,rfl,HO.o,HB.o⟩
structure Mod (S:Nat→Prop) (w w':World):Prop where
 os:w'.os=w.os
 tape:w'.tape=w.tape
 output:w'.output=w.output
 size:w.heap.size≤w'.heap.size
 block:∀ k,k < w.heap.size→¬ S k→w'.heap[k]? =w.heap[k]?
section
variable {S T:Nat→Prop} {a b c w w':World}
theorem Mod.refl (S:Nat→Prop) (w:World):Mod S w w:=⟨rfl,rfl,rfl,yQ,fun _ _ _=>rfl⟩
theorem Mod.trans (h:Mod S a b) (k:Mod T b c) (hT:∀ i,T i→i < a.heap.size→S i):Mod S a c:=
 ⟨k.os.trans h.os,k.tape.trans h.tape,k.output.trans h.output,aP h.size k.size,fun i hi hs=>(k.block i (bC hi h.size) (fun ht=>hs (hT i ht hi))).trans (h.block i hi hs)⟩
theorem Mod.weak (h:Mod S a b) (hS:∀ i,S i→i < a.heap.size→T i):Mod T a b:=⟨h.os,h.tape,h.output,h.size,fun i hi ht=>h.block i hi (fun hs=>ht (hS i hs hi))⟩
theorem Mod.of_grown {v:Value} (h:w.grownBy w' v.ownBlock):Mod (fun k=>v.ownBlock=some k) w w':=⟨h.os,h.tape,h.output,h.size,fun k hk hn=>h.block k hk (fun e=>hn e.symm)⟩
theorem Mod.of_below (h:Below w.heap.size w w'):Mod (fun _=>False) w w':=⟨h.os,h.tape,h.output,h.size,fun k hk _=>h.block k hk⟩
theorem Mod.set (w:World) (g j:Nat) (u:Value):Mod (fun k=>k=g) w (w.setCell ⟨g,j,none⟩ u):=by
 refine ⟨rfl,rfl,rfl,by simp [World.setCell],fun k _ hn=>aV _ _ _ _ hn⟩
theorem Mod.drew (h:Mod S a b):Mod S a b.drew:=⟨h.os,h.tape,h.output,h.size,h.block⟩
theorem Mod.alloc (h:Mod S a b) (o:Obj):Mod S a (b.alloc o):=h.trans (T:=fun _=>False) (.of_below ((aB _ _).alloc yQ o)) (fun _ h=>h.elim)
theorem Mod.below {B:Nat} (h:Mod S a b) (hS:∀ i,S i→B≤i) (hB:B≤a.heap.size):Below B a b:=
 ⟨h.os,h.tape,h.output,h.size,fun k hk=>h.block k yY (fun hs=>by have:=hS k hs;omega)⟩
theorem Mod.own {B:Nat} {e:TypeId} {size n:Nat} {v:Value} {xs:List Value} (h:Mod S a b) (ho:a.ownsRow B e size v n xs) (hS:∀ k,v.ownBlock=some k→¬ S k):b.ownsRow B e size v n xs:=
 Q7 ho fun k hk=>h.block k (ho.lt k hk).2 (hS k hk)
end
structure Bd (B g:Nat) (t:TypeId) (rest:List Value) (iv tv cv:Value) (its:List Tk) (tx:fY) (cs:List Int) (w:World):Prop where
 box:w.heap[g]? =some (.cells (iv::tv::cv::rest).toArray t)
 its:OwnT 31 w B iv its
 txt:w.ownsRow B 5 1 tv tx.size (Go.Lib.strCells tx)
 cuts:OwnE 3 V7 1 w B cv cs
 ty:t≠31∧t≠5∧t≠3
 lt:B≤g
def BdS (g:Nat) (iv tv cv:Value):Nat→Prop:=fun k=>k=g∨iv.ownBlock=some k∨tv.ownBlock=some k∨cv.ownBlock=some k
theorem Z9 {w:World} {g:Nat} {l:List Value} {t:TypeId} (h:w.heap[g]? =some (.cells l.toArray t)) (j:Nat) {u:Value} (hu:l[j]? =some u):w.cell? ⟨g,j,none⟩=some u:=by
 rw [bV _ _ j _ _ _ h,List.getElem?_toArray,hu]
theorem P3 {w:World} {B:Nat} {e:TypeId} {size:Nat} {v:Value} {n:Nat} {xs:List Value} (h:w.ownsRow B e size v n xs) {k:Nat} (hk:v.ownBlock=some k):∃ cur,w.heap[k]? =some (.cells cur e):=by
 rcases h.2 with ⟨rfl,_⟩ | ⟨g',cap,cur,rfl,_,hh,_⟩
 ·cases hk
 ·injection hk with hk;subst hk;exact ⟨cur,hh⟩
theorem O5 {w:World} {B B':Nat} {e e':TypeId} {size size':Nat} {v v':Value} {n n':Nat} {xs xs':List Value} (h:w.ownsRow B e size v n xs) (h':w.ownsRow B' e' size' v' n' xs') (he:e'≠e):Q3h v v':=by
 intro k hk hk';obtain ⟨cur,hc⟩:=P3 h' hk';exact Y1 h hc he k hk rfl
section
variable {B g:Nat} {t:TypeId} {rest:List Value} {iv tv cv iv' tv' cv':Value} {its its':List Tk} {tx tx':fY} {cs cs':List Int} {w w':World}
theorem Bd.gsz (h:Bd B g t rest iv tv cv its tx cs w):g < w.heap.size:=(aN.1 h.box).1
theorem Bd.cell0 (h:Bd B g t rest iv tv cv its tx cs w):w.cell? ⟨g,0,none⟩=some iv:=by rw [bV _ _ 0 _ _ _ h.box];simp
theorem Bd.cell1 (h:Bd B g t rest iv tv cv its tx cs w):w.cell? ⟨g,1,none⟩=some tv:=by rw [bV _ _ 1 _ _ _ h.box];simp
theorem Bd.cell2 (h:Bd B g t rest iv tv cv its tx cs w):w.cell? ⟨g,2,none⟩=some cv:=by rw [bV _ _ 2 _ _ _ h.box];simp
theorem Bd.cellR (h:Bd B g t rest iv tv cv its tx cs w) {i:Nat} {u:Value} (hu:rest[i]? =some u):w.cell? ⟨g,3+i,none⟩=some u:=by
 rw [bV _ _ (3+i) _ _ _ h.box,List.getElem?_toArray,show 3+i=i+1+1+1 by omega,bU,bU,bU,hu]
theorem Bd.frozen (h:Bd B g t rest iv tv cv its tx cs w) (j:Nat):w.frozen? ⟨g,j,none⟩=false:=Y6 h.box j
theorem Bd.nI (h:Bd B g t rest iv tv cv its tx cs w):X5a g iv:=Y1 h.its h.box h.ty.1
theorem Bd.nT (h:Bd B g t rest iv tv cv its tx cs w):X5a g tv:=Y1 h.txt h.box h.ty.2.1
theorem Bd.nC (h:Bd B g t rest iv tv cv its tx cs w):X5a g cv:=Y1 h.cuts h.box h.ty.2.2
theorem Bd.aIT (h:Bd B g t rest iv tv cv its tx cs w):Q3h iv tv:=O5 h.its h.txt yX
theorem Bd.aIC (h:Bd B g t rest iv tv cv its tx cs w):Q3h iv cv:=O5 h.its h.cuts yX
theorem Bd.aTI (h:Bd B g t rest iv tv cv its tx cs w):Q3h tv iv:=O5 h.txt h.its yX
theorem Bd.aTC (h:Bd B g t rest iv tv cv its tx cs w):Q3h tv cv:=O5 h.txt h.cuts yX
theorem Bd.aCI (h:Bd B g t rest iv tv cv its tx cs w):Q3h cv iv:=O5 h.cuts h.its yX
theorem Bd.aCT (h:Bd B g t rest iv tv cv its tx cs w):Q3h cv tv:=O5 h.cuts h.txt yX
theorem Bd.grT (h:Bd B g t rest iv tv cv its tx cs w) (hg:w.grownBy w' tv.ownBlock):w'.heap[g]? =some (.cells (iv::tv::cv::rest).toArray t):=(hg.block g h.gsz (fun e=>h.nT g e.symm rfl)).trans h.box
theorem Bd.grC (h:Bd B g t rest iv tv cv its tx cs w) (hg:w.grownBy w' cv.ownBlock):w'.heap[g]? =some (.cells (iv::tv::cv::rest).toArray t):=(hg.block g h.gsz (fun e=>h.nC g e.symm rfl)).trans h.box
theorem Bd.grI (h:Bd B g t rest iv tv cv its tx cs w) (hg:w.grownBy w' iv.ownBlock):w'.heap[g]? =some (.cells (iv::tv::cv::rest).toArray t):=(hg.block g h.gsz (fun e=>h.nI g e.symm rfl)).trans h.box
theorem Bd.mod {S:Nat→Prop} (h:Bd B g t rest iv tv cv its tx cs w) (hm:Mod S w w') (hS:∀ k,BdS g iv tv cv k→¬ S k):Bd B g t rest iv tv cv its tx cs w':=
 ⟨(hm.block g h.gsz (hS g (.inl rfl))).trans h.box,hm.own h.its fun k hk=>hS k (.inr (.inl hk)),hm.own h.txt fun k hk=>hS k (.inr (.inr (.inl hk))),hm.own h.cuts fun k hk=>hS k (.inr (.inr (.inr hk))),h.ty,h.lt⟩
theorem Bd.below (h:Bd B g t rest iv tv cv its tx cs w) (hb:Below w.heap.size w w'):Bd B g t rest iv tv cv its tx cs w':=h.mod (.of_below hb) fun _ _ hf=>hf
theorem Bd.alloc (h:Bd B g t rest iv tv cv its tx cs w) (o:Obj):Bd B g t rest iv tv cv its tx cs (w.alloc o):=h.below ((aB _ _).alloc yQ o)
theorem Bd.drewN (h:Bd B g t rest iv tv cv its tx cs w) (n:Nat):Bd B g t rest iv tv cv its tx cs (w.drewN n):=⟨h.box,h.its,h.txt,h.cuts,h.ty,h.lt⟩
theorem Bd.drew (h:Bd B g t rest iv tv cv its tx cs w):Bd B g t rest iv tv cv its tx cs w.drew:=⟨h.box,h.its,h.txt,h.cuts,h.ty,h.lt⟩
theorem Bd.putT (h:Bd B g t rest iv tv cv its tx cs w) (ho:w'.ownsRow B 5 1 tv' tx'.size (Go.Lib.strCells tx')) (hg:w.grownBy w' tv.ownBlock):
 Bd B g t rest iv tv' cv its tx' cs (w'.setCell ⟨g,1,none⟩ tv')∧Mod (fun k=>k=g∨tv.ownBlock=some k) w (w'.setCell ⟨g,1,none⟩ tv'):=by
 have hm:=Mod.of_grown hg;have ha:w'.heap[g]? =some (.cells (iv::tv::cv::rest).toArray t):=(hm.block g h.gsz (fun e=>h.nT g e rfl)).trans h.box;have hs:=Mod.set w' g 1 tv';have hI:=hm.own h.its fun k hk e=>h.aIT k hk e;have hC:=hm.own h.cuts fun k hk e=>h.aCT k hk e;refine ⟨⟨by rw [D0 ha];simp,hs.own hI fun k hk e=>h.nI k hk e,hs.own ho fun k hk e=>Y1 ho ha h.ty.2.1 k hk e,hs.own hC fun k hk e=>h.nC k hk e,h.ty,h.lt⟩,?_⟩;exact (hm.weak (T:=fun k=>k=g∨tv.ownBlock=some k) fun i hi _=>.inr hi).trans hs fun i hi _=>.inl hi
theorem Bd.putC (h:Bd B g t rest iv tv cv its tx cs w) (ho:OwnE 3 V7 1 w' B cv' cs') (hg:w.grownBy w' cv.ownBlock):
 Bd B g t rest iv tv cv' its tx cs' (w'.setCell ⟨g,2,none⟩ cv')∧Mod (fun k=>k=g∨cv.ownBlock=some k) w (w'.setCell ⟨g,2,none⟩ cv'):=by
 have hm:=Mod.of_grown hg;have ha:w'.heap[g]? =some (.cells (iv::tv::cv::rest).toArray t):=(hm.block g h.gsz (fun e=>h.nC g e rfl)).trans h.box;have hs:=Mod.set w' g 2 cv';have hI:=hm.own h.its fun k hk e=>h.aIC k hk e;have hT:=hm.own h.txt fun k hk e=>h.aTC k hk e;refine ⟨⟨by rw [D0 ha];simp,hs.own hI fun k hk e=>h.nI k hk e,hs.own hT fun k hk e=>h.nT k hk e,hs.own ho fun k hk e=>Y1 ho ha h.ty.2.2 k hk e,h.ty,h.lt⟩,?_⟩;exact (hm.weak (T:=fun k=>k=g∨cv.ownBlock=some k) fun i hi _=>.inr hi).trans hs fun i hi _=>.inl hi
theorem Bd.putI (h:Bd B g t rest iv tv cv its tx cs w) (ho:OwnT 31 w' B iv' its') (hg:w.grownBy w' iv.ownBlock):
 Bd B g t rest iv' tv cv its' tx cs (w'.setCell ⟨g,0,none⟩ iv')∧Mod (fun k=>k=g∨iv.ownBlock=some k) w (w'.setCell ⟨g,0,none⟩ iv'):=by
 have hm:=Mod.of_grown hg;have ha:w'.heap[g]? =some (.cells (iv::tv::cv::rest).toArray t):=(hm.block g h.gsz (fun e=>h.nI g e rfl)).trans h.box;have hs:=Mod.set w' g 0 iv';have hT:=hm.own h.txt fun k hk e=>h.aTI k hk e;have hC:=hm.own h.cuts fun k hk e=>h.aCI k hk e;refine ⟨⟨by rw [D0 ha];simp,hs.own ho fun k hk e=>Y1 ho ha h.ty.1 k hk e,hs.own hT fun k hk e=>h.nT k hk e,hs.own hC fun k hk e=>h.nC k hk e,h.ty,h.lt⟩,?_⟩;exact (hm.weak (T:=fun k=>k=g∨iv.ownBlock=some k) fun i hi _=>.inr hi).trans hs fun i hi _=>.inl hi
theorem Bd.noT (h:Bd B g t rest iv tv cv its tx cs w):Bd B g t rest iv (.slice none 0 0) cv its ⟨#[]⟩ cs (w.setCell ⟨g,1,none⟩ (.slice none 0 0))∧Mod (fun k=>k=g) w (w.setCell ⟨g,1,none⟩ (.slice none 0 0)):=by
 have hs:=Mod.set w g 1 (.slice none 0 0);exact ⟨⟨by rw [D0 h.box];simp,hs.own h.its fun k hk e=>h.nI k hk e,eN _ _ _ _,hs.own h.cuts fun k hk e=>h.nC k hk e,h.ty,h.lt⟩,hs⟩
theorem Bd.putR (h:Bd B g t rest iv tv cv its tx cs w) (i:Nat) (u:Value):Bd B g t (rest.set i u) iv tv cv its tx cs (w.setCell ⟨g,3+i,none⟩ u)∧Mod (fun k=>k=g) w (w.setCell ⟨g,3+i,none⟩ u):=by
 have hs:=Mod.set w g (3+i) u;refine ⟨⟨?_,hs.own h.its fun k hk e=>h.nI k hk e,hs.own h.txt fun k hk e=>h.nT k hk e,hs.own h.cuts fun k hk e=>h.nC k hk e,h.ty,h.lt⟩,hs⟩;rw [D0 h.box,show 3+i=i+1+1+1 by omega];simp
theorem Bd.start {o:Obj} (hB:B≤w.heap.size) (ho:o=.cells (.slice none 0 0::.slice none 0 0::.slice none 0 0::rest).toArray t) (ht:t≠31∧t≠5∧t≠3):
 Bd B w.heap.size t rest (.slice none 0 0) (.slice none 0 0) (.slice none 0 0) [] ⟨#[]⟩ [] (w.alloc o):=
 ⟨by rw [ho];exact aT w _,OwnE.nil,eN _ _ _ _,OwnE.nil,ht,hB⟩
end
theorem C9:(prog.info? 3).map (fun i=>(i.zero,i.size,i.bytes))=some (some (.int .i64 0),1,8):=by kernel_rfl
theorem V6h {w:World} {B:Nat} {e:TypeId} {v:Value} {tx:fY} {c:UInt8} (h:w.ownsRow B e 1 v (tx.size+1) (Go.Lib.strCells tx++[.int .u8 (c.toNat:Int)])):w.ownsRow B e 1 v (tx++(⟨#[c]⟩:fY)).size (Go.Lib.strCells (tx++(⟨#[c]⟩:fY))):=by
 rw [←L6,bD];exact h
theorem Y1a (b:Bool) {B g:Nat} {t:TypeId} {rest:List Value} {iv tv cv:Value} {its:List Tk} {tx:fY} {cs:List Int} {w:World} (h:Bd B g t rest iv tv cv its tx cs w)
 (hl:its.length+(if tx.size=0 then 0 else 1)+1≤512) (hc:cs.length+1≤1024) (hx:tx.size≤1000000):
 Calls prog 165 #[.pointer (some ⟨g,0,none⟩),.bool b] w (fun e w'=>e=.returned (.bool false)∧w'=w):=by
 have q0:=h.cell0;have q1:=h.cell1;have q2:=h.cell2;obtain ⟨A0,c0,rfl⟩:=Q0 h.its;obtain ⟨A1,c1,rfl⟩:=Q0 h.txt;obtain ⟨A2,c2,rfl⟩:=Q0 h.cuts;clear h;generalize its.length=n at *;generalize cs.length=m at *;generalize tx.size=k at *;by_cases hk:k=0
 ·subst hk;rw [aK rfl] at hl;cases b
  ·go_enter func165,ntmps165
   go_wp2_with fail
   go_ret
   exact ⟨K0 yV,rfl⟩
  ·go_enter func165,ntmps165
   go_wp2_with fail
   go_ret
   exact ⟨K0 yV,rfl⟩
 ·rw [aE hk] at hl;cases b
  ·go_enter func165,ntmps165
   go_wp2_with fail
   go_ret
   exact ⟨K0 yV,rfl⟩
  ·go_enter func165,ntmps165
   go_wp2_with fail
   go_ret
   exact ⟨K0 yV,rfl⟩
theorem Y0z (c:UInt8) (off:Int) {B g:Nat} {t:TypeId} {rest:List Value} {iv tv cv:Value} {its:List Tk} {tx:fY} {cs:List Int} {w:World} (h:Bd B g t rest iv tv cv its tx cs w)
 (hl:its.length+(if tx.size=0 then 0 else 1)+1≤512) (hc:cs.length+1≤1024) (hx:tx.size≤1000000):
 Calls prog 125 #[.pointer (some ⟨g,0,none⟩),.int .u8 c.toNat,.int .i64 off] w (fun e w'=>e=.returned (.bool true)∧∃ tv' cv',Bd B g t rest iv tv' cv' its (tx++(⟨#[c]⟩:fY)) (cs++[off]) w'∧
  Mod (fun k=>k=g∨tv.ownBlock=some k∨cv.ownBlock=some k) w w'):=by
 have HF:=zW (Y1a true h hl hc hx);have q1:=h.cell1;have q2:=h.cell2;have hk:=aP h.lt (cS h.gsz);obtain ⟨A1,c1,rfl⟩:=Q0 h.txt;obtain ⟨A2,c2,rfl⟩:=Q0 h.cuts;have H:=zW h;have HL:=zW hl;clear h hl;go_enter func125,ntmps125
 go_wp2_with fail
 refine (HF.o).mono ?_;rintro e w1 ⟨rfl,rfl⟩;go_wp2_with (at_builtin;first
  | (refine Z7 rfl (.tmp 13) (.tmp 15) 89 5 rfl underlying89 _ 1 1 X3b rfl yX B _ tx.size _ rfl (by exact aD H.o.txt _) ⟨w1.heap.size, 0, none⟩ 1 [.int .u8 (c.toNat : Int)] rfl rfl (by exact T6 _ _ rfl _ _) (by intro u hu; rw [aJ.1 hu]; rfl) yY yX yV ?_; intro g9 cap9 w9 hg ho hd ha;
     have HP:=zW ((H.o.alloc _).putT (V6h hg) ha);have p2:=HP.o.1.cell2;have y0:=(H.o.alloc _).grT ha;have y1:=Y6 y0 1;have z1:=Z9 y0 1 rfl;have hj:=ha.size;clear y0 hd)
  | (refine Z7 rfl (.tmp 23) (.tmp 25) 22 3 rfl underlying22 _ 1 8 C9 rfl yX B _ cs.length _ rfl (by exact aD HP.o.1.cuts _) ⟨w9.heap.size, 0, none⟩ 1 [.int .i64 off] rfl rfl (by exact T6 _ _ (by simp [World.setCell]) _ _) (by intro u hu; rw [aJ.1 hu]; rfl) yY yX (by simp [World.setCell] at hj ⊢; omega) ?_; intro g8 cap8 w8 hf hn hb he;
     have HQ:=zW ((HP.o.1.alloc _).putC (OwnE.snoc hf) he);have y0:=(HP.o.1.alloc _).grC he;have y2:=Y6 y0 2;have z2:=Z9 y0 2 rfl;clear y0 hb))
 go_ret
 refine ⟨rfl,_,_,HQ.o.1,?_⟩;have hm:Mod (fun k=>k=g∨(Value.slice A1 tx.size c1).ownBlock=some k) w1 (w1.alloc _):=(Mod.refl _ w1).alloc (.cells #[.int .u8 (c.toNat:Int)] 5);have hh:=(hm.trans HP.o.2 fun i hi _=>hi).alloc (.cells #[.int .i64 off] 3);refine (hh.weak (T:=fun k=>k=g∨(Value.slice A1 tx.size c1).ownBlock=some k∨(Value.slice A2 cs.length c2).ownBlock=some k) fun i hi _=>?_).trans HQ.o.2 fun i hi _=>?_
 ·exact hi.imp id .inl
 ·exact hi.imp id .inr
def Y0p (its:List Tk) (tx:fY):List Tk:=its++(if tx.size=0 then [] else [⟨1,tx,0⟩])
theorem V2u (its:List Tk) (tx:fY):(Y0p its tx).length=its.length+(if tx.size=0 then 0 else 1):=by
 unfold Y0p;rw [aA];split<;>rfl
theorem X6v {B g:Nat} {t:TypeId} {rest:List Value} {iv tv cv:Value} {its:List Tk} {tx:fY} {cs:List Int} {w:World} (h:Bd B g t rest iv tv cv its tx cs w)
 (hl:its.length≤512) (hx:tx.size≤1000000):
 Calls prog 82 #[.pointer (some ⟨g,0,none⟩)] w (fun e w'=>(∃ v,e=.returned v)∧∃ iv' tv',Bd B g t rest iv' tv' cv (Y0p its tx) ⟨#[]⟩ cs w'∧
  Mod (fun k=>k=g∨iv.ownBlock=some k) w w'∧(iv'.ownBlock=iv.ownBlock∨∀ k,iv'.ownBlock=some k→w.heap.size≤k)):=by
 have q1:=h.cell1;have hb:=aP h.lt (cS h.gsz);obtain ⟨A1,c1,rfl⟩:=Q0 h.txt;by_cases hk:tx.size=0
 ·obtain rfl:=Q0t hk;have hf:Y0p its ⟨#[]⟩=its:=aX _;rw [hf];have H:=zW h;clear h;go_enter func82,ntmps82
  go_wp2_with fail
  refine fS (eU rfl _ _ _) rfl ?_;exact ⟨⟨_,rfl⟩,_,_,H.o,Mod.refl _ _,.inl rfl⟩
 ·have hf:Y0p its tx=its++[⟨1,tx,0⟩]:=(by unfold Y0p;rw [aE hk]);rw [hf];have q0:=h.cell0;obtain ⟨A0,c0,rfl⟩:=Q0 h.its;have H:=zW h;have hc:=B5 (w:=w.drew) tx 89 9 underlying89 underlying5 underlying9 h.drew.txt rfl yY;have HA:=zW (h.drew.alloc (.cells (tkC ⟨1,tx,0⟩).toArray 31));have hz:B≤w.drew.heap.size:=hb;have p0:(w.alloc (.cells #[.int .i64 1,.string tx,.int .i64 0] 31)).cell? ⟨g,0,none⟩=some (.slice A0 its.length c0):=HA.o.cell0;have hd:(0:Int) < (tx.size:Int):=yY;clear h;go_enter func82,ntmps82
  go_wp2_with fail
  go_region_law (first
   | (refine H4 rfl (.tmp 12) (.tmp 19) 24 31 rfl underlying24 _ tkC 3 32 Z8 rfl yX Q5 D4 B (.slice A0 its.length c0) its (by simp [Act.eval]) (by exact HA.o.its) (.slice (some ⟨w.drew.heap.size, 0, none⟩) 1 1) [⟨1, tx, 0⟩] (by simp [Act.eval]) (by exact Z3 tkC 3 Q5 _ _ rfl ⟨1, tx, 0⟩ _) yV yX yV ?_
      intro v7 w7 hown7 hbel7 hgr7 hat7;obtain ⟨A7,c7,ha⟩:=Q0 hown7;rw [show (its++[(⟨1,tx,0⟩:Tk)]).length=its.length+1 by simp] at ha;subst ha;have HP:=zW (HA.o.putI hown7 hgr7);have z0:=Z9 (HA.o.grI hgr7) 0 rfl;have y0:=Y6 (HA.o.grI hgr7) 0;have z1:=HP.o.1.cell1;have y1:=Y6 (HA.o.grI hgr7) 1;clear hown7 hbel7))
  all_goals (
   go_wp2_with fail
   refine fS (eU rfl _ _ _) rfl ?_;have HR:=HP.o.1.noT;refine ⟨⟨_,rfl⟩,_,_,HR.1,?_,?_⟩
   ·have hm:Mod (fun k=>k=g∨(Value.slice A0 its.length c0).ownBlock=some k) w (w.drew.alloc (.cells (tkC ⟨1,tx,0⟩).toArray 31)):=((Mod.refl _ w).drew).alloc _;exact (hm.trans HP.o.2 fun i hi _=>hi).trans HR.2 fun i hi _=>.inl hi
   ·rcases hat7 with h7 | h7
    ·exact .inl h7
    ·refine .inr fun k hk=>?_;rw [h7] at hk;injection hk with hk;rw [←hk];simp)
theorem Y1b (x:Tk) (off:Int) {B g:Nat} {t:TypeId} {rest:List Value} {iv tv cv:Value} {its:List Tk} {tx:fY} {cs:List Int} {w:World} (h:Bd B g t rest iv tv cv its tx cs w)
 (hl:its.length+(if tx.size=0 then 0 else 1)+1≤512) (hc:cs.length+1≤1024) (hx:tx.size≤1000000):
 Calls prog 127 #[.pointer (some ⟨g,0,none⟩),.agg #[.int .i64 x.k,.string x.t,.int .i64 x.d],.int .i64 off] w (fun e w'=>e=.returned (.bool true)∧∃ iv' tv' cv',Bd B g t rest iv' tv' cv' (Y0p its tx++[x]) ⟨#[]⟩ (cs++[off]) w'∧
  Mod (fun k=>k=g∨iv.ownBlock=some k∨cv.ownBlock=some k) w w'∧(iv'.ownBlock=iv.ownBlock∨∀ k,iv'.ownBlock=some k→w.heap.size≤k)):=by
 obtain ⟨xk,xt,xd⟩:=x;have ho:=V2u its tx;have HA:=zW (h.alloc (.cells #[.int .i64 xk,.string xt,.int .i64 xd] 31));have HM:yK (Mod (fun k=>k=g∨iv.ownBlock=some k) w (w.alloc (.cells #[.int .i64 xk,.string xt,.int .i64 xd] 31))):=(Mod.refl _ w).alloc _;have hn:yK ((w.alloc (.cells #[.int .i64 xk,.string xt,.int .i64 xd] 31)).heap[w.heap.size]? =some (.cells #[.int .i64 xk,.string xt,.int .i64 xd] 31)):=aY;have hA:=h.gsz;have hy:=aP h.lt (cS h.gsz);have hh:yK (∀ k,iv.ownBlock=some k→k < w.heap.size):=fun k hk=>(h.its.lt k hk).2;have HF:=zW (Y1a false (HA.o) hl hc hx);have hf:=zW (X6v (HA.o) yY hx);obtain ⟨A2,c2,rfl⟩:=Q0 h.cuts;clear h;generalize Y0p its tx=fl at ho hf ⊢;go_enter func127,ntmps127
 go_wp2_with fail
 generalize hwa:w.alloc (.cells #[.int .i64 xk,.string xt,.int .i64 xd] 31)=wa at *;refine (HF.o).mono ?_;rintro e wa ⟨rfl,rfl⟩;go_wp2_with fail
 refine (hf.o).mono ?_;rintro e w1 ⟨⟨v1,rfl⟩,iv1,tv1,h1,hm1,ht1⟩;clear HF hf;obtain ⟨A0,c0,rfl⟩:=Q0 h1.its;have hD:=hm1.size;have hv:wa.heap.size=w.heap.size+1:=(by rw [←hwa];simp);obtain ⟨p,hp⟩:∃ p,yK (p=w.heap.size):=⟨_,rfl⟩;have hs:yK (w1.heap[p]? =some (.cells #[.int .i64 xk,.string xt,.int .i64 xd] 31)):=by
  show _=_;rw [hp.o];refine (hm1.block _ yY ?_).trans hn.o;rintro (h | h)
  ·omega
  ·have:=hh.o _ h;omega
 rw [←hp.o];have H1:=zW h1;have hg:=zW ((HM.o.trans hm1 fun i hi _=>hi));have hr:yK (fl.length+1≤512):=(by show _≤_;omega);have hj:yK ((Value.slice A0 fl.length c0).ownBlock=iv.ownBlock∨∀ k,(Value.slice A0 fl.length c0).ownBlock=some k→w.heap.size≤k):=ht1.imp id fun h k hk=>by have:=h k hk;omega
 have hw:B≤w1.heap.size:=yY;clear h1 hm1 ht1 HA HM hn hh hv hwa ho hl;have q0:=H1.o.cell0;have q2:=H1.o.cell2;obtain ⟨x0,x1,x2,_⟩:=bx3 hs.o;have ha:=zW (H1.o.drew.alloc (.cells (tkC ⟨xk,xt,xd⟩).toArray 31));have p0:(w1.alloc (.cells #[.int .i64 xk,.string xt,.int .i64 xd] 31)).cell? ⟨g,0,none⟩=some (.slice A0 fl.length c0):=ha.o.cell0;go_wp2_with fail
 go_region_law (first
  | (refine H4 rfl (.tmp 15) (.tmp 17) 24 31 rfl underlying24 _ tkC 3 32 Z8 rfl yX Q5 D4 B (.slice A0 fl.length c0) fl (by simp [Act.eval]) (by exact ha.o.its) (.slice (some ⟨w1.drew.heap.size, 0, none⟩) 1 1) [⟨xk, xt, xd⟩] (by simp [Act.eval]) (by exact Z3 tkC 3 Q5 _ _ rfl ⟨xk, xt, xd⟩ _) (by have := hr.o; simp; omega) yX yV ?_
     intro v7 w7 hown7 hbel7 hgr7 hat7;obtain ⟨A7,c7,hq⟩:=Q0 hown7;rw [show (fl++[(⟨xk,xt,xd⟩:Tk)]).length=fl.length+1 by simp] at hq;subst hq;have HP:=zW (ha.o.putI hown7 hgr7);have z0:=Z9 (ha.o.grI hgr7) 0 rfl;have y0:=Y6 (ha.o.grI hgr7) 0;have p2:=HP.o.1.cell2;have ht:=hgr7.size;clear hown7 hbel7))
 all_goals (
  go_wp2_with (at_builtin;refine Z7 rfl (.tmp 25) (.tmp 27) 22 3 rfl underlying22 _ 1 8 C9 rfl yX B _ cs.length _ rfl (by exact aD HP.o.1.cuts _) ⟨w7.heap.size,0,none⟩ 1 [.int .i64 off] rfl rfl (by exact T6 _ _ (by simp [World.setCell]) _ _) (by intro u hu;rw [aJ.1 hu];rfl) yY yX (by simp [World.setCell] at ht ⊢;omega) ?_;intro g8 cap8 w8 he hz hb hd;have HQ:=zW ((HP.o.1.alloc _).putC (OwnE.snoc he) hd);have y8:=(HP.o.1.alloc _).grC hd;have y2:=Y6 y8 2;have z2:=Z9 y8 2 rfl;clear y8 hb)
  go_ret
  refine ⟨rfl,_,_,_,HQ.o.1,?_,?_⟩
  ·have hm:=(((hg.o.drew).alloc (.cells (tkC ⟨xk,xt,xd⟩).toArray 31)).trans HP.o.2 fun i hi hB=>?_).alloc (.cells #[.int .i64 off] 3)
   ·refine (hm.weak (T:=fun k=>k=g∨iv.ownBlock=some k∨(Value.slice A2 cs.length c2).ownBlock=some k) fun i hi _=>hi.imp id .inl).trans HQ.o.2 fun i hi _=>hi.imp id .inr
   ·rcases hi with hi | hi
    ·exact .inl hi
    ·rcases hj.o with h | h
     ·rw [h] at hi;exact .inr hi
     ·have:=h i hi;omega
  ·have hC:=hg.o.size;rcases hat7 with h7 | h7
   ·rw [h7];exact hj.o
   ·refine .inr fun k hk=>?_;rw [h7] at hk;injection hk with hk;rw [←hk];simp;omega)
theorem Z0v {B g:Nat} {t:TypeId} {rest:List Value} {iv tv cv:Value} {its:List Tk} {tx:fY} {cs:List Int} {w:World} (h:Bd B g t rest iv tv cv its tx cs w)
 (hl:its.length≤512) (hx:tx.size≤1000000):
 Calls prog 43 #[.pointer (some ⟨g,0,none⟩)] w (fun e w'=>∃ v,e=.returned v∧OwnT 31 w' B v (Y0p its tx)∧Mod (fun k=>k=g∨iv.ownBlock=some k) w w'):=by
 have ha:=zW (X6v h hl hx);clear h;generalize Y0p its tx=fl at ha ⊢;go_enter func43,ntmps43
 go_wp2_with fail
 refine (ha.o).mono ?_;rintro e w1 ⟨⟨v1,rfl⟩,iv1,tv1,h1,hm1,ht1⟩;clear ha;have q0:=h1.cell0;obtain ⟨A0,c0,rfl⟩:=Q0 h1.its;have H1:=zW h1;clear h1 ht1;go_wp2_with fail
 go_ret
 exact ⟨_,rfl,H1.o.its,hm1⟩
theorem Z7f (last:Int) {B g:Nat} {t:TypeId} {rest:List Value} {iv tv cv:Value} {its:List Tk} {tx:fY} {cs:List Int} {w:World} (h:Bd B g t rest iv tv cv its tx cs w)
 (hc:cs.length+1≤1000000):
 Calls prog 155 #[.pointer (some ⟨g,0,none⟩),.int .i64 last] w (fun e w'=>∃ v,e=.returned v∧OwnE 3 V7 1 w' B v (cs++[last])∧Mod (fun k=>cv.ownBlock=some k) w w'):=by
 have q2:=h.cell2;have ha:=aP h.lt (cS h.gsz);obtain ⟨A2,c2,rfl⟩:=Q0 h.cuts;have H:=zW h;clear h;go_enter func155,ntmps155
 go_wp2_with (at_builtin;refine Z7 rfl (.tmp 8) (.tmp 10) 22 3 rfl underlying22 _ 1 8 C9 rfl yX B _ cs.length _ rfl (by exact aD H.o.cuts _) ⟨w.heap.size,0,none⟩ 1 [.int .i64 last] rfl rfl (by exact T6 _ _ rfl _ _) (by intro u hu;rw [aJ.1 hu];rfl) yY yX yV ?_;intro g8 cap8 w8 hown8 hg8 hbel8 hgr8)
 go_ret
 refine ⟨_,rfl,OwnE.snoc hown8,?_⟩;exact ((Mod.refl _ w).alloc _).trans (Mod.of_grown hgr8) fun i hi _=>hi
end Go.Proofs.YtfkojnofbpdjdaaGreatDoor
namespace Go.Proofs
open Go.Shelf
def Tryz.lays169_ren:Go.Shelf.Ren:=⟨fun | 169=>54 | n=>n,fun | 70=>115 | 9=>9 | 0=>0 | 72=>117 | 37=>89 | 127=>172 | 3=>3 | 5=>5 | n=>n,fun | n=>n⟩
theorem Tryz.lays169:Go.Proofs.Lays.n169 Tryz.prog Tryz.lays169_ren:={
 mixed:=by kernel_rfl
 f169:=Tryz.func54.trans (congrArg some (by kernel_rfl))
 t0:=Tryz.underlying0
 a0:=Tryz.isAgg0
 z0:=Tryz.sizeOf0
 v0:=Tryz.zeroValue0
 t3:=Tryz.underlying3
 a3:=Tryz.isAgg3
 z3:=Tryz.sizeOf3
 v3:=Tryz.zeroValue3
 t9:=Tryz.underlying9
 a9:=Tryz.isAgg9
 z9:=Tryz.sizeOf9
 v9:=Tryz.zeroValue9
 t37:=Tryz.underlying89
 a37:=Tryz.isAgg89
 z37:=Tryz.sizeOf89
 v37:=Tryz.zeroValue89
 t70:=Tryz.underlying115
 a70:=Tryz.isAgg115
 z70:=Tryz.sizeOf115
 v70:=Tryz.zeroValue115
 t72:=Tryz.underlying117
 a72:=Tryz.isAgg117
 z72:=Tryz.sizeOf117
 v72:=Tryz.zeroValue117
 t127:=Tryz.underlying172
 a127:=Tryz.isAgg172
 z127:=Tryz.sizeOf172
 v127:=Tryz.zeroValue172 }
theorem Tryz.Builder_Extra_169:Builder.Extra Tryz.prog Tryz.lays169_ren:={
 sizeBuilder:=by kernel_rfl
 liesBuilder:=by kernel_rfl
 t5:=Tryz.underlying5
 a5:=Tryz.isAgg5
 z5:=Tryz.sizeOf5
 v5:=Tryz.zeroValue5
 infoByte:=by kernel_rfl
 cellsByte:=by kernel_rfl
 sizeByte:=by kernel_rfl
 neB5:=by decide }
open Go.RowKit in
theorem Tryz.Builder_String_any (B b:Nat) (l:List UInt8) (w:World) (h:Lib.IsBuilder 117 5 B b (Lib.byteCells l) w) (hBw:B≤w.heap.size):
 Calls Tryz.prog 54 #[.pointer (some ⟨b,0,none⟩)] w fun e w'=>e=.returned (.string ⟨l.toArray⟩)∧Below B w w':=Any.Builder_String_any Tryz.lays169 Tryz.Builder_Extra_169 B b l w h hBw
def Tryz.lays161_ren:Go.Shelf.Ren:=⟨fun | 161=>176 | 231=>200 | 227=>201 | 233=>202 | 235=>203 | 228=>218 | 197=>219 | 151=>220 | 260=>233 | 152=>234 | 137=>126 | 119=>237 | 224=>188 | 225=>187 | 217=>166 | 266=>191 | n=>n,fun | 9=>9 | 4=>4 | 3=>3 | 5=>5 | 117=>277 | 116=>276 | 0=>0 | 124=>280 | 105=>298 | 21=>21 | 119=>234 | 46=>266 | 139=>312 | 138=>311 | n=>n,fun | 3=>2 | 4=>3 | n=>n⟩
theorem Tryz.lays161:Go.Proofs.Lays.n161 Tryz.prog Tryz.lays161_ren:={
 mixed:=by kernel_rfl
 f119:=Tryz.func237.trans (congrArg some (by kernel_rfl))
 f137:=Tryz.func126.trans (congrArg some (by kernel_rfl))
 f151:=Tryz.func220.trans (congrArg some (by kernel_rfl))
 f152:=Tryz.func234.trans (congrArg some (by kernel_rfl))
 f161:=Tryz.func176.trans (congrArg some (by kernel_rfl))
 f197:=Tryz.func219.trans (congrArg some (by kernel_rfl))
 f217:=Tryz.func166.trans (congrArg some (by kernel_rfl))
 f224:=Tryz.func188.trans (congrArg some (by kernel_rfl))
 f225:=Tryz.func187.trans (congrArg some (by kernel_rfl))
 f227:=Tryz.func201.trans (congrArg some (by kernel_rfl))
 f228:=Tryz.func218.trans (congrArg some (by kernel_rfl))
 f231:=Tryz.func200.trans (congrArg some (by kernel_rfl))
 f233:=Tryz.func202.trans (congrArg some (by kernel_rfl))
 f235:=Tryz.func203.trans (congrArg some (by kernel_rfl))
 f260:=Tryz.func233.trans (congrArg some (by kernel_rfl))
 f266:=Tryz.func191.trans (congrArg some (by kernel_rfl))
 t0:=Tryz.underlying0
 a0:=Tryz.isAgg0
 z0:=Tryz.sizeOf0
 v0:=Tryz.zeroValue0
 t3:=Tryz.underlying3
 a3:=Tryz.isAgg3
 z3:=Tryz.sizeOf3
 v3:=Tryz.zeroValue3
 t4:=Tryz.underlying4
 a4:=Tryz.isAgg4
 z4:=Tryz.sizeOf4
 v4:=Tryz.zeroValue4
 t5:=Tryz.underlying5
 a5:=Tryz.isAgg5
 z5:=Tryz.sizeOf5
 v5:=Tryz.zeroValue5
 t9:=Tryz.underlying9
 a9:=Tryz.isAgg9
 z9:=Tryz.sizeOf9
 v9:=Tryz.zeroValue9
 t21:=Tryz.underlying21
 a21:=Tryz.isAgg21
 z21:=Tryz.sizeOf21
 v21:=Tryz.zeroValue21
 t46:=Tryz.underlying266
 a46:=Tryz.isAgg266
 z46:=Tryz.sizeOf266
 v46:=Tryz.zeroValue266
 t105:=Tryz.underlying298
 a105:=Tryz.isAgg298
 z105:=Tryz.sizeOf298
 v105:=Tryz.zeroValue298
 t116:=Tryz.underlying276
 a116:=Tryz.isAgg276
 z116:=Tryz.sizeOf276
 t117:=Tryz.underlying277
 a117:=Tryz.isAgg277
 z117:=Tryz.sizeOf277
 v117:=Tryz.zeroValue277
 t119:=Tryz.underlying234
 a119:=Tryz.isAgg234
 z119:=Tryz.sizeOf234
 t124:=Tryz.underlying280
 a124:=Tryz.isAgg280
 z124:=Tryz.sizeOf280
 v124:=Tryz.zeroValue280
 t138:=Tryz.underlying311
 a138:=Tryz.isAgg311
 z138:=Tryz.sizeOf311
 v138:=Tryz.zeroValue311
 t139:=Tryz.underlying312
 a139:=Tryz.isAgg312
 z139:=Tryz.sizeOf312
 v139:=Tryz.zeroValue312
 g3:=by kernel_rfl
 g4:=by kernel_rfl }
def Tryz.lays171_ren:Go.Shelf.Ren:=⟨fun | 171=>146 | 243=>175 | 246=>199 | 283=>214 | 284=>215 | 285=>216 | 286=>217 | 129=>229 | 317=>228 | 318=>230 | 319=>231 | 320=>232 | 337=>235 | 338=>236 | n=>n,fun | 3=>3 | 9=>9 | 2=>2 | 4=>4 | 171=>292 | 0=>0 | 53=>293 | 37=>89 | 5=>5 | 173=>296 | 212=>305 | 51=>149 | 20=>20 | 213=>306 | 46=>266 | 232=>105 | 233=>314 | n=>n,fun | 17=>1 | 18=>4 | 19=>5 | n=>n⟩
theorem Tryz.lays171:Go.Proofs.Lays.n171 Tryz.prog Tryz.lays171_ren:={
 mixed:=by kernel_rfl
 f129:=Tryz.func229.trans (congrArg some (by kernel_rfl))
 f171:=Tryz.func146.trans (congrArg some (by kernel_rfl))
 f243:=Tryz.func175.trans (congrArg some (by kernel_rfl))
 f246:=Tryz.func199.trans (congrArg some (by kernel_rfl))
 f283:=Tryz.func214.trans (congrArg some (by kernel_rfl))
 f284:=Tryz.func215.trans (congrArg some (by kernel_rfl))
 f285:=Tryz.func216.trans (congrArg some (by kernel_rfl))
 f286:=Tryz.func217.trans (congrArg some (by kernel_rfl))
 f317:=Tryz.func228.trans (congrArg some (by kernel_rfl))
 f318:=Tryz.func230.trans (congrArg some (by kernel_rfl))
 f319:=Tryz.func231.trans (congrArg some (by kernel_rfl))
 f320:=Tryz.func232.trans (congrArg some (by kernel_rfl))
 f337:=Tryz.func235.trans (congrArg some (by kernel_rfl))
 f338:=Tryz.func236.trans (congrArg some (by kernel_rfl))
 t0:=Tryz.underlying0
 a0:=Tryz.isAgg0
 z0:=Tryz.sizeOf0
 v0:=Tryz.zeroValue0
 t2:=Tryz.underlying2
 a2:=Tryz.isAgg2
 z2:=Tryz.sizeOf2
 v2:=Tryz.zeroValue2
 t3:=Tryz.underlying3
 a3:=Tryz.isAgg3
 z3:=Tryz.sizeOf3
 v3:=Tryz.zeroValue3
 t4:=Tryz.underlying4
 a4:=Tryz.isAgg4
 z4:=Tryz.sizeOf4
 v4:=Tryz.zeroValue4
 t5:=Tryz.underlying5
 a5:=Tryz.isAgg5
 z5:=Tryz.sizeOf5
 v5:=Tryz.zeroValue5
 t9:=Tryz.underlying9
 a9:=Tryz.isAgg9
 z9:=Tryz.sizeOf9
 v9:=Tryz.zeroValue9
 t20:=Tryz.underlying20
 a20:=Tryz.isAgg20
 z20:=Tryz.sizeOf20
 v20:=Tryz.zeroValue20
 t37:=Tryz.underlying89
 a37:=Tryz.isAgg89
 z37:=Tryz.sizeOf89
 v37:=Tryz.zeroValue89
 t46:=Tryz.underlying266
 a46:=Tryz.isAgg266
 z46:=Tryz.sizeOf266
 v46:=Tryz.zeroValue266
 t51:=Tryz.underlying149
 a51:=Tryz.isAgg149
 z51:=Tryz.sizeOf149
 v51:=Tryz.zeroValue149
 t53:=Tryz.underlying293
 a53:=Tryz.isAgg293
 z53:=Tryz.sizeOf293
 v53:=Tryz.zeroValue293
 t171:=Tryz.underlying292
 a171:=Tryz.isAgg292
 z171:=Tryz.sizeOf292
 v171:=Tryz.zeroValue292
 t173:=Tryz.underlying296
 a173:=Tryz.isAgg296
 z173:=Tryz.sizeOf296
 v173:=Tryz.zeroValue296
 t212:=Tryz.underlying305
 a212:=Tryz.isAgg305
 z212:=Tryz.sizeOf305
 v212:=Tryz.zeroValue305
 t213:=Tryz.underlying306
 a213:=Tryz.isAgg306
 z213:=Tryz.sizeOf306
 t232:=Tryz.underlying105
 a232:=Tryz.isAgg105
 z232:=Tryz.sizeOf105
 v232:=Tryz.zeroValue105
 t233:=Tryz.underlying314
 a233:=Tryz.isAgg314
 z233:=Tryz.sizeOf314
 v233:=Tryz.zeroValue314
 g17:=by kernel_rfl
 g18:=by kernel_rfl
 g19:=by kernel_rfl }
open Go.RowKit Go.Sort Go.Lib in
theorem Tryz.strconv_Itoa_small (i:Nat) (hi:i < 100) (w:World):
 Calls Tryz.prog 146 #[.int .i64 i] w fun e w'=>e=.returned (.string ⟨(Lib.decDigits i).toArray⟩)∧w'=w:=Any.strconv_Itoa_small Tryz.lays171 i hi w
def Tryz.lays143_ren:Go.Shelf.Ren:=⟨fun | 143=>144 | 219=>163 | 217=>166 | 225=>187 | 224=>188 | 267=>189 | 266=>191 | 314=>213 | n=>n,fun | 9=>9 | 3=>3 | 4=>4 | 5=>5 | 46=>266 | 146=>290 | 51=>149 | n=>n,fun | 1=>0 | n=>n⟩
theorem Tryz.lays143:Go.Proofs.Lays.n143 Tryz.prog Tryz.lays143_ren:={
 mixed:=by kernel_rfl
 f143:=Tryz.func144.trans (congrArg some (by kernel_rfl))
 f217:=Tryz.func166.trans (congrArg some (by kernel_rfl))
 f219:=Tryz.func163.trans (congrArg some (by kernel_rfl))
 f224:=Tryz.func188.trans (congrArg some (by kernel_rfl))
 f225:=Tryz.func187.trans (congrArg some (by kernel_rfl))
 f266:=Tryz.func191.trans (congrArg some (by kernel_rfl))
 f267:=Tryz.func189.trans (congrArg some (by kernel_rfl))
 f314:=Tryz.func213.trans (congrArg some (by kernel_rfl))
 t3:=Tryz.underlying3
 a3:=Tryz.isAgg3
 z3:=Tryz.sizeOf3
 v3:=Tryz.zeroValue3
 t4:=Tryz.underlying4
 a4:=Tryz.isAgg4
 z4:=Tryz.sizeOf4
 v4:=Tryz.zeroValue4
 t5:=Tryz.underlying5
 a5:=Tryz.isAgg5
 z5:=Tryz.sizeOf5
 v5:=Tryz.zeroValue5
 t9:=Tryz.underlying9
 a9:=Tryz.isAgg9
 z9:=Tryz.sizeOf9
 v9:=Tryz.zeroValue9
 t46:=Tryz.underlying266
 a46:=Tryz.isAgg266
 z46:=Tryz.sizeOf266
 v46:=Tryz.zeroValue266
 t51:=Tryz.underlying149
 a51:=Tryz.isAgg149
 z51:=Tryz.sizeOf149
 v51:=Tryz.zeroValue149
 t146:=Tryz.underlying290
 a146:=Tryz.isAgg290
 z146:=Tryz.sizeOf290
 v146:=Tryz.zeroValue290
 g1:=by kernel_rfl }
open Go.RowKit Go.Lib in
theorem Tryz.strings_Index (s sub:ByteArray) (m:Int) (w:World) (hs:s.size < 4294967281) (hm:w.cell? ⟨0,0,none⟩=some (.int .i64 m)):
 Calls Tryz.prog 144 #[.string s,.string sub] w fun e w'=>e=.returned (.int .i64 (Lib.index s.data.toList sub.data.toList))∧w'=w:=Any.strings_Index Tryz.lays143 s sub m w hs hm
def Tryz.lays145_ren:Go.Shelf.Ren:=⟨fun | 145=>80 | 220=>120 | 219=>163 | 217=>166 | 225=>187 | 224=>188 | 267=>189 | 266=>191 | 314=>213 | n=>n,fun | 9=>9 | 4=>4 | 59=>163 | 3=>3 | 5=>5 | 46=>266 | 146=>290 | 51=>149 | n=>n,fun | 1=>0 | n=>n⟩
theorem Tryz.lays145:Go.Proofs.Lays.n145 Tryz.prog Tryz.lays145_ren:={
 mixed:=by kernel_rfl
 f145:=Tryz.func80.trans (congrArg some (by kernel_rfl))
 f217:=Tryz.func166.trans (congrArg some (by kernel_rfl))
 f219:=Tryz.func163.trans (congrArg some (by kernel_rfl))
 f220:=Tryz.func120.trans (congrArg some (by kernel_rfl))
 f224:=Tryz.func188.trans (congrArg some (by kernel_rfl))
 f225:=Tryz.func187.trans (congrArg some (by kernel_rfl))
 f266:=Tryz.func191.trans (congrArg some (by kernel_rfl))
 f267:=Tryz.func189.trans (congrArg some (by kernel_rfl))
 f314:=Tryz.func213.trans (congrArg some (by kernel_rfl))
 t3:=Tryz.underlying3
 a3:=Tryz.isAgg3
 z3:=Tryz.sizeOf3
 v3:=Tryz.zeroValue3
 t4:=Tryz.underlying4
 a4:=Tryz.isAgg4
 z4:=Tryz.sizeOf4
 v4:=Tryz.zeroValue4
 t5:=Tryz.underlying5
 a5:=Tryz.isAgg5
 z5:=Tryz.sizeOf5
 v5:=Tryz.zeroValue5
 t9:=Tryz.underlying9
 a9:=Tryz.isAgg9
 z9:=Tryz.sizeOf9
 v9:=Tryz.zeroValue9
 t46:=Tryz.underlying266
 a46:=Tryz.isAgg266
 z46:=Tryz.sizeOf266
 v46:=Tryz.zeroValue266
 t51:=Tryz.underlying149
 a51:=Tryz.isAgg149
 z51:=Tryz.sizeOf149
 v51:=Tryz.zeroValue149
 t59:=Tryz.underlying163
 a59:=Tryz.isAgg163
 z59:=Tryz.sizeOf163
 v59:=Tryz.zeroValue163
 t146:=Tryz.underlying290
 a146:=Tryz.isAgg290
 z146:=Tryz.sizeOf290
 v146:=Tryz.zeroValue290
 g1:=by kernel_rfl }
open Go.RowKit Go.Lib in
theorem Tryz.strings_Cut (s sep:ByteArray) (m:Int) (w:World) (hs:s.size < 4294967281) (hm:w.cell? ⟨0,0,none⟩=some (.int .i64 m)):
 Calls Tryz.prog 80 #[.string s,.string sep] w fun e w'=>e=.returned (.tuple #[.string ⟨(Lib.cut s.data.toList sep.data.toList).1.toArray⟩,.string ⟨(Lib.cut s.data.toList sep.data.toList).2.1.toArray⟩,.bool (Lib.cut s.data.toList sep.data.toList).2.2])∧∃ n,w'=w.drewN n:=Any.strings_Cut Tryz.lays145 s sep m w hs hm
def Tryz.lays138_ren:Go.Shelf.Ren:=⟨fun | 138=>268 | 195=>269 | 218=>270 | 143=>144 | 219=>163 | 217=>166 | 225=>187 | 224=>188 | 267=>189 | 266=>191 | 314=>213 | n=>n,fun | 9=>9 | 3=>3 | 4=>4 | 5=>5 | 0=>0 | 46=>266 | 146=>290 | 51=>149 | n=>n,fun | 1=>0 | n=>n⟩
theorem Tryz.lays138:Go.Proofs.Lays.n138 Tryz.prog Tryz.lays138_ren:={
 mixed:=by kernel_rfl
 f138:=Tryz.func268.trans (congrArg some (by kernel_rfl))
 f143:=Tryz.func144.trans (congrArg some (by kernel_rfl))
 f195:=Tryz.func269.trans (congrArg some (by kernel_rfl))
 f217:=Tryz.func166.trans (congrArg some (by kernel_rfl))
 f218:=Tryz.func270.trans (congrArg some (by kernel_rfl))
 f219:=Tryz.func163.trans (congrArg some (by kernel_rfl))
 f224:=Tryz.func188.trans (congrArg some (by kernel_rfl))
 f225:=Tryz.func187.trans (congrArg some (by kernel_rfl))
 f266:=Tryz.func191.trans (congrArg some (by kernel_rfl))
 f267:=Tryz.func189.trans (congrArg some (by kernel_rfl))
 f314:=Tryz.func213.trans (congrArg some (by kernel_rfl))
 t0:=Tryz.underlying0
 a0:=Tryz.isAgg0
 z0:=Tryz.sizeOf0
 v0:=Tryz.zeroValue0
 t3:=Tryz.underlying3
 a3:=Tryz.isAgg3
 z3:=Tryz.sizeOf3
 v3:=Tryz.zeroValue3
 t4:=Tryz.underlying4
 a4:=Tryz.isAgg4
 z4:=Tryz.sizeOf4
 v4:=Tryz.zeroValue4
 t5:=Tryz.underlying5
 a5:=Tryz.isAgg5
 z5:=Tryz.sizeOf5
 v5:=Tryz.zeroValue5
 t9:=Tryz.underlying9
 a9:=Tryz.isAgg9
 z9:=Tryz.sizeOf9
 v9:=Tryz.zeroValue9
 t46:=Tryz.underlying266
 a46:=Tryz.isAgg266
 z46:=Tryz.sizeOf266
 v46:=Tryz.zeroValue266
 t51:=Tryz.underlying149
 a51:=Tryz.isAgg149
 z51:=Tryz.sizeOf149
 v51:=Tryz.zeroValue149
 t146:=Tryz.underlying290
 a146:=Tryz.isAgg290
 z146:=Tryz.sizeOf290
 v146:=Tryz.zeroValue290
 g1:=by kernel_rfl }
open Go.RowKit Go.Lib in
theorem Tryz.strings_Count_one (s:ByteArray) (c:UInt8) (w:World):
 Calls Tryz.prog 268 #[.string s,.string ⟨#[c]⟩] w fun e w'=>e=.returned (.int .i64 (Lib.countByte s.data.toList c))∧w'=w:=Any.strings_Count_one Tryz.lays138 s c w
def Tryz.lays99_ren:Go.Shelf.Ren:=⟨fun | 99=>130 | 206=>167 | n=>n,fun | 9=>9 | 4=>4 | 3=>3 | n=>n,fun | n=>n⟩
theorem Tryz.lays99:Go.Proofs.Lays.n99 Tryz.prog Tryz.lays99_ren:={
 mixed:=by kernel_rfl
 f99:=Tryz.func130.trans (congrArg some (by kernel_rfl))
 f206:=Tryz.func167.trans (congrArg some (by kernel_rfl))
 t3:=Tryz.underlying3
 a3:=Tryz.isAgg3
 z3:=Tryz.sizeOf3
 v3:=Tryz.zeroValue3
 t4:=Tryz.underlying4
 a4:=Tryz.isAgg4
 z4:=Tryz.sizeOf4
 v4:=Tryz.zeroValue4
 t9:=Tryz.underlying9
 a9:=Tryz.isAgg9
 z9:=Tryz.sizeOf9
 v9:=Tryz.zeroValue9 }
open Go.RowKit Go.Lib in
theorem Tryz.strings_HasPrefix (s p:ByteArray) (w:World):
 Calls Tryz.prog 130 #[.string s,.string p] w fun e w'=>e=.returned (.bool (Lib.hasPrefix s.data.toList p.data.toList))∧w'=w:=Any.strings_HasPrefix Tryz.lays99 s p w
def Tryz.lays100_ren:Go.Shelf.Ren:=⟨fun | 100=>164 | 207=>190 | n=>n,fun | 9=>9 | 4=>4 | 3=>3 | n=>n,fun | n=>n⟩
theorem Tryz.lays100:Go.Proofs.Lays.n100 Tryz.prog Tryz.lays100_ren:={
 mixed:=by kernel_rfl
 f100:=Tryz.func164.trans (congrArg some (by kernel_rfl))
 f207:=Tryz.func190.trans (congrArg some (by kernel_rfl))
 t3:=Tryz.underlying3
 a3:=Tryz.isAgg3
 z3:=Tryz.sizeOf3
 v3:=Tryz.zeroValue3
 t4:=Tryz.underlying4
 a4:=Tryz.isAgg4
 z4:=Tryz.sizeOf4
 v4:=Tryz.zeroValue4
 t9:=Tryz.underlying9
 a9:=Tryz.isAgg9
 z9:=Tryz.sizeOf9
 v9:=Tryz.zeroValue9 }
open Go.RowKit Go.Lib in
theorem Tryz.strings_HasSuffix (s p:ByteArray) (w:World) (hs:s.size≤9223372036854775807):
 Calls Tryz.prog 164 #[.string s,.string p] w fun e w'=>e=.returned (.bool (Lib.hasSuffix s.data.toList p.data.toList))∧w'=w:=Any.strings_HasSuffix Tryz.lays100 s p w hs
end Go.Proofs
namespace Go.Proofs.YtfkojnofbpdjdaaGreatDoor
open Tryz
open Go.RowKit
structure BS (B g:Nat) (t:TypeId) (rest:List Value) (u:List Tk) (cs:List Int) (w:World):Prop where
 ex:∃ iv tv cv its tx,Bd B g t rest iv tv cv its tx cs w∧BSt u its tx
section
variable {B g:Nat} {t:TypeId} {rest:List Value} {u:List Tk} {cs:List Int} {w w':World}
theorem BS.bsz (h:BS B g t rest u cs w):B≤w.heap.size:=by obtain ⟨_,_,_,_,_,h,_⟩:=h.ex;exact aP h.lt (cS h.gsz)
theorem BS.below (h:BS B g t rest u cs w) (hb:Below w.heap.size w w'):BS B g t rest u cs w':=by
 obtain ⟨iv,tv,cv,its,tx,h,hs⟩:=h.ex;exact ⟨iv,tv,cv,its,tx,h.below hb,hs⟩
theorem Y3l (c:UInt8) (off:Int) (h:BS B g t rest u cs w) (hl:u.length+1≤512) (hlu:X3 u≤1000000) (hc:cs.length+1≤1024):
 Calls prog 125 #[.pointer (some ⟨g,0,none⟩),.int .u8 c.toNat,.int .i64 off] w (fun e w'=>e=.returned (.bool true)∧BS B g t rest (u++[chI c]) (cs++[off]) w'∧Below B w w'):=by
 have hB:=h.bsz;obtain ⟨iv,tv,cv,its,tx,h,hs⟩:=h.ex;have h1:=hs.len;have h2:=hs.text;refine (Y0z c off h yY hc yY).mono ?_;rintro e w' ⟨rfl,tv',cv',h',hm⟩;refine ⟨rfl,⟨_,_,_,_,_,h',hs.ch c⟩,hm.below (fun i hi=>?_) hB⟩;rcases hi with rfl | hi | hi
 ·exact h.lt
 ·exact (h.txt.lt i hi).1
 ·exact (h.cuts.lt i hi).1
theorem V1n (x:Tk) (hx:x.k≠1) (off:Int) (h:BS B g t rest u cs w) (hl:u.length+1≤512) (hlu:X3 u≤1000000) (hc:cs.length+1≤1024):
 Calls prog 127 #[.pointer (some ⟨g,0,none⟩),.agg #[.int .i64 x.k,.string x.t,.int .i64 x.d],.int .i64 off] w (fun e w'=>e=.returned (.bool true)∧BS B g t rest (u++[x]) (cs++[off]) w'∧Below B w w'):=by
 have hB:=h.bsz;obtain ⟨iv,tv,cv,its,tx,h,hs⟩:=h.ex;have h1:=hs.len;have h2:=hs.text;refine (Y1b x off h yY hc yY).mono ?_;rintro e w' ⟨rfl,iv',tv',cv',h',hm,_⟩;refine ⟨rfl,⟨_,_,_,_,_,h',hs.item x hx⟩,hm.below (fun i hi=>?_) hB⟩;rcases hi with rfl | hi | hi
 ·exact h.lt
 ·exact (h.its.lt i hi).1
 ·exact (h.cuts.lt i hi).1
theorem Y3m (h:BS B g t rest u cs w) (hl:u.length≤512) (hlu:X3 u≤1000000):
 Calls prog 43 #[.pointer (some ⟨g,0,none⟩)] w (fun e w'=>∃ v,e=.returned v∧OwnT 31 w' B v (Q4 u)∧Below B w w'):=by
 have hB:=h.bsz;obtain ⟨iv,tv,cv,its,tx,h,hs⟩:=h.ex;have h1:=hs.len;have h2:=hs.text;refine (Z0v h yY yY).mono ?_;rintro e w' ⟨v,rfl,ho,hm⟩;refine ⟨v,rfl,?_,hm.below (fun i hi=>?_) hB⟩
 ·rw [hs.2];exact ho
 ·rcases hi with rfl | hi
  ·exact h.lt
  ·exact (h.its.lt i hi).1
theorem Z1a (last:Int) (h:BS B g t rest u cs w) (hc:cs.length+1≤1000000):
 Calls prog 155 #[.pointer (some ⟨g,0,none⟩),.int .i64 last] w (fun e w'=>∃ v,e=.returned v∧OwnE 3 V7 1 w' B v (cs++[last])∧Below B w w'):=by
 have hB:=h.bsz;obtain ⟨iv,tv,cv,its,tx,h,hs⟩:=h.ex;refine (Z7f last h hc).mono ?_;rintro e w' ⟨v,rfl,ho,hm⟩;exact ⟨v,rfl,ho,hm.below (fun i hi=>(h.cuts.lt i hi).1) hB⟩
end
def Z3y (B g:Nat) (t:TypeId) (rest:List Value) (u:List Tk) (cs:List Int) (n:Nat) (w:World) (e:Ending) (w':World):Prop:=
 e=.returned (.tuple #[.int .i64 n,.int .i64 0])∧BS B g t rest u cs w'∧Below B w w'
theorem F2 (a b:UInt8) (h:a≠b):((a.toNat:Int)==(b.toNat:Int))=false:=by
 rw [aI];intro e;exact h (cN.1 yY)
theorem R9 (a b:UInt8) (h:a=b):((a.toNat:Int)==(b.toNat:Int))=true:=by
 rw [h];simp
theorem J6 (s p:fY) (b:Bool) (h:Lib.hasPrefix s.data.toList p.data.toList=b) (w:World):Calls prog 130 #[.string s,.string p] w fun e w'=>e=.returned (.bool b)∧w=w':=by
 subst h;refine (Tryz.strings_HasPrefix s p w).mono ?_;rintro e w' ⟨rfl,rfl⟩;exact ⟨rfl,rfl⟩
theorem V0f (raw s:fY) (k:Nat) (c:UInt8) (r:List UInt8) {B g:Nat} {t:TypeId} {rest:List Value} {u:List Tk} {cs:List Int} {w:World} (h:BS B g t rest u cs w) (hl:u.length+1≤512) (hlu:X3 u≤1000000) (hc:cs.length+1≤1024)
 (hk:k < raw.size) (hr:raw.size≤1000000) (hs:raw.extract k raw.size=s) (hcr:s.data.toList=c::r) (h1:c≠34) (h2:c≠123):
 Calls prog 84 #[.pointer (some ⟨g,0,none⟩),.string raw,.int .i64 k] w (Z3y B g t rest (u++[chI c]) (cs++[(k:Int)]) (k+1) w):=by
 have hh:0 < s.size:=(by rw [aC,hcr];simp);have ha:s[0]=c:=by
  have:s.data.toList[0]'(by rw [hcr];simp)=c:=(by simp only [hcr];rfl);exact this
 have CP1:=zW (J6 s (⟨#[34,34]⟩:fY) false (by rw [hcr];exact Q1m c 34 r [34] h1));have CP2:=zW (J6 s (⟨#[123,123]⟩:fY) false (by rw [hcr];exact Q1m c 123 r [123] h2));have CB:=zW (Y3l s[0] (k:Int) h hl hlu hc);rw [ha] at CB;have n1:((s[0].toNat:Int)==34)=false:=F2 s[0] 34 (by rw [ha];exact h1);have n2:((s[0].toNat:Int)==123)=false:=F2 s[0] 123 (by rw [ha];exact h2);rw [←ha] at CB;have HS:=zW hs;have hf:=zW ha;clear h hl hlu hc hcr h1 h2 ha hs;go_enter func84,ntmps84
 go_upto_region 2 with fail
 rw [HS.o];go_wp2_with (first
  | (go_at_call_of 130 (Value.string (⟨#[34,34]⟩:fY));refine (CP1.o _).mono ?_;rintro e w' ⟨rfl,rfl⟩)
  | (go_at_call_of 130 (Value.string (⟨#[123,123]⟩:fY));refine (CP2.o _).mono ?_;rintro e w' ⟨rfl,rfl⟩)
  | (go_at_call 125;refine (CB.o).mono ?_;rintro e w1 ⟨rfl,hb,hd⟩;have he:=zW hb;have hg:=zW hd;clear hb hd))
 go_ret2
 refine ⟨?_,?_,hg.o⟩
 ·rfl
 ·rw [←hf.o];exact he.o
theorem Z3d (raw s:fY) (k:Nat) (c:UInt8) (r:List UInt8) {B g:Nat} {t:TypeId} {rest:List Value} {u:List Tk} {cs:List Int} {w:World} (h:BS B g t rest u cs w) (hl:u.length+1≤512) (hlu:X3 u≤1000000) (hc:cs.length+1≤1024)
 (hk:k < raw.size) (hr:raw.size≤1000000) (hs:raw.extract k raw.size=s) (hcr:s.data.toList=c::c::r) (h1:c=34∨c=123):
 Calls prog 84 #[.pointer (some ⟨g,0,none⟩),.string raw,.int .i64 k] w (Z3y B g t rest (u++[chI c]) (cs++[(k:Int)]) (k+2) w):=by
 have hh:0 < s.size:=(by rw [aC,hcr];simp);have hf:s[0]=c:=by
  have:s.data.toList[0]'(by rw [hcr];simp)=c:=(by simp only [hcr];rfl);exact this
 have CB:=zW (Y3l s[0] (k:Int) h hl hlu hc);have HS:=zW hs;have hg:=zW hf;rcases h1 with rfl | rfl
 ·have CP1:=zW (J6 s (⟨#[34,34]⟩:fY) true (by rw [hcr];exact M4 [34,34] r));clear h hl hlu hc hcr hf hs;go_enter func84,ntmps84
  go_upto_region 2 with fail
  rw [HS.o];go_wp2_with (first
   | (go_at_call_of 130 (Value.string (⟨#[34,34]⟩:fY));refine (CP1.o _).mono ?_;rintro e w' ⟨rfl,rfl⟩)
   | (go_at_call 125;refine (CB.o).mono ?_;rintro e w1 ⟨rfl,ha,hb⟩;have hd:=zW ha;have he:=zW hb;clear ha hb))
  go_ret2
  refine ⟨?_,?_,he.o⟩
  ·rfl
  ·rw [←hg.o];exact hd.o
 ·have CP1:=zW (J6 s (⟨#[34,34]⟩:fY) false (by rw [hcr];exact Q1m 123 34 (123::r) [34] yX));have CP2:=zW (J6 s (⟨#[123,123]⟩:fY) true (by rw [hcr];exact M4 [123,123] r));clear h hl hlu hc hcr hf hs;go_enter func84,ntmps84
  go_upto_region 2 with fail
  rw [HS.o];go_wp2_with (first
   | (go_at_call_of 130 (Value.string (⟨#[34,34]⟩:fY));refine (CP1.o _).mono ?_;rintro e w' ⟨rfl,rfl⟩)
   | (go_at_call_of 130 (Value.string (⟨#[123,123]⟩:fY));refine (CP2.o _).mono ?_;rintro e w' ⟨rfl,rfl⟩)
   | (go_at_call 125;refine (CB.o).mono ?_;rintro e w1 ⟨rfl,ha,hb⟩;have hd:=zW ha;have he:=zW hb;clear ha hb))
  go_ret2
  refine ⟨?_,?_,he.o⟩
  ·rfl
  ·rw [←hg.o];exact hd.o
theorem I1 (s:fY) (b:Nat) (z:Int) (h:Lib.indexByte s.data.toList (b:Int).toNat.toUInt8=z) (w:World):Calls prog 126 #[.string s,.int .u8 b] w fun e w'=>e=.returned (.int .i64 z)∧w=w':=by
 subst h;exact Z8f s b w
theorem Z0b (raw s nm:fY) (k:Nat) (r:List UInt8) {B g:Nat} {t:TypeId} {rest:List Value} {u:List Tk} {cs:List Int} {w:World} (h:BS B g t rest u cs w) (hl:u.length+1≤512) (hlu:X3 u≤1000000) (hc:cs.length+1≤1024)
 (hk:k < raw.size) (hr:raw.size≤1000000) (hs:raw.extract k raw.size=s) (hcr:s.data.toList=123::nm.data.toList++125::r) (hn:U3 nm.data.toList=true):
 Calls prog 84 #[.pointer (some ⟨g,0,none⟩),.string raw,.int .i64 k] w (Z3y B g t rest (u++[⟨5,nm,0⟩]) (cs++[(k:Int)]) (k+(nm.size+2)) w):=by
 have hp:s.size=nm.size+2+r.length:=(by rw [aC,hcr,aC nm];simp;omega);have ht:0 < s.size:=yY;have hq:s.size≤raw.size:=(by rw [←hs,cJ];omega);have ha:s[0]=123:=by
  have:s.data.toList[0]'(by rw [hcr];simp)=123:=(by simp only [hcr];rfl);exact this
 have hm:nm.size≤maxLen:=(by unfold maxLen;omega);have ho:s.extract 1 (nm.size+1)=nm:=by
  apply cB;apply bX.1;rw [aC nm];simp only [cX,dG,cU,hcr];simp
 have hf:∃ d l,nm.data.toList=d::l∧d≠123:=by
  obtain ⟨d,l,e,hh,_⟩:=L3 _ hn;exact ⟨d,l,e,T8 d hh 123 yW⟩
 have CP1:=zW (J6 s (⟨#[34,34]⟩:fY) false (by rw [hcr];exact Q1m 123 34 _ [34] yX));have CP2:=zW (J6 s (⟨#[123,123]⟩:fY) false (by
  obtain ⟨d,l,e,hd⟩:=hf;rw [hcr,e];show Lib.hasPrefix (123::d::(l++125::r)) [123,123]=false;unfold Lib.hasPrefix;have hb:(123==d)=false:=(by simpa using fun e:123=d=>hd e.symm);simp [List.isPrefixOf,hb]))
 have CI:=zW (I1 s 125 ((nm.size+1:Nat):Int) (by rw [hcr,aC nm];exact X9r nm.data.toList r hn));have CN:=zW (fun w=>M7 nm w hm);rw [hn] at CN;have CB:=zW (V1n ⟨5,nm,0⟩ (by show (5:Int)≠1;decide) (k:Int) h hl hlu hc);have HS:=zW hs;have n1:((s[0].toNat:Int)==34)=false:=F2 s[0] 34 (by rw [ha];decide);have n2:((s[0].toNat:Int)==123)=true:=R9 s[0] 123 ha;clear h hl hlu hc hcr hs hf ha;go_enter func84,ntmps84
 go_upto_region 2 with fail
 rw [HS.o];go_wp2_with (first
  | (go_at_call_of 130 (Value.string (⟨#[34,34]⟩:fY));refine (CP1.o _).mono ?_;rintro e w' ⟨rfl,rfl⟩)
  | (go_at_call_of 130 (Value.string (⟨#[123,123]⟩:fY));refine (CP2.o _).mono ?_;rintro e w' ⟨rfl,rfl⟩)
  | (go_at_call 126;refine (CI.o _).mono ?_;rintro e w' ⟨rfl,rfl⟩)
  | (go_at_call 114;refine (CN.o _).mono ?_;rintro e w' ⟨rfl,rfl⟩)
  | (go_at_call 127;refine (CB.o).mono ?_;rintro e w1 ⟨rfl,he,hg⟩;have hi:=zW he;have hj:=zW hg;clear he hg))
 go_ret2
 refine ⟨?_,hi.o,hj.o⟩;have e:((k:Int)+((nm.size:Int)+1)+1)=((k+(nm.size+2):Nat):Int):=yY;exact Q5w (by rw [←e];rfl)
theorem Q1e (raw:fY) (k:Nat):(raw.extract k raw.size).data.toList=raw.data.toList.drop k:=by
 simp only [cX,dG,cU];rw [bP (by rw [bM,aC];omega)]
theorem Z3c (raw:fY) (k:Nat) (rest':List UInt8) {B g:Nat} {t:TypeId} {rest:List Value} {u:List Tk} {cs:List Int} {w:World} (h:BS B g t rest u cs w) (hl:u.length+1≤512) (hlu:X3 u≤1000000) (hc:cs.length+1≤1024)
 (hk:k < raw.size) (hr:raw.size≤1000000):∀ (fmt:Int) (r:List UInt8) (o:Option Tk),ElOk fmt r o→fmt=3→raw.data.toList.drop k=r++rest'→
 ∃ x,o=some x∧Calls prog 84 #[.pointer (some ⟨g,0,none⟩),.string raw,.int .i64 k] w (Z3y B g t rest (u++[x]) (cs++[(k:Int)]) (k+r.length) w):=by
 intro fmt r o he hf hd;have hx:=Q1e raw k;rw [hd] at hx;cases he with
 | slot _ n hn=>
   refine ⟨_,rfl,?_⟩;have e:(123::n++[125]).length=(ofL n).size+2:=(by rw [aC];simp [ofL]);rw [e];exact Z0b raw _ (ofL n) k rest' h hl hlu hc hk hr rfl (by rw [hx];simp [ofL]) (by simpa [ofL] using hn)
 | ch3 c hc3=>exact ⟨_,rfl,V0f raw _ k c rest' h hl hlu hc hk hr rfl (by rw [hx];rfl) hc3.1 hc3.2⟩
 | two c hc3=>exact ⟨_,rfl,Z3d raw _ k c rest' h hl hlu hc hk hr rfl (by rw [hx];rfl) hc3⟩
 | ch1=>exact absurd hf yX
 | ref=>exact absurd hf yX
 | opn=>exact absurd hf yX
 | cls=>exact absurd hf yX
 | emp=>exact absurd hf yX
 | ch2=>exact absurd hf yX
 | esc=>exact absurd hf yX
 | cont=>exact absurd hf yX
theorem X7j (fmt:Int) (r:List UInt8) (o:Option Tk) (he:ElOk fmt r o):0 < r.length:=by
 cases he with
 | ref _ c h=> 
   simp only [X5l,aU,eX,cL,eL] at h;rcases h with ⟨rfl,_⟩ | ⟨rfl,_⟩ | ⟨rfl,_⟩ | ⟨rfl,_⟩ | ⟨rfl,_⟩<;>decide
 | _=>simp
def K4 (ts:Els) (j:Nat):Nat:=(Q2 (ts.take j)).length
theorem Q2i (ts:Els) (j:Nat) (h:j < ts.length):K4 ts (j+1)=K4 ts j+ts[j].1.length:=by
 unfold K4;rw [V4v ts j h,aA]
theorem X8z (ts:Els):K4 ts ts.length=(Q2 ts).length:=by unfold K4;rw [aW]
theorem Q8q (ts:Els) (j:Nat) (h:j < ts.length):(Q2 ts).drop (K4 ts j)=ts[j].1++Q2 (ts.drop (j+1)):=by
 have e:=Y2l ts j h;have:=congrArg (List.drop (K4 ts j)) e;rw [this];exact dR
theorem X6h (ts:Els) (j:Nat) (h:j < ts.length) (h0:0 < ts[j].1.length):K4 ts j < (Q2 ts).length:=by
 have e:=congrArg List.length (Y2l ts j h);rw [aA,aA] at e;unfold K4;omega
theorem X1p (ts:Els) (j:Nat) (h:j < ts.length) (x:Tk) (hx:ts[j].2=some x):X0 (ts.take (j+1))=X0 (ts.take j)++[x]:=by
 rw [aH h,M0];congr 1;simp [X0,hx]
theorem Y7c:∀ (ts:Els) (p:Nat),(∀ e∈ts,e.2≠none)→H9 ts p p=p+(Q2 ts).length
 | [],p,_=>by simp [H9,Q2]
 | (r,none)::ts,p,h=>absurd rfl (h (r,none) yW)
 | (r,some x)::ts,p,h=>by
   rw [H9,Y7c ts _ fun e he=>h e (dQ _ he),show Q2 ((r,some x)::ts)=r++Q2 ts from rfl,aA,dO]
def csE (ts:Els):List Int:=(Q4c ts 0 0).map fun (n:Nat)=>(n:Int)
theorem Z4p (ts:Els) (j:Nat) (h:j < ts.length) (hall:∀ e∈ts,e.2≠none):csE (ts.take (j+1))=csE (ts.take j)++[(K4 ts j:Int)]:=by
 unfold csE;rw [aH h,Q6p,cP];congr 1;have he:=Y7c (ts.take j) 0 fun e he=>hall e (bY he);rw [bI] at he;obtain ⟨x,hx⟩:=Option.ne_none_iff_exists'.1 (hall _ (aL h));have e2:ts[j]=(ts[j].1,some x):=(by rw [←hx]);rw [e2];show [((H9 (ts.take j) 0 0:Nat):Int)]=_;rw [he];rfl
theorem Q5h (ts:Els):(csE ts).length=(X0 ts).length:=by unfold csE;rw [bA,X0y]
theorem Q1g (ts:Els) (j:Nat):(X0 (ts.take j)).length≤(X0 ts).length:=by
 have:=congrArg X0 (bR j ts);rw [M0] at this;rw [←this,aA];omega
structure Rdb (fmt:Int) (raw:fY) (ts:Els):Prop where
 eq:raw.data.toList=Q2 ts
 els:∀ e∈ts,ElOk fmt e.1 e.2
 len:(X0 ts).length≤500
 sz:raw.size≤1000000
theorem S8:∀ (u:List Tk),(∀ x∈u,One x)→X3 u≤u.length
 | [],_=>yQ
 | x::u,h=>by
   have h1:wdI x≤1:=by
    unfold wdI;split
    ·rename_i hk;obtain ⟨c,hc⟩:=h x yW hk;rw [hc];exact Nat.le_refl 1
    ·exact Nat.le_refl 1
   have h2:=S8 u fun y hy=>h y (by simp [hy]);show wdI x+X3 u≤u.length+1;omega
theorem U1j (fmt:Int) (r:List UInt8) (x:Tk) (he:ElOk fmt r (some x)):One x:=by
 cases he<;>first | exact fun _=>⟨_,rfl⟩ | (intro h;exact absurd h yW)
theorem Q3m (fmt:Int) (ts:Els) (h:∀ e∈ts,ElOk fmt e.1 e.2):∀ x∈X0 ts,One x:=by
 intro x hx;obtain ⟨e,he,hx⟩:=List.mem_filterMap.1 hx;have:=h e he;rw [hx] at this;exact U1j _ _ _ this
theorem X0z (r:List UInt8) (o:Option Tk):∀ fmt,ElOk fmt r o→fmt≠2→o≠none:=by
 intro fmt he hf;cases he with
 | cont=>exact absurd rfl hf
 | _=>simp
def Z3z (B0:Nat) (t:TypeId) (u:List Tk) (cs:List Int) (w:World) (e:Ending) (w':World):Prop:=
 ∃ g,e=.returned (.tuple #[.pointer (some ⟨g,0,none⟩),.int .i64 0,.int .i64 0])∧BS B0 g t [] u cs w'∧Below B0 w w'
theorem X9p (raw:fY) (ts:Els) (w:World) (h:Rdb 3 raw ts):
 Calls prog 45 #[.string raw] w (Z3z w.heap.size 91 (X0 ts) (csE ts) w):=by
 obtain ⟨R,hk⟩:∃ R,yK (R=Z3z w.heap.size 91 (X0 ts) (csE ts) w):=⟨_,rfl⟩;rw [←hk.o];have hc:yK (BS w.heap.size w.heap.size 91 [] [] [] (w.alloc (.cells #[.slice none 0 0,.slice none 0 0,.slice none 0 0] 91))):=
  ⟨⟨_,_,_,[],⟨#[]⟩,Bd.start yQ rfl yX,BSt.nil⟩⟩
 have hf:=zW ((aB w.heap.size w).alloc yQ (.cells #[.slice none 0 0,.slice none 0 0,.slice none 0 0] 91));have ho:raw.size=(Q2 ts).length:=(by rw [aC,h.eq]);have hl:=zW ho;have H:=zW h;clear h ho;go_enter func45,ntmps45
 go_wp2_with fail
 go_loopg [6] ts.length (fun gk iv wr=>∃ j,iv=.int .i64 (K4 ts j:Nat)∧j≤ts.length∧yK (BS w.heap.size w.heap.size 91 [] (X0 (ts.take j)) (csE (ts.take j)) wr)∧yK (Below w.heap.size w wr)∧ts.length - j≤gk)
 case atStart=>exact ⟨0,rfl,aO _,hc.o,hf.o,yQ⟩
 case round=>
  obtain ⟨j,rfl,hj,HB,HL,hgk⟩:=hrel;by_cases hlt:j < ts.length
  ·have ha:=aL hlt;have hb:=H.o.els _ ha;have hp:=X6h ts j hlt (X7j _ _ _ hb);have hn:K4 ts j < raw.size:=(by rw [hl.o];exact hp);have hd:=Q8q ts j hlt;rw [←H.o.eq] at hd;have hg:=Q1g ts (j+1);have ht:=H.o.len;have hv:=H.o.sz;obtain ⟨x,hx⟩:=Option.ne_none_iff_exists'.1 (X0z _ _ _ hb yX);have hh:=X1p ts j hlt x hx;have hm:=Z4p ts j hlt fun e he=>X0z _ _ _ (H.o.els e he) yX;rw [hh,aA] at hg;have hs:(X0 (ts.take j)).length+1≤500:=(by simp at hg;omega);have hu:X3 (X0 (ts.take j))≤500:=aP (S8 _ (Q3m 3 (ts.take j) fun e he=>H.o.els e (bY he))) yY;obtain ⟨x',hx',hC⟩:=Z3c raw (K4 ts j) _ HB.o yY yY (by rw [Q5h];omega) hn hv 3 _ _ hb rfl hd;rw [hx] at hx';injection hx' with hx';subst hx';rw [←hh,←hm,←Q2i ts j hlt] at hC;have HC:=zW hC;have hw:=zW (HB.o.bsz);clear hC hh hm hx hd hb ha hc hf hg hu hp;have hi:((K4 ts j:Nat):Int) < (raw.size:Int):=yY;generalize K4 ts j=pj at hn hi HC ⊢;go_wp2_with fail
   refine (HC.o).mono ?_;rintro e w1 ⟨rfl,hb1,hw1⟩;have hq:=zW hb1;have hr:=zW (HL.o.trans hw1);clear hb1 hw1;go_wp2_with fail
   go_roundg (ts.length - (j+1))
   case measure=>omega
   case rel=>exact ⟨j+1,rfl,hlt,hq.o,hr.o,yY⟩
  ·obtain rfl:j=ts.length:=yY;have he:K4 ts ts.length=raw.size:=(by rw [hl.o];exact X8z ts);rw [he];rw [aW] at HB;clear hc hf he;go_wp2_with fail
   go_ret3
   rw [hk.o];exact ⟨_,rfl,HB.o,HL.o⟩
theorem X2p (raw:fY) (ts:Els) (w:World) (h:Rdb 3 raw ts):
 Calls prog 15 #[.string raw] w (fun e w'=>∃ v,e=.returned (.tuple #[v,.int .i64 0,.int .i64 0])∧OwnT 31 w' w.heap.size v (Q4 (X0 ts))∧Below w.heap.size w w'):=by
 have HR:=zW (X9p raw ts w h);have HL:yK ((X0 ts).length≤500):=h.len;have HU:yK (X3 (X0 ts)≤500):=aP (S8 _ (Q3m 3 ts h.els)) h.len;clear h;go_enter func15,ntmps15
 go_wp2_with fail
 refine (HR.o).mono ?_;rintro e w1 ⟨g,rfl,hb,hw⟩;have HI:=zW (Y3m hb (by have:=HL.o;omega) (by have:=HU.o;omega));have HW:=zW hw;clear hb hw HR;go_wp2_with fail
 refine (HI.o).mono ?_;rintro e w2 ⟨v,rfl,ho,hw2⟩;have HO:=zW ho;have ha:=zW (HW.o.trans hw2);obtain ⟨A,c,rfl⟩:=Q0 ho;clear ho hw2;go_wp2_with fail
 go_ret3
 exact ⟨_,rfl,HO.o,ha.o⟩
theorem Z3b (raw:fY) (ts:Els) (w:World) (h:Rdb 3 raw ts):
 Calls prog 108 #[.string raw] w (fun e w'=>∃ v,e=.returned (.tuple #[v,.int .i64 0])∧OwnE 3 V7 1 w' w.heap.size v (csE ts++[((Q2 ts).length:Int)])∧Below w.heap.size w w'):=by
 have HR:=zW (X9p raw ts w h);have HL:yK ((csE ts).length≤500):=(by show _≤_;rw [Q5h];exact h.len);have ha:(Q2 ts).length=raw.size:=(by rw [aC,h.eq]);rw [ha];clear h ha;go_enter func108,ntmps108
 go_wp2_with fail
 refine (HR.o).mono ?_;rintro e w1 ⟨g,rfl,hb,hw⟩;have HI:=zW (Z1a (raw.size:Int) hb (by have:=HL.o;omega));have HW:=zW hw;clear hb hw HR;go_wp2_with fail
 refine (HI.o).mono ?_;rintro e w2 ⟨v,rfl,ho,hw2⟩;have HO:=zW ho;have hc:=zW (HW.o.trans hw2);obtain ⟨A,c,hv⟩:=Q0 ho;rw [show (csE ts++[(raw.size:Int)]).length=(csE ts).length+1 by simp] at hv;subst hv;clear ho hw2;go_wp2_with fail
 go_ret2
 exact ⟨_,rfl,HO.o,hc.o⟩
section
variable {B g:Nat} {t:TypeId} {rest:List Value} {u:List Tk} {cs:List Int} {w w':World}
theorem BS.cellR (h:BS B g t rest u cs w) {i:Nat} {v:Value} (hu:rest[i]? =some v):w.cell? ⟨g,3+i,none⟩=some v:=by
 obtain ⟨_,_,_,_,_,h,_⟩:=h.ex;exact h.cellR hu
theorem BS.frozen (h:BS B g t rest u cs w) (j:Nat):w.frozen? ⟨g,j,none⟩=false:=by
 obtain ⟨_,_,_,_,_,h,_⟩:=h.ex;exact h.frozen j
theorem BS.putR (h:BS B g t rest u cs w) (i:Nat) (v:Value):BS B g t (rest.set i v) u cs (w.setCell ⟨g,3+i,none⟩ v)∧Below B w (w.setCell ⟨g,3+i,none⟩ v):=by
 have hB:=h.bsz;obtain ⟨iv,tv,cv,its,tx,h,hs⟩:=h.ex;obtain ⟨h1,h2⟩:=h.putR i v;exact ⟨⟨iv,tv,cv,its,tx,h1,hs⟩,h2.below (fun k hk=>by rw [hk];exact h.lt) hB⟩
end
def Y5w (B g:Nat) (t:TypeId) (u:List Tk) (cs:List Int) (n:Nat) (w:World) (e:Ending) (w':World):Prop:=
 e=.returned (.tuple #[.int .i64 n,.int .i64 0])∧BS B g t [.int .i64 n,.int .i64 n] u cs w'∧Below B w w'
theorem V0c (raw s:fY) (k:Nat) (b:Int) (c:UInt8) (r:List UInt8) {B g:Nat} {t:TypeId} {u:List Tk} {cs:List Int} {w:World} (h:BS B g t [.int .i64 b,.int .i64 b] u cs w) (hl:u.length+1≤512) (hlu:X3 u≤1000000) (hc:cs.length+1≤1024)
 (hk:k < raw.size) (hr:raw.size≤1000000) (hs:raw.extract k raw.size=s) (hcr:s.data.toList=c::r) (h0:c≠10) (h1:c≠92) (h2:c≠123):
 Calls prog 83 #[.pointer (some ⟨g,0,none⟩),.string raw,.int .i64 k] w (Y5w B g t (u++[chI c]) (cs++[b]) (k+1) w):=by
 have hh:0 < s.size:=(by rw [aC,hcr];simp);have hb:s[0]=c:=by
  have:s.data.toList[0]'(by rw [hcr];simp)=c:=(by simp only [hcr];rfl);exact this
 have CB:=zW (fun w (h:BS B g t [.int .i64 b,.int .i64 b] u cs w)=>Y3l s[0] b h hl hlu hc);have n0:((s[0].toNat:Int)==10)=false:=F2 s[0] 10 (by rw [hb];exact h0);have n1:((s[0].toNat:Int)==92)=false:=F2 s[0] 92 (by rw [hb];exact h1);have n2:((s[0].toNat:Int)==123)=false:=F2 s[0] 123 (by rw [hb];exact h2);have HS:=zW hs;have hf:=zW hb;have q3:w.cell? ⟨g,3,none⟩=some (.int .i64 b):=h.cellR (i:=0) rfl;have H:=zW h;clear h hl hlu hc hcr h0 h1 h2 hb hs;go_enter func83,ntmps83
 go_upto_region 2 with fail
 rw [HS.o];go_wp2_with fail
 go_region_with (go_at_call 125;refine (CB.o _ (by exact H.o.below (Q1 (aB _ _) 1))).mono ?_;rintro e w1 ⟨rfl,ha,he⟩;have hd:=zW ha;have hg:=zW ((Q1 (aB B w) 1).trans he);have z3:w1.cell? ⟨g,3,none⟩=some (.int .i64 b):=ha.cellR (i:=0) rfl;have z4:(w1.setCell ⟨g,3,none⟩ (.int .i64 ((k:Int)+1))).cell? ⟨g,4,none⟩=some (.int .i64 b):=((ha.putR 0 (.int .i64 ((k:Int)+1))).1).cellR (i:=1) rfl;have y3:=ha.frozen 3;have y4:=ha.frozen 4;clear ha he)
 all_goals (
  go_wp2_with fail
  go_ret2
  refine ⟨rfl,?_,?_⟩
  ·rw [←hf.o];exact ((hd.o.putR 0 (.int .i64 ((k+1:Nat):Int))).1.putR 1 (.int .i64 ((k+1:Nat):Int))).1
  ·exact hg.o.trans ((hd.o.putR 0 (.int .i64 ((k+1:Nat):Int))).2.trans ((hd.o.putR 0 (.int .i64 ((k+1:Nat):Int))).1.putR 1 (.int .i64 ((k+1:Nat):Int))).2))
theorem Z2u (e c:UInt8) (h:(e,c)∈Z1j) (w:World):Calls prog 129 #[.int .u8 e.toNat] w fun e' w'=>e'=.returned (.tuple #[.int .u8 c.toNat,.bool true])∧w=w':=by
 simp only [Z1j,aU,eX,cL,eL] at h;rcases h with ⟨rfl,rfl⟩ | ⟨rfl,rfl⟩ | ⟨rfl,rfl⟩ | ⟨rfl,rfl⟩ | ⟨rfl,rfl⟩ | ⟨rfl,rfl⟩
 ·show Calls _ _ #[.int .u8 110] _ _;go_enter func129,ntmps129
  go_wp2
  go_ret2
  exact ⟨rfl,rfl⟩
 ·show Calls _ _ #[.int .u8 116] _ _;go_enter func129,ntmps129
  go_wp2
  go_ret2
  exact ⟨rfl,rfl⟩
 ·show Calls _ _ #[.int .u8 115] _ _;go_enter func129,ntmps129
  go_wp2
  go_ret2
  exact ⟨rfl,rfl⟩
 ·show Calls _ _ #[.int .u8 114] _ _;go_enter func129,ntmps129
  go_wp2
  go_ret2
  exact ⟨rfl,rfl⟩
 ·show Calls _ _ #[.int .u8 92] _ _;go_enter func129,ntmps129
  go_wp2
  go_ret2
  exact ⟨rfl,rfl⟩
 ·show Calls _ _ #[.int .u8 123] _ _;go_enter func129,ntmps129
  go_wp2
  go_ret2
  exact ⟨rfl,rfl⟩
theorem Z7w (e c:UInt8) (h:(e,c)∈Z1j):e≠10:=by
 simp only [Z1j,aU,eX,cL,eL] at h;rcases h with ⟨rfl,_⟩ | ⟨rfl,_⟩ | ⟨rfl,_⟩ | ⟨rfl,_⟩ | ⟨rfl,_⟩ | ⟨rfl,_⟩<;>decide
theorem Z2z (raw s:fY) (k:Nat) (b:Int) (d c:UInt8) (r:List UInt8) {B g:Nat} {t:TypeId} {u:List Tk} {cs:List Int} {w:World} (h:BS B g t [.int .i64 b,.int .i64 b] u cs w) (hl:u.length+1≤512) (hlu:X3 u≤1000000) (hc:cs.length+1≤1024)
 (hk:k < raw.size) (hr:raw.size≤1000000) (hs:raw.extract k raw.size=s) (hcr:s.data.toList=92::d::r) (hd:(d,c)∈Z1j):
 Calls prog 83 #[.pointer (some ⟨g,0,none⟩),.string raw,.int .i64 k] w (Y5w B g t (u++[chI c]) (cs++[b]) (k+2) w):=by
 have hi:1 < s.size:=(by rw [aC,hcr];simp);have hj:0 < s.size:=yY;have he:s[0]=92:=by
  have:s.data.toList[0]'(by rw [hcr];simp)=92:=(by simp only [hcr];rfl);exact this
 have hf:s[1]=d:=by
  have:s.data.toList[1]'(by rw [hcr];simp)=d:=(by simp only [hcr];rfl);exact this
 have CB:=zW (fun w (h:BS B g t [.int .i64 b,.int .i64 b] u cs w)=>Y3l c b h hl hlu hc);have CE:=zW (fun w=>Z2u s[1] c (by rw [hf];exact hd) w);have n0:((s[0].toNat:Int)==10)=false:=F2 s[0] 10 (by rw [he];decide);have n1:((s[0].toNat:Int)==92)=true:=R9 s[0] 92 he;have n3:((s[1].toNat:Int)==10)=false:=F2 s[1] 10 (by rw [hf];exact Z7w d c hd);have HS:=zW hs;have q3:w.cell? ⟨g,3,none⟩=some (.int .i64 b):=h.cellR (i:=0) rfl;have H:=zW h;clear h hl hlu hc hcr he hs hd hf;go_enter func83,ntmps83
 go_upto_region 2 with fail
 rw [HS.o];go_wp2_with (go_at_call 129;refine (CE.o _).mono ?_;rintro e w' ⟨rfl,rfl⟩)
 go_region_with (go_at_call 125;refine (CB.o _ (by exact H.o.below (Q1 (aB _ _) 1))).mono ?_;rintro e w1 ⟨rfl,ha,hg⟩;have hb:=zW ha;have hh:=zW ((Q1 (aB B _) 1).trans hg);have z3:w1.cell? ⟨g,3,none⟩=some (.int .i64 b):=ha.cellR (i:=0) rfl;have z4:(w1.setCell ⟨g,3,none⟩ (.int .i64 ((k:Int)+2))).cell? ⟨g,4,none⟩=some (.int .i64 b):=((ha.putR 0 (.int .i64 ((k:Int)+2))).1).cellR (i:=1) rfl;have y3:=ha.frozen 3;have y4:=ha.frozen 4;clear ha hg)
 all_goals (
  go_wp2_with fail
  go_ret2
  refine ⟨rfl,?_,?_⟩
  ·exact ((hb.o.putR 0 (.int .i64 ((k+2:Nat):Int))).1.putR 1 (.int .i64 ((k+2:Nat):Int))).1
  ·exact hh.o.trans ((hb.o.putR 0 (.int .i64 ((k+2:Nat):Int))).2.trans ((hb.o.putR 0 (.int .i64 ((k+2:Nat):Int))).1.putR 1 (.int .i64 ((k+2:Nat):Int))).2))
theorem Y9p (raw s nm:fY) (k:Nat) (b:Int) (r:List UInt8) {B g:Nat} {t:TypeId} {u:List Tk} {cs:List Int} {w:World} (h:BS B g t [.int .i64 b,.int .i64 b] u cs w) (hl:u.length+1≤512) (hlu:X3 u≤1000000) (hc:cs.length+1≤1024)
 (hk:k < raw.size) (hr:raw.size≤1000000) (hs:raw.extract k raw.size=s) (hcr:s.data.toList=123::nm.data.toList++125::r) (hn:U3 nm.data.toList=true):
 Calls prog 83 #[.pointer (some ⟨g,0,none⟩),.string raw,.int .i64 k] w (Y5w B g t (u++[⟨5,nm,0⟩]) (cs++[b]) (k+(nm.size+2)) w):=by
 have hj:s.size=nm.size+2+r.length:=(by rw [aC,hcr,aC nm];simp;omega);have ho:0 < s.size:=yY;have hh:1 < s.size:=yY;have hm:s.size≤raw.size:=(by rw [←hs,cJ];omega);have hb:s[0]=123:=by
  have:s.data.toList[0]'(by rw [hcr];simp)=123:=(by simp only [hcr];rfl);exact this
 have hg:nm.size≤maxLen:=(by unfold maxLen;omega);have hi:s.extract 1 (nm.size+1)=nm:=by
  apply cB;apply bX.1;rw [aC nm];simp only [cX,dG,cU,hcr];simp
 have CI:=zW (I1 s 125 ((nm.size+1:Nat):Int) (by rw [hcr,aC nm];exact X9r nm.data.toList r hn));have CN:=zW (fun w=>M7 nm w hg);rw [hn] at CN;have CB:=zW (fun w (h:BS B g t [.int .i64 b,.int .i64 b] u cs w)=>V1n ⟨5,nm,0⟩ (by show (5:Int)≠1;decide) b h hl hlu hc);have n0:((s[0].toNat:Int)==10)=false:=F2 s[0] 10 (by rw [hb];decide);have n1:((s[0].toNat:Int)==92)=false:=F2 s[0] 92 (by rw [hb];decide);have n2:((s[0].toNat:Int)==123)=true:=R9 s[0] 123 hb;have HS:=zW hs;have q3:w.cell? ⟨g,3,none⟩=some (.int .i64 b):=h.cellR (i:=0) rfl;have H:=zW h;clear h hl hlu hc hcr hb hs;go_enter func83,ntmps83
 go_upto_region 2 with fail
 rw [HS.o];go_wp2_with (first
  | (go_at_call 126;refine (CI.o _).mono ?_;rintro e w' ⟨rfl,rfl⟩)
  | (go_at_call 114;refine (CN.o _).mono ?_;rintro e w' ⟨rfl,rfl⟩))
 go_region_with (go_at_call 127;refine (CB.o _ (by exact H.o.below (Q1 (aB _ _) 1))).mono ?_;rintro e w1 ⟨rfl,ha,he⟩;have hd:=zW ha;have hf:=zW ((Q1 (aB B _) 1).trans he);have z3:w1.cell? ⟨g,3,none⟩=some (.int .i64 b):=ha.cellR (i:=0) rfl;have z4:(w1.setCell ⟨g,3,none⟩ (.int .i64 ((k:Int)+((nm.size:Int)+1)+1))).cell? ⟨g,4,none⟩=some (.int .i64 b):=((ha.putR 0 (.int .i64 ((k:Int)+((nm.size:Int)+1)+1))).1).cellR (i:=1) rfl;have y3:=ha.frozen 3;have y4:=ha.frozen 4;clear ha he)
 all_goals (
  go_wp2_with fail
  go_ret2
  have e:((k+(nm.size+2):Nat):Int)=((k:Int)+((nm.size:Int)+1)+1):=yY;unfold Y5w;rw [e];refine ⟨rfl,?_,?_⟩
  ·exact ((hd.o.putR 0 (.int .i64 ((k:Int)+((nm.size:Int)+1)+1))).1.putR 1 (.int .i64 ((k:Int)+((nm.size:Int)+1)+1))).1
  ·exact hf.o.trans ((hd.o.putR 0 (.int .i64 ((k:Int)+((nm.size:Int)+1)+1))).2.trans ((hd.o.putR 0 (.int .i64 ((k:Int)+((nm.size:Int)+1)+1))).1.putR 1 (.int .i64 ((k:Int)+((nm.size:Int)+1)+1))).2))
theorem Y5c (c:UInt8) (h:c=32∨c=9) (w:World):Calls prog 128 #[.int .u8 c.toNat] w fun e w'=>e=.returned (.bool true)∧w=w':=by
 rcases h with rfl | rfl
 ·show Calls _ _ #[.int .u8 32] _ _;go_enter func128,ntmps128
  go_wp2
  go_ret
  exact ⟨rfl,rfl⟩
 ·show Calls _ _ #[.int .u8 9] _ _;go_enter func128,ntmps128
  go_wp2
  go_ret
  exact ⟨rfl,rfl⟩
theorem Y9h (c:UInt8) (h:c≠32∧c≠9) (w:World):Calls prog 128 #[.int .u8 c.toNat] w fun e w'=>e=.returned (.bool false)∧w=w':=by
 have n1:((c.toNat:Int)==32)=false:=F2 c 32 h.1;have n2:((c.toNat:Int)==9)=false:=F2 c 9 h.2;go_enter func128,ntmps128
 go_wp2
 go_ret
 exact ⟨K0 (by first | rfl | simp [n1,n2]),rfl⟩
theorem Y1r (raw:fY) (p:Nat) (c:UInt8) (l:List UInt8) (h:raw.data.toList.drop p=c::l):∃ hp:p < raw.size,raw[p]=c:=by
 have hl:=congrArg List.length h;rw [bM,aG] at hl;have hp:p < raw.data.toList.length:=yY;have ha:p < raw.size:=(by rw [aC];exact hp);refine ⟨ha,?_⟩;rw [aQ hp] at h;injection h with h1 _
theorem Y9n (raw s:fY) (k g:Nat) (b r:List UInt8) (w:World)
 (hk:k < raw.size) (hr:raw.size≤1000000) (hs:raw.extract k raw.size=s) (hcr:s.data.toList=92::10::b++r) (hb:∀ c∈b,c=32∨c=9) (hrest:r.head? ≠some 32∧r.head? ≠some 9):
 Calls prog 83 #[.pointer (some ⟨g,0,none⟩),.string raw,.int .i64 k] w (fun e w'=>e=.returned (.tuple #[.int .i64 ((k+(b.length+2):Nat):Int),.int .i64 0])∧w'=w):=by
 obtain ⟨R,he⟩:∃ R:Ending→World→Prop,yK (R=fun e w'=>e=.returned (.tuple #[.int .i64 ((k+(b.length+2):Nat):Int),.int .i64 0])∧w'=w):=⟨_,rfl⟩;rw [←he.o];have hq:1 < s.size:=(by rw [aC,hcr];simp);have hv:0 < s.size:=yY;have hg:s[0]=92:=by
  have:s.data.toList[0]'(by rw [hcr];simp)=92:=(by simp only [hcr];rfl);exact this
 have hi:s[1]=10:=by
  have:s.data.toList[1]'(by rw [hcr];simp)=10:=(by simp only [hcr];rfl);exact this
 have n0:((s[0].toNat:Int)==10)=false:=F2 s[0] 10 (by rw [hg];decide);have n1:((s[0].toNat:Int)==92)=true:=R9 s[0] 92 hg;have n3:((s[1].toNat:Int)==10)=true:=R9 s[1] 10 hi;have hd:raw.data.toList.drop (k+2)=b++r:=by
  have h:=Q1e raw k;rw [hs,hcr] at h;rw [←fC,←h];rfl
 have hm:k+2+(b.length+r.length)=raw.size:=by
  have h:=congrArg List.length hd;have h2:=congrArg List.length hcr;rw [←hs,Q1e,bM,←aC] at h2;simp at h2;omega
 have ht:k+2+(b.length+r.length)≤raw.size:=yY;have hn:raw.size≤k+2+(b.length+r.length):=yY;clear hm;have HS:=zW hs;have HD:=zW hd;have HB:=zW hb;have hh:=zW hrest;clear hcr hg hs hi hd hb hrest;go_enter func83,ntmps83
 go_upto_region 2 with fail
 rw [HS.o];go_wp2_with fail
 obtain ⟨wo,hf⟩:∃ wo,yK (wo=w):=⟨w,rfl⟩;go_loopg [10] b.length (fun gk nv wr=>∃ (j p:Nat),nv=.int .i64 (p:Nat)∧p≤k+2+j∧k+2+j≤p∧j≤b.length∧yK (wr=wo)∧yK (raw.data.toList.drop p=b.drop j++r)∧b.length - j≤gk)
 case atStart=>exact ⟨0,k+2,rfl,yQ,yQ,aO _,hf.o.symm,HD.o,yQ⟩
 case round=>
  obtain ⟨j,p,rfl,hp,hu,hj,HW,ha,hgk⟩:=hrel;by_cases hlt:j < b.length
  ·have h1:=ha.o;rw [aQ hlt,aR] at h1;obtain ⟨ho,hc⟩:=Y1r raw p _ _ h1;have CB:=zW (fun w=>Y5c raw[p] (by rw [hc];exact HB.o _ (aL hlt)) w);have HN:yK (raw.data.toList.drop (p+1)=b.drop (j+1)++r):=by
    show _=_;rw [←fC,h1];rfl
   clear h1 hc ha;have hl:((p:Nat):Int) < (raw.size:Int):=yY;go_wp2_with (go_at_call 128;refine (CB.o _).mono ?_;rintro e w' ⟨rfl,rfl⟩)
   go_roundg (b.length - (j+1))
   case measure=>omega
   case rel=>exact ⟨j+1,p+1,rfl,yY,yY,hlt,HW.o,HN.o,yY⟩
  ·obtain rfl:j=b.length:=yY;have hE:yK ((p:Int)=((k+(b.length+2):Nat):Int)):=(by show _=_;omega);have h1:=ha.o;rw [eF,bJ] at h1;cases r with
   | nil=>
     have hl:¬ ((p:Nat):Int) < (raw.size:Int):=(by simp at hn;omega);clear h1 ha HD;go_wp2_with fail
     first | go_ret2 | skip
     rw [he.o,←hE.o,HW.o,hf.o];exact ⟨rfl,rfl⟩
   | cons c l=>
     obtain ⟨ho,hc⟩:=Y1r raw p _ _ h1;have CB:=zW (fun w=>Y9h raw[p] (by rw [hc];exact ⟨fun e=>hh.o.1 (by rw [e];rfl),fun e=>hh.o.2 (by rw [e];rfl)⟩) w);clear h1 hc ha HD;have hl:((p:Nat):Int) < (raw.size:Int):=yY;go_wp2_with (go_at_call 128;refine (CB.o _).mono ?_;rintro e w' ⟨rfl,rfl⟩)
     first | go_ret2 | skip
     rw [he.o,←hE.o,HW.o,hf.o];exact ⟨rfl,rfl⟩
theorem Y9q (raw:fY) (k:Nat) (b:Int) (rest':List UInt8) {B g:Nat} {t:TypeId} {u:List Tk} {cs:List Int} {w:World} (h:BS B g t [.int .i64 b,.int .i64 b] u cs w) (hl:u.length+1≤512) (hlu:X3 u≤1000000) (hc:cs.length+1≤1024)
 (hk:k < raw.size) (hr:raw.size≤1000000) (x:Tk):∀ (fmt:Int) (r:List UInt8) (o:Option Tk),ElOk fmt r o→fmt=2→o=some x→raw.data.toList.drop k=r++rest'→
 Calls prog 83 #[.pointer (some ⟨g,0,none⟩),.string raw,.int .i64 k] w (Y5w B g t (u++[x]) (cs++[b]) (k+r.length) w):=by
 intro fmt r o he hf ho hd;have hx:=Q1e raw k;rw [hd] at hx;cases he with
 | slot _ n hn=>
   injection ho with ho;subst ho;have e:(123::n++[125]).length=(ofL n).size+2:=(by rw [aC];simp [ofL]);rw [e];exact Y9p raw _ (ofL n) k b rest' h hl hlu hc hk hr rfl (by rw [hx];simp [ofL]) (by simpa [ofL] using hn)
 | ch2 c hc3=>
   injection ho with ho;subst ho;exact V0c raw _ k b c rest' h hl hlu hc hk hr rfl (by rw [hx];rfl) hc3.1 hc3.2.1 hc3.2.2
 | esc d c hc3=>
   injection ho with ho;subst ho;exact Z2z raw _ k b d c rest' h hl hlu hc hk hr rfl (by rw [hx];rfl) hc3
 | cont=>cases ho
 | ch1=>exact absurd hf yX
 | ref=>exact absurd hf yX
 | opn=>exact absurd hf yX
 | cls=>exact absurd hf yX
 | emp=>exact absurd hf yX
 | ch3=>exact absurd hf yX
 | two=>exact absurd hf yX
theorem Y9o (raw:fY) (k g:Nat) (rest':List UInt8) (w:World) (hk:k < raw.size) (hr:raw.size≤1000000) (hrest:rest'.head? ≠some 32∧rest'.head? ≠some 9):∀ (fmt:Int) (r:List UInt8) (o:Option Tk),ElOk fmt r o→o=none→raw.data.toList.drop k=r++rest'→
 Calls prog 83 #[.pointer (some ⟨g,0,none⟩),.string raw,.int .i64 k] w (fun e w'=>e=.returned (.tuple #[.int .i64 ((k+r.length:Nat):Int),.int .i64 0])∧w'=w):=by
 intro fmt r o he ho hd;have hx:=Q1e raw k;rw [hd] at hx;cases he with
 | cont b hb=>
   rw [show (92::10::b).length=b.length+2 from rfl];exact Y9n raw _ k g b rest' w hk hr rfl (by rw [hx]) hb hrest
 | _=>cases ho
theorem X3m:∀ (ts:Els) (fmt:Int) (j:Nat) (h:j < ts.length),F5 ts→(∀ e∈ts,ElOk fmt e.1 e.2)→ts[j].2=none→(Q2 (ts.drop (j+1))).head? ≠some 32∧(Q2 (ts.drop (j+1))).head? ≠some 9
 | [],_,j,h,_,_,_=>absurd h (Nat.not_lt_zero _)
 | [e],_,0,_,_,_,_=>by simp [Q2]
 | [e],_,j+1,h,_,_,_=>by simp at h
 | (r,x)::(r',y)::ts,fmt,0,_,hc,he,hn=>by
   have h1:=hc.1 hn;have h2:=X7j _ _ _ (he (r',y) yW);cases r' with
   | nil=>simp at h2
   | cons c l=>exact h1
 | (r,x)::(r',y)::ts,fmt,j+1,h,hc,he,hn=>X3m ((r',y)::ts) fmt j (by simpa using h) hc.2 (fun e hh=>he e (dQ _ hh)) hn
def Q5k (ts:Els) (j:Nat):Nat:=H9 (ts.take j) 0 0
theorem Y6u (ts:Els) (j:Nat) (h:j < ts.length) (x:Tk) (hx:ts[j].2=some x):csE (ts.take (j+1))=csE (ts.take j)++[(Q5k ts j:Int)]∧Q5k ts (j+1)=K4 ts (j+1):=by
 have e2:ts[j]=(ts[j].1,some x):=(by rw [←hx]);refine ⟨?_,?_⟩
 ·unfold csE;rw [aH h,Q6p,cP];congr 1;rw [e2];rfl
 ·rw [Q2i ts j h];unfold Q5k K4;rw [aH h,X1f,e2,bI];rfl
theorem Y6t (ts:Els) (j:Nat) (h:j < ts.length) (hx:ts[j].2=none):csE (ts.take (j+1))=csE (ts.take j)∧Q5k ts (j+1)=Q5k ts j∧X0 (ts.take (j+1))=X0 (ts.take j):=by
 have e2:ts[j]=(ts[j].1,none):=(by rw [←hx]);refine ⟨?_,?_,?_⟩
 ·unfold csE;rw [aH h,Q6p,cP,e2];simp [Q4c]
 ·unfold Q5k;rw [aH h,X1f,e2];rfl
 ·rw [aH h,M0,e2];simp [X0]
theorem Z1r (ts:Els) (fmt:Int) (h:∀ e∈ts,ElOk fmt e.1 e.2) (j:Nat):X3 (X0 (ts.take j))≤(X0 ts).length:=
 aP (S8 _ (Q3m fmt (ts.take j) fun e he=>h e (bY he))) (Q1g ts j)
theorem X9m (raw:fY) (ts:Els) (w:World) (h:Rdb 2 raw ts) (hco:F5 ts):
 Calls prog 44 #[.string raw] w (fun e w'=>∃ g,e=.returned (.tuple #[.pointer (some ⟨g,0,none⟩),.int .i64 0,.int .i64 0])∧BS w.heap.size g 98 [.int .i64 (H9 ts 0 0:Nat),.int .i64 (H9 ts 0 0:Nat)] (X0 ts) (csE ts) w'∧Below w.heap.size w w'):=by
 obtain ⟨R,hi⟩:∃ R:Ending→World→Prop,yK (R=fun e w'=>∃ g,e=.returned (.tuple #[.pointer (some ⟨g,0,none⟩),.int .i64 0,.int .i64 0])∧BS w.heap.size g 98 [.int .i64 (H9 ts 0 0:Nat),.int .i64 (H9 ts 0 0:Nat)] (X0 ts) (csE ts) w'∧Below w.heap.size w w'):=⟨_,rfl⟩;rw [←hi.o];have hc:yK (BS w.heap.size w.heap.size 98 [.int .i64 0,.int .i64 0] [] [] (w.alloc (.cells #[.slice none 0 0,.slice none 0 0,.slice none 0 0,.int .i64 0,.int .i64 0] 98))):=
  ⟨⟨_,_,_,[],⟨#[]⟩,Bd.start yQ rfl yX,BSt.nil⟩⟩
 have hf:=zW ((aB w.heap.size w).alloc yQ (.cells #[.slice none 0 0,.slice none 0 0,.slice none 0 0,.int .i64 0,.int .i64 0] 98));have hn:raw.size=(Q2 ts).length:=(by rw [aC,h.eq]);have hk:=zW hn;have H:=zW h;have hr:=zW hco;clear h hn hco;go_enter func44,ntmps44
 go_wp2_with fail
 go_loopg [6] ts.length (fun gk iv wr=>∃ j,iv=.int .i64 (K4 ts j:Nat)∧j≤ts.length∧yK (BS w.heap.size w.heap.size 98 [.int .i64 (Q5k ts j:Nat),.int .i64 (Q5k ts j:Nat)] (X0 (ts.take j)) (csE (ts.take j)) wr)∧yK (Below w.heap.size w wr)∧ts.length - j≤gk)
 case atStart=>exact ⟨0,rfl,aO _,hc.o,hf.o,yQ⟩
 case round=>
  obtain ⟨j,rfl,hj,HB,HL,hgk⟩:=hrel;by_cases hlt:j < ts.length
  ·have ha:=aL hlt;have hb:=H.o.els _ ha;have hp:=X6h ts j hlt (X7j _ _ _ hb);have hg:K4 ts j < raw.size:=(by rw [hk.o];exact hp);have hd:=Q8q ts j hlt;rw [←H.o.eq] at hd;have ho:=H.o.sz;have HC:yK (Calls prog 83 #[.pointer (some ⟨w.heap.size,0,none⟩),.string raw,.int .i64 (K4 ts j:Nat)] wr (fun e w'=>e=.returned (.tuple #[.int .i64 (K4 ts (j+1):Nat),.int .i64 0])∧BS w.heap.size w.heap.size 98 [.int .i64 (Q5k ts (j+1):Nat),.int .i64 (Q5k ts (j+1):Nat)] (X0 (ts.take (j+1))) (csE (ts.take (j+1))) w'∧Below w.heap.size wr w')):=by
    show Calls _ _ _ _ _;cases hx:ts[j].2 with
    | none=>
      obtain ⟨e1,e2,e3⟩:=Y6t ts j hlt hx;rw [e1,e2,e3,Q2i ts j hlt];refine (Y9o raw (K4 ts j) w.heap.size _ wr hg ho (X3m ts 2 j hlt hr.o H.o.els hx) 2 _ _ hb hx hd).mono ?_;rintro e w' ⟨rfl,rfl⟩;exact ⟨rfl,HB.o,aB _ _⟩
    | some x=>
      obtain ⟨e1,e2⟩:=Y6u ts j hlt x hx;have hm:=X1p ts j hlt x hx;have ht:=Q1g ts (j+1);have hu:=H.o.len;have hv:=Z1r ts 2 H.o.els j;rw [hm,aA,bZ] at ht;rw [e1,e2,hm,Q2i ts j hlt];exact Y9q raw (K4 ts j) _ _ HB.o yY yY (by rw [Q5h];omega) hg ho x 2 _ _ hb rfl hx hd
   clear hd hb ha hc hf hp HB;have hh:((K4 ts j:Nat):Int) < (raw.size:Int):=yY;generalize K4 ts j=pj at hg hh HC ⊢;go_wp2_with fail
   refine (HC.o).mono ?_;rintro e w1 ⟨rfl,hb1,hw1⟩;have hq:=zW hb1;have hs:=zW (HL.o.trans hw1);clear hb1 hw1;go_wp2_with fail
   go_roundg (ts.length - (j+1))
   case measure=>omega
   case rel=>exact ⟨j+1,rfl,hlt,hq.o,hs.o,yY⟩
  ·obtain rfl:j=ts.length:=yY;have he:K4 ts ts.length=raw.size:=(by rw [hk.o];exact X8z ts);have hl:Q5k ts ts.length=H9 ts 0 0:=(by unfold Q5k;rw [aW]);rw [he];rw [aW,hl] at HB;clear hc hf he hl;go_wp2_with fail
   first | go_ret3 | skip
   rw [hi.o];exact ⟨_,rfl,HB.o,HL.o⟩
theorem X2m (raw:fY) (ts:Els) (w:World) (h:Rdb 2 raw ts) (hco:F5 ts):
 Calls prog 14 #[.string raw] w (fun e w'=>∃ v,e=.returned (.tuple #[v,.int .i64 0,.int .i64 0])∧OwnT 31 w' w.heap.size v (Q4 (X0 ts))∧Below w.heap.size w w'):=by
 have HR:=zW (X9m raw ts w h hco);have HL:yK ((X0 ts).length≤500):=h.len;have HU:yK (X3 (X0 ts)≤500):=aP (S8 _ (Q3m 2 ts h.els)) h.len;clear h hco;go_enter func14,ntmps14
 go_wp2_with fail
 refine (HR.o).mono ?_;rintro e w1 ⟨g,rfl,hb,hw⟩;have HI:=zW (Y3m hb (by have:=HL.o;omega) (by have:=HU.o;omega));have HW:=zW hw;clear hb hw HR;go_wp2_with fail
 refine (HI.o).mono ?_;rintro e w2 ⟨v,rfl,ho,hw2⟩;have HO:=zW ho;have ha:=zW (HW.o.trans hw2);obtain ⟨A,c,rfl⟩:=Q0 ho;clear ho hw2;go_wp2_with fail
 go_ret3
 exact ⟨_,rfl,HO.o,ha.o⟩
theorem Z2y (raw:fY) (ts:Els) (w:World) (h:Rdb 2 raw ts) (hco:F5 ts):
 Calls prog 107 #[.string raw] w (fun e w'=>∃ v,e=.returned (.tuple #[v,.int .i64 0])∧OwnE 3 V7 1 w' w.heap.size v (csE ts++[((H9 ts 0 0:Nat):Int)])∧Below w.heap.size w w'):=by
 have HR:=zW (X9m raw ts w h hco);have HL:yK ((csE ts).length≤500):=(by show _≤_;rw [Q5h];exact h.len);clear h hco;generalize H9 ts 0 0=en at HR ⊢;go_enter func107,ntmps107
 go_wp2_with fail
 refine (HR.o).mono ?_;rintro e w1 ⟨g,rfl,hb,hw⟩;have q4:w1.cell? ⟨g,4,none⟩=some (.int .i64 (en:Nat)):=hb.cellR (i:=1) rfl;have HI:=zW (Z1a (en:Int) (hb.below (Q1 (aB _ _) 1)) (by have:=HL.o;omega));have HW:=zW hw;clear hb hw HR;go_wp2_with fail
 go_region_with (go_at_call 155;refine (HI.o).mono ?_;rintro e w2 ⟨v,rfl,ho,ha⟩;have HO:=zW ho;have hc:=zW (HW.o.trans ((Q1 (aB _ w1) 1).trans ha));obtain ⟨A,c,hv⟩:=Q0 ho;rw [show (csE ts++[(en:Int)]).length=(csE ts).length+1 by simp] at hv;subst hv;clear ho ha)
 all_goals (
  go_wp2_with fail
  go_ret2
  exact ⟨_,rfl,HO.o,hc.o⟩)
theorem Z7d (p r:List UInt8) (h:∀ b∈p,b≠32):Z0 (p++32::r)=p:=by
 unfold Z0;induction p with
 | nil=>rfl
 | cons b p ih=>
   rw [aR,dT,aK (by simpa using h b yW),ih fun x hx=>h x (by simp [hx])]
theorem X7h (l:List UInt8):(Lib.cut l [32]).1=Z0 l:=by
 rcases Z2g 32 l with hm | ⟨p,r,rfl,hm⟩
 ·unfold Lib.cut;rw [Q2u 32 l hm,aE yX];exact (Y5o _ l fun b hb=>by simpa using hm b hb).symm
 ·unfold Lib.cut;rw [Q3t 32 p r hm,aK yY,Z7d p r hm];simp
theorem Q5r (s:fY) (m:Int) (w:World) (hs:s.size≤1000000) (hm:w.cell? ⟨0,0,none⟩=some (.int .i64 m)):
 Calls prog 41 #[.string s] w fun e w'=>e=.returned (.string (ofL (Z0 s.data.toList)))∧∃ n,w'=w.drewN n:=by
 have hcut:=X7h s.data.toList;have HC:=zW (Tryz.strings_Cut s (⟨#[32]⟩:fY) m w yY hm);have HN:yK ((⟨(Lib.cut s.data.toList [32]).1.toArray⟩:fY)=ofL (Z0 s.data.toList)):=(by show _=_;rw [hcut];rfl);rw [←HN.o];clear hcut HN;generalize Lib.cut s.data.toList [32]=cc at HC ⊢;go_enter func41,ntmps41
 go_wp2_with (go_at_call 80;refine (HC.o).mono ?_;rintro e w1 ⟨rfl,n1,rfl⟩)
 go_ret
 exact ⟨rfl,n1,rfl⟩
theorem Q2v (s:fY) (w:World) (h:U4 s.data.toList=false):Calls prog 40 #[.string s] w fun e w'=>e=.returned (.bool false)∧w=w':=by
 rw [←Y7] at h;unfold U4 wP wH wLi wTd X4y at h;simp only [Bool.or_eq_false_iff] at h;obtain ⟨⟨⟨⟨n1,n2⟩,n3⟩,n4⟩,n5⟩:=h;go_enter func40,ntmps40
 go_wp2
 go_ret
 exact ⟨rfl,rfl⟩
theorem Q2y (w:World):Calls prog 124 #[.bool true] w fun e w'=>e=.returned (.int .i64 0)∧w=w':=by
 go_enter func124,ntmps124
 go_wp2
 go_ret
 exact ⟨rfl,rfl⟩
theorem U2b (s:fY) (rest r:List UInt8) (c:UInt8) (h:(r,c)∈X5l) (hs:s.data.toList=r++rest) (w:World):
 Calls prog 123 #[.string s] w fun e w'=>e=.returned (.tuple #[.int .u8 c.toNat,.int .i64 (r.length:Nat),.bool true])∧w=w':=by
 simp only [X5l,aU,eX,cL,eL] at h;rcases h with ⟨rfl,rfl⟩ | ⟨rfl,rfl⟩ | ⟨rfl,rfl⟩ | ⟨rfl,rfl⟩ | ⟨rfl,rfl⟩
 ·skip
  have C0:=zW (J6 s (⟨#[38,108,116,59]⟩:fY) true (by rw [hs];exact M4 _ rest));clear hs;go_enter func123,ntmps123
  go_wp2_with (first
   | (go_at_call_of 130 (Value.string (⟨#[38,108,116,59]⟩:fY));refine (C0.o _).mono ?_;rintro e w' ⟨rfl,rfl⟩))
  go_ret3
  exact ⟨rfl,rfl⟩
 ·skip
  have C0:=zW (J6 s (⟨#[38,108,116,59]⟩:fY) false (by rw [hs];unfold Lib.hasPrefix;simp [List.isPrefixOf]));have C1:=zW (J6 s (⟨#[38,103,116,59]⟩:fY) true (by rw [hs];exact M4 _ rest));clear hs;go_enter func123,ntmps123
  go_wp2_with (first
   | (go_at_call_of 130 (Value.string (⟨#[38,108,116,59]⟩:fY));refine (C0.o _).mono ?_;rintro e w' ⟨rfl,rfl⟩)
   | (go_at_call_of 130 (Value.string (⟨#[38,103,116,59]⟩:fY));refine (C1.o _).mono ?_;rintro e w' ⟨rfl,rfl⟩))
  go_ret3
  exact ⟨rfl,rfl⟩
 ·skip
  have C0:=zW (J6 s (⟨#[38,108,116,59]⟩:fY) false (by rw [hs];unfold Lib.hasPrefix;simp [List.isPrefixOf]));have C1:=zW (J6 s (⟨#[38,103,116,59]⟩:fY) false (by rw [hs];unfold Lib.hasPrefix;simp [List.isPrefixOf]));have C2:=zW (J6 s (⟨#[38,97,109,112,59]⟩:fY) true (by rw [hs];exact M4 _ rest));clear hs;go_enter func123,ntmps123
  go_wp2_with (first
   | (go_at_call_of 130 (Value.string (⟨#[38,108,116,59]⟩:fY));refine (C0.o _).mono ?_;rintro e w' ⟨rfl,rfl⟩)
   | (go_at_call_of 130 (Value.string (⟨#[38,103,116,59]⟩:fY));refine (C1.o _).mono ?_;rintro e w' ⟨rfl,rfl⟩)
   | (go_at_call_of 130 (Value.string (⟨#[38,97,109,112,59]⟩:fY));refine (C2.o _).mono ?_;rintro e w' ⟨rfl,rfl⟩))
  go_ret3
  exact ⟨rfl,rfl⟩
 ·skip
  have C0:=zW (J6 s (⟨#[38,108,116,59]⟩:fY) false (by rw [hs];unfold Lib.hasPrefix;simp [List.isPrefixOf]));have C1:=zW (J6 s (⟨#[38,103,116,59]⟩:fY) false (by rw [hs];unfold Lib.hasPrefix;simp [List.isPrefixOf]));have C2:=zW (J6 s (⟨#[38,97,109,112,59]⟩:fY) false (by rw [hs];unfold Lib.hasPrefix;simp [List.isPrefixOf]));have C3:=zW (J6 s (⟨#[38,108,98,59]⟩:fY) true (by rw [hs];exact M4 _ rest));clear hs;go_enter func123,ntmps123
  go_wp2_with (first
   | (go_at_call_of 130 (Value.string (⟨#[38,108,116,59]⟩:fY));refine (C0.o _).mono ?_;rintro e w' ⟨rfl,rfl⟩)
   | (go_at_call_of 130 (Value.string (⟨#[38,103,116,59]⟩:fY));refine (C1.o _).mono ?_;rintro e w' ⟨rfl,rfl⟩)
   | (go_at_call_of 130 (Value.string (⟨#[38,97,109,112,59]⟩:fY));refine (C2.o _).mono ?_;rintro e w' ⟨rfl,rfl⟩)
   | (go_at_call_of 130 (Value.string (⟨#[38,108,98,59]⟩:fY));refine (C3.o _).mono ?_;rintro e w' ⟨rfl,rfl⟩))
  go_ret3
  exact ⟨rfl,rfl⟩
 ·skip
  have C0:=zW (J6 s (⟨#[38,108,116,59]⟩:fY) false (by rw [hs];unfold Lib.hasPrefix;simp [List.isPrefixOf]));have C1:=zW (J6 s (⟨#[38,103,116,59]⟩:fY) false (by rw [hs];unfold Lib.hasPrefix;simp [List.isPrefixOf]));have C2:=zW (J6 s (⟨#[38,97,109,112,59]⟩:fY) false (by rw [hs];unfold Lib.hasPrefix;simp [List.isPrefixOf]));have C3:=zW (J6 s (⟨#[38,108,98,59]⟩:fY) false (by rw [hs];unfold Lib.hasPrefix;simp [List.isPrefixOf]));have C4:=zW (J6 s (⟨#[38,114,98,59]⟩:fY) true (by rw [hs];exact M4 _ rest));clear hs;go_enter func123,ntmps123
  go_wp2_with (first
   | (go_at_call_of 130 (Value.string (⟨#[38,108,116,59]⟩:fY));refine (C0.o _).mono ?_;rintro e w' ⟨rfl,rfl⟩)
   | (go_at_call_of 130 (Value.string (⟨#[38,103,116,59]⟩:fY));refine (C1.o _).mono ?_;rintro e w' ⟨rfl,rfl⟩)
   | (go_at_call_of 130 (Value.string (⟨#[38,97,109,112,59]⟩:fY));refine (C2.o _).mono ?_;rintro e w' ⟨rfl,rfl⟩)
   | (go_at_call_of 130 (Value.string (⟨#[38,108,98,59]⟩:fY));refine (C3.o _).mono ?_;rintro e w' ⟨rfl,rfl⟩)
   | (go_at_call_of 130 (Value.string (⟨#[38,114,98,59]⟩:fY));refine (C4.o _).mono ?_;rintro e w' ⟨rfl,rfl⟩))
  go_ret3
  exact ⟨rfl,rfl⟩
theorem V1u (s:fY) (m:Int) (w:World) (hs:s.size≤1000000) (hm:w.cell? ⟨0,0,none⟩=some (.int .i64 m)) (hc:N9 s.data.toList=true):
 ∃ (a b:fY) (f:Bool),U3 a.data.toList=true∧a.size≤1000000∧(f=true→0 < b.size)∧Calls prog 80 #[.string s,.string (⟨#[32]⟩:fY)] w fun e w'=>e=.returned (.tuple #[.string a,.string b,.bool f])∧∃ n,w'=w.drewN n:=by
 obtain ⟨_,_,_,h4,h5⟩:=J0 _ hc;have hcut:=X7h s.data.toList;refine ⟨⟨(Lib.cut s.data.toList [32]).1.toArray⟩,⟨(Lib.cut s.data.toList [32]).2.1.toArray⟩,(Lib.cut s.data.toList [32]).2.2,?_,?_,?_,Tryz.strings_Cut s (⟨#[32]⟩:fY) m w yY hm⟩
 ·rw [←hcut] at h4;simpa using h4
 ·rw [aC] at hs ⊢;simp only [List.toList_toArray];rw [hcut];have:=(List.takeWhile_sublist (l:=s.data.toList) (fun c=>c != 32)).length_le;unfold Z0;omega
 ·intro hf;rw [aC];simp only [List.toList_toArray];rcases Z2g 32 s.data.toList with hmm | ⟨p,r,e,hmm⟩
  ·unfold Lib.cut at hf;rw [Q2u 32 _ hmm,aE yX] at hf;cases hf
  ·rw [e,Z7d p r hmm,aA,aG] at h5;rw [e];unfold Lib.cut;rw [Q3t 32 p r hmm,aK yY];simp;omega
theorem Q3u (s:fY) (m:Int) (w:World) (hm:w.cell? ⟨0,0,none⟩=some (.int .i64 m)) (hc:N9 s.data.toList=true):
 Calls prog 115 #[.string s] w fun e w'=>e=.returned (.bool true)∧∃ n,w'=w.drewN n:=by
 obtain ⟨R,hp⟩:∃ R:Ending→World→Prop,yK (R=fun e w'=>e=.returned (.bool true)∧∃ n,w'=w.drewN n):=⟨_,rfl⟩;rw [←hp.o];obtain ⟨h1,h2,h3,_,_⟩:=J0 _ hc;obtain ⟨l,d,hl,hd⟩:=Q8e _ hc;have hh:=aC s;obtain ⟨k,hk⟩:∃ k,s.size=k+1:=⟨l.length,by rw [hh,hl,aA];rfl⟩;have ht:k+1≤64:=yY;have hu:k < s.size:=yY;have he:s[k]=d:=by
  have hv:l.length=k:=(by have:=congrArg List.length hl;rw [←hh,aA] at this;simp at this;omega);have:s.data.toList[k]'(by rw [←hh];exact hu)=d:=by
   simp only [hl];rw [bK yY];simp [hv]
  exact this
 have n1:((s[k].toNat:Int)==47)=false:=F2 s[k] 47 (by rw [he];exact hd);have t1:¬ (64:Int) < (k:Int)+1:=yY;have t2:(((k:Int)+1)==0)=false:=(by rw [aI];omega);obtain ⟨a,b,f,ha,hw,hf,hC⟩:=V1u s m w yY hm hc;have HC:=zW hC;have CN:=zW (fun w=>M7 a w (by unfold maxLen;omega));rw [ha] at CN;have ho:yK (∀ (i:Nat) (h:i < s.size),Y6o s[i]=true):=fun i h=>by
  have:=h3 (s.data.toList[i]'(by rw [←hh];exact h)) (aL _);exact this
 clear hC h1 h2 h3 hl hd he hm hc ha hh;go_enter func115,ntmps115
 go_wp2_with fail
 obtain ⟨wo,hj⟩:∃ wo,yK (wo=w):=⟨w,rfl⟩;go_loopg [3] (k+1) (fun gk iv wr=>∃ (i:Nat),iv=.int .i64 (i:Nat)∧i≤k+1∧yK (wr=wo)∧k+1 - i≤gk)
 case atStart=>exact ⟨0,rfl,aO _,hj.o.symm,yQ⟩
 case round=>
  obtain ⟨i,rfl,hi,HW,hgk⟩:=hrel;by_cases hlt:i < k+1
  ·have hs:i < s.size:=yY;have hg:=ho.o i hs;have hn:=X5x _ hg;have hr:32≤s[i].toNat∧s[i].toNat≤126:=by
    unfold Y6o at hg;simp only [dC,cG] at hg;exact hg.1.1.1.1
   obtain ⟨r1,r2⟩:=hr;have CI:=zW (I1 (⟨#[60,62,123,125]⟩:fY) s[i].toNat (-1) (by
    have e:((s[i].toNat:Int)).toNat.toUInt8=s[i]:=(by rw [cH];exact UInt8.ofNat_toNat);rw [e];revert hn
    generalize s[i]=c;intro hn;simp [Lib.indexByte,hn.1.symm,hn.2.1.symm,hn.2.2.1.symm,hn.2.2.2.symm]))
   clear hg hn;go_wp2_with (go_at_call 126;refine (CI.o _).mono ?_;rintro e w' ⟨rfl,rfl⟩)
   go_roundg (k+1 - (i+1))
   case measure=>omega
   case rel=>exact ⟨i+1,rfl,hlt,HW.o,yY⟩
  ·obtain rfl:i=k+1:=yY;have hq:yK (Calls prog 80 #[.string s,.string (⟨#[32]⟩:fY)] wr fun e w'=>e=.returned (.tuple #[.string a,.string b,.bool f])∧∃ n,w'=wr.drewN n):=by
    show Calls _ _ _ _ _;rw [HW.o,hj.o];exact HC.o
   cases f with
   | true=>
     have hb:=hf rfl;go_wp2_with (first
      | (go_at_call 80;refine (hq.o).mono ?_;rintro e w1 ⟨rfl,n1,rfl⟩)
      | (go_at_call 114;refine (CN.o _).mono ?_;rintro e w' ⟨rfl,rfl⟩))
     first | go_ret | skip
     rw [hp.o,HW.o,hj.o];exact ⟨rfl,_,rfl⟩
   | false=>
     go_wp2_with (first
      | (go_at_call 80;refine (hq.o).mono ?_;rintro e w1 ⟨rfl,n1,rfl⟩)
      | (go_at_call 114;refine (CN.o _).mono ?_;rintro e w' ⟨rfl,rfl⟩))
     first | go_ret | skip
     rw [hp.o,HW.o,hj.o];exact ⟨rfl,_,rfl⟩
theorem Z6q (s p:fY) (b:Bool) (h:Lib.hasSuffix s.data.toList p.data.toList=b) (hs:s.size≤1000000) (w:World):Calls prog 164 #[.string s,.string p] w fun e w'=>e=.returned (.bool b)∧w=w':=by
 subst h;refine (Tryz.strings_HasSuffix s p w yY).mono ?_;rintro e w' ⟨rfl,rfl⟩;exact ⟨rfl,rfl⟩
theorem E7 (s t:fY) (a b:Nat) (h:(s.data.toList.take b).drop a=t.data.toList):s.extract a b=t:=by
 apply cB;apply bX.1;rw [←h,cX,dG,cU,eT]
theorem X4j {fn:Func} {p u v:Tmp} (h:fn.results=#[.cell p 31,.tmp u,.tmp v]) (tmps:Array Value) (w:World) (g:Nat) (k d:Int) (t:fY) (x y:Value) (hp:tmps.getD p undef=.pointer (some ⟨g,0,none⟩)) (hu:tmps.getD u undef=x) (hv:tmps.getD v undef=y)
 (c0:w.cell? ⟨g,0,none⟩=some (.int .i64 k)) (c1:w.cell? ⟨g,1,none⟩=some (.string t)) (c2:w.cell? ⟨g,2,none⟩=some (.int .i64 d)):
 (results fn tmps).run prog w=.ok (.tuple #[.agg #[.int .i64 k,.string t,.int .i64 d],x,y]) w:=by
 rw [Q3p h,hp,hu,hv];go_simp
theorem Q1s {l p m q:List UInt8} {a b:Nat} (h:l=p++m++q) (ha:p.length=a) (hb:a+m.length=b):(l.take b).drop a=m:=by
 subst h ha hb;rw [←aA,eH,dR]
def X3g (k:Int) (t:fY) (n:Nat) (w:World) (e:Ending) (w':World):Prop:=
 e=.returned (.tuple #[.agg #[.int .i64 k,.string t,.int .i64 0],.int .i64 n,.bool true])∧Below w.heap.size w w'
theorem Q3d {w:World} {m:Value} (hm:w.cell? ⟨0,0,none⟩=some m):0 < w.heap.size:=by
 rcases Nat.eq_zero_or_pos w.heap.size with h | h
 ·exfalso;have h2:w.heap[0]? =none:=Array.getElem?_eq_none yY;simp [World.cell?,h2] at hm
 ·exact h
theorem X8 {w w':World} {m:Value} (hm:w.cell? ⟨0,0,none⟩=some m) (hb:Below w.heap.size w w'):w'.cell? ⟨0,0,none⟩=some m:=by
 rw [←hm];exact hb.cell (Q3d hm)
theorem Y5k (s t:fY) (r:List UInt8) (m:Int) (w:World) (hm:w.cell? ⟨0,0,none⟩=some (.int .i64 m)) (hs:s.data.toList=60::t.data.toList++62::r) (hsz:s.size≤1000000) (hc:N9 t.data.toList=true):
 Calls prog 121 #[.string s] w (X3g 2 t (t.size+2) w):=by
 have hb:s.size=t.size+2+r.length:=(by rw [aC,hs,aC t];simp;omega);have ha:s.extract 1 (t.size+1)=t:=E7 _ _ _ _ (by rw [hs,aC t];simp);have CI:=zW (I1 s 62 ((t.size+1:Nat):Int) (by rw [hs,aC t];exact Y5j t.data.toList r (Q1c _ hc).1));have CP:=zW (J6 t (⟨#[47]⟩:fY) false (by
  obtain ⟨c,l,e,hh⟩:=G3 _ hc;rw [e];exact Q1m c 47 l [] (T8 c hh 47 yW)))
 have CS:=zW (Z6q t (⟨#[47]⟩:fY) false (by
  obtain ⟨l,d,e,hd⟩:=Q8e _ hc;rw [e];show Lib.hasSuffix (l++[d]) [47]=false;rw [Z0k l [] d 47];simpa using fun e:47=d=>hd e.symm) yY)
 have HC:=zW (fun w hm=>Q3u t m w hm hc);have HM:=zW hm;have he:t.size≤1000000:=yY;have HR:yK (IntKind.i64.wrap ((t.size:Int)+1+1)=((t.size+2:Nat):Int)):=(by show _=_;rw [cQ];omega);clear hs hc hm;go_enter func121,ntmps121
 go_wp2_with (first
  | (go_at_call 126;refine (CI.o _).mono ?_;rintro e w' ⟨rfl,rfl⟩)
  | (go_at_call 130;refine (CP.o _).mono ?_;rintro e w' ⟨rfl,rfl⟩)
  | (go_at_call 164;refine (CS.o _).mono ?_;rintro e w' ⟨rfl,rfl⟩))
 go_region_with (go_at_call 115;refine (HC.o _ (by exact X8 HM.o (by (repeat' (first | with_reducible exact aB _ _ | refine Q1 ?_ _ | refine eC ?_ | refine eE ?_ yW _ | refine fD ?_ yW _))))).mono ?_; rintro e w1 ⟨rfl,n1,rfl⟩)
 all_goals (
  go_wp2_with fail
  refine bO (X4j rfl _ _ w.heap.size 2 0 t _ _ rfl rfl rfl yU yU yU) rfl ?_;refine ⟨Q5w (by rw [HR.o];rfl),?_⟩
  (repeat' (first | with_reducible exact aB _ _ | refine Q1 ?_ _ | refine eC ?_ | refine eE ?_ yW _ | refine fD ?_ yW _)))
theorem Z6y (s t:fY) (r:List UInt8) (m:Int) (w:World) (hm:w.cell? ⟨0,0,none⟩=some (.int .i64 m)) (hs:s.data.toList=60::t.data.toList++47::62::r) (hsz:s.size≤1000000) (hc:N9 t.data.toList=true):
 Calls prog 121 #[.string s] w (X3g 4 t (t.size+3) w):=by
 have hg:s.size=t.size+3+r.length:=(by rw [aC,hs,aC t];simp;omega);obtain ⟨u,HU⟩:∃ u:fY,yK (u=ofL (t.data.toList++[47])):=⟨ofL (t.data.toList++[47]),rfl⟩;have ha:u.data.toList=t.data.toList++[47]:=(by rw [HU.o];simp [ofL]);have he:u.size=t.size+1:=(by rw [aC,ha,aC t];simp);have hf:s.extract 1 (t.size+2)=u:=E7 _ _ _ _ (Q1s (p:=[60]) (q:=62::r) (by rw [hs,ha];simp) rfl (by rw [←aC,he];omega));have hd:u.extract 0 t.size=t:=E7 _ _ _ _ (Q1s (p:=[]) (q:=[47]) (by rw [ha];simp) rfl (by rw [←aC];omega));have CI:=zW (I1 s 62 ((t.size+2:Nat):Int) (by
  have h:=Y5j (t.data.toList++[47]) r (fun b hb=>by
   rcases aS.1 hb with hb | hb
   ·exact (Q1c _ hc).1 b hb
   ·rw [aJ.1 hb];decide)
  rw [hs,show ((t.size+2:Nat):Int)=(t.size:Int)+1+1 by omega,aC t];simpa using h))
 have CP:=zW (J6 u (⟨#[47]⟩:fY) false (by
  obtain ⟨c,l,e,hh⟩:=G3 _ hc;rw [ha,e];exact Q1m c 47 _ [] (T8 c hh 47 yW)))
 have CS:=zW (Z6q u (⟨#[47]⟩:fY) true (by
  rw [ha];show Lib.hasSuffix (t.data.toList++[47]) [47]=true;rw [Z0k _ [] 47 47];rfl) yY)
 have HC:=zW (fun w hm=>Q3u t m w hm hc);have HM:=zW hm;have hi:t.size≤1000000:=yY;have HR:yK (IntKind.i64.wrap ((t.size:Int)+2+1)=((t.size+3:Nat):Int)):=(by show _=_;rw [cQ];omega);clear hs hc hm ha HU;go_enter func121,ntmps121
 go_wp2_with (first
  | (go_at_call 126;refine (CI.o _).mono ?_;rintro e w' ⟨rfl,rfl⟩)
  | (go_at_call 130;refine (CP.o _).mono ?_;rintro e w' ⟨rfl,rfl⟩)
  | (go_at_call 164;refine (CS.o _).mono ?_;rintro e w' ⟨rfl,rfl⟩))
 go_region
 all_goals (
  go_wp2_with fail
  go_region_with (go_at_call 115;refine (HC.o _ ?hcell).mono ?_;(case hcell=>(refine X8 HM.o ?_;(repeat' (first | with_reducible exact aB _ _ | refine Q1 ?_ _ | refine eC ?_ | refine eE ?_ yW _ | refine fD ?_ yW _))));rintro e w1 ⟨rfl,n1,rfl⟩))
 all_goals (
  go_wp2_with fail
  refine bO (X4j rfl _ _ w.heap.size 4 0 t _ _ rfl rfl rfl yU yU yU) rfl ?_;refine ⟨Q5w (by rw [HR.o];rfl),?_⟩
  (repeat' (first | with_reducible exact aB _ _ | refine Q1 ?_ _ | refine eC ?_ | refine eE ?_ yW _ | refine fD ?_ yW _)))
theorem U0b (s t:fY) (r:List UInt8) (m:Int) (w:World) (hm:w.cell? ⟨0,0,none⟩=some (.int .i64 m)) (hs:s.data.toList=60::47::t.data.toList++62::r) (hsz:s.size≤1000000) (hc:U3 t.data.toList=true):
 Calls prog 121 #[.string s] w (X3g 3 t (t.size+3) w):=by
 have hg:s.size=t.size+3+r.length:=(by rw [aC,hs,aC t];simp;omega);obtain ⟨u,HU⟩:∃ u:fY,yK (u=ofL (47::t.data.toList)):=⟨ofL (47::t.data.toList),rfl⟩;have ha:u.data.toList=47::t.data.toList:=(by rw [HU.o];simp [ofL]);have he:u.size=t.size+1:=(by rw [aC,ha,aC t];simp);have hf:s.extract 1 (t.size+2)=u:=E7 _ _ _ _ (Q1s (p:=[60]) (q:=62::r) (by rw [hs,ha];simp) rfl (by rw [←aC,he];omega));have hd:u.extract 1 (t.size+1)=t:=E7 _ _ _ _ (Q1s (p:=[47]) (q:=[]) (by rw [ha];simp) rfl (by rw [←aC];omega));have CI:=zW (I1 s 62 ((t.size+2:Nat):Int) (by
  have h:=Y5j (47::t.data.toList) r (fun b hb=>by
   rcases aU.1 hb with rfl | hb
   ·decide
   ·exact I4 _ hc 62 yW b hb)
  rw [hs,show ((t.size+2:Nat):Int)=(t.size:Int)+1+1 by omega,aC t];simpa using h))
 have CP:=zW (J6 u (⟨#[47]⟩:fY) true (by
  rw [ha];exact M4 [47] t.data.toList))
 have CN:=zW (fun w=>M7 t w (by unfold maxLen;omega));rw [hc] at CN;have hh:t.size≤1000000:=yY;have HR:yK (IntKind.i64.wrap ((t.size:Int)+2+1)=((t.size+3:Nat):Int)):=(by show _=_;rw [cQ];omega);clear hs hc hm ha HU;go_enter func121,ntmps121
 go_wp2_with (first
  | (go_at_call 126;refine (CI.o _).mono ?_;rintro e w' ⟨rfl,rfl⟩)
  | (go_at_call 130;refine (CP.o _).mono ?_;rintro e w' ⟨rfl,rfl⟩))
 go_region
 all_goals (
  go_wp2_with fail
  go_region_with (go_at_call 114;refine (CN.o _).mono ?_;rintro e w1 ⟨rfl,rfl⟩))
 all_goals (
  go_wp2_with fail
  refine bO (X4j rfl _ _ w.heap.size 3 0 t _ _ rfl rfl rfl yU yU yU) rfl ?_;refine ⟨Q5w (by rw [HR.o];rfl),?_⟩
  (repeat' (first | with_reducible exact aB _ _ | refine Q1 ?_ _ | refine eC ?_ | refine eE ?_ yW _ | refine fD ?_ yW _)))
theorem Y8q {α:Type} {e:TypeId} {f:α→List Value} {m:Nat} (hm:∀ x,(f x).length=m) {w:World} {B:Nat} {A:Option Addr} {n c:Nat} {l:List α} (h:w.ownsRow B e m (.slice A n c) l.length (l.flatMap f)) (k:Nat) (hk:k≤l.length):
 w.ownsRow B e m (.slice A k c) (l.take k).length ((l.take k).flatMap f):=by
 have ha:(l.take k).length=k:=(by rw [bG];omega);have he:((l.take k).flatMap f).length=k * m:=(by rw [I0 f m hm,ha]);have hd:(l.flatMap f).take (k * m)=(l.take k).flatMap f:=by
  have e1:l.flatMap f=(l.take k).flatMap f++(l.drop k).flatMap f:=(by rw [←dE,bR]);rw [e1,←he,eH]
 rw [ha];refine ⟨he,?_⟩;rcases h.2 with ⟨hv,h0⟩ | ⟨g,cap,cur,hv,hb,hh,hc,hm',hs,ht⟩
 ·injection hv with e1 e2 e3;subst e1 e2 e3;have:k=0:=yY;subst this;exact .inl ⟨rfl,rfl⟩
 ·injection hv with e1 e2 e3;subst e1 e2 e3;refine .inr ⟨g,c,cur,rfl,hb,hh,yY,hm',hs,?_⟩;rw [←hd,←ht,List.take_take,Nat.min_eq_left (Nat.mul_le_mul_right _ hk)]
structure Ms (B g:Nat) (iv tv cv ov:Value) (its:List Tk) (tx:fY) (cs:List Int) (ops:List Tk) (cnt:Nat) (w:World):Prop where
 bd:Bd B g 93 [ov,.int .i64 (cnt:Int)] iv tv cv its tx cs w
 own:OwnT 31 w B ov ops
 ap:Q3h ov iv
section
variable {B g:Nat} {iv tv cv ov iv' tv' cv' ov':Value} {its:List Tk} {tx:fY} {cs:List Int} {ops ops':List Tk} {cnt:Nat} {w w':World}
theorem Ms.nO (h:Ms B g iv tv cv ov its tx cs ops cnt w):X5a g ov:=Y1 h.own h.bd.box h.bd.ty.1
theorem Ms.aOT (h:Ms B g iv tv cv ov its tx cs ops cnt w):Q3h ov tv:=O5 h.own h.bd.txt yX
theorem Ms.aOC (h:Ms B g iv tv cv ov its tx cs ops cnt w):Q3h ov cv:=O5 h.own h.bd.cuts yX
theorem Ms.below (h:Ms B g iv tv cv ov its tx cs ops cnt w) (hb:Below w.heap.size w w'):Ms B g iv tv cv ov its tx cs ops cnt w':=
 ⟨h.bd.below hb,(Mod.of_below hb).own h.own fun _ _ hf=>hf,h.ap⟩
theorem Ms.alloc (h:Ms B g iv tv cv ov its tx cs ops cnt w) (o:Obj):Ms B g iv tv cv ov its tx cs ops cnt (w.alloc o):=h.below ((aB _ _).alloc yQ o)
theorem Ms.drew (h:Ms B g iv tv cv ov its tx cs ops cnt w):Ms B g iv tv cv ov its tx cs ops cnt w.drew:=⟨h.bd.drew,h.own,h.ap⟩
theorem Ms.drewN (h:Ms B g iv tv cv ov its tx cs ops cnt w) (n:Nat):Ms B g iv tv cv ov its tx cs ops cnt (w.drewN n):=⟨h.bd.drewN n,h.own,h.ap⟩
theorem Ms.other (h:Ms B g iv tv cv ov its tx cs ops cnt w) (p j:Nat) (u:Value) (hg:p≠g) (hs:∀ v∈[iv,tv,cv,ov],v.ownBlock≠some p):Ms B g iv tv cv ov its tx cs ops cnt (w.setCell ⟨p,j,none⟩ u):=by
 have hm:=Mod.set w p j u;refine ⟨h.bd.mod hm fun k hk e=>?_,hm.own h.own fun k hk e=>?_,h.ap⟩
 ·subst e;rcases hk with hk | hk | hk | hk
  ·exact hg hk
  ·exact hs iv yW hk
  ·exact hs tv yW hk
  ·exact hs cv yW hk
 ·subst e;exact hs ov yW hk
theorem Ms.count (h:Ms B g iv tv cv ov its tx cs ops cnt w) (c:Nat):Ms B g iv tv cv ov its tx cs ops c (w.setCell ⟨g,4,none⟩ (.int .i64 (c:Int))):=by
 obtain ⟨h1,h2⟩:=h.bd.putR 1 (.int .i64 (c:Int));exact ⟨h1,h2.own h.own fun k hk e=>h.nO k hk e,h.ap⟩
theorem Ms.push (h:Ms B g iv tv cv ov its tx cs ops cnt w) (ho:OwnT 31 w' B ov' ops') (hg:w.grownBy w' ov.ownBlock) (ha:ov'.ownBlock=ov.ownBlock∨ov'.ownBlock=some w.heap.size):
 Ms B g iv tv cv ov' its tx cs ops' cnt (w'.setCell ⟨g,3,none⟩ ov')∧Mod (fun k=>k=g∨ov.ownBlock=some k) w (w'.setCell ⟨g,3,none⟩ ov'):=by
 have hm:=Mod.of_grown hg;have hb:Bd B g 93 [ov,.int .i64 (cnt:Int)] iv tv cv its tx cs w':=h.bd.mod hm fun k hk e=>by
  rcases hk with hk | hk | hk | hk
  ·exact h.nO k e hk
  ·exact h.ap k e hk
  ·exact h.aOT k e hk
  ·exact h.aOC k e hk
 obtain ⟨h1,h2⟩:=hb.putR 0 ov';refine ⟨⟨h1,h2.own ho fun k hk e=>Y1 ho hb.box h.bd.ty.1 k hk e,fun k hk e=>?_⟩,?_⟩
 ·rcases ha with h3 | h3
  ·rw [h3] at hk;exact h.ap k hk e
  ·rw [h3] at hk;injection hk with hk;have:=(h.bd.its.lt k e).2;omega
 ·exact (hm.weak (T:=fun k=>k=g∨ov.ownBlock=some k) fun i hi _=>.inr hi).trans h2 fun i hi _=>.inl hi
theorem Ms.grO (h:Ms B g iv tv cv ov its tx cs ops cnt w) (hg:w.grownBy w' ov.ownBlock):w'.heap[g]? =some (.cells (iv::tv::cv::[ov,.int .i64 (cnt:Int)]).toArray 93):=(hg.block g h.bd.gsz (fun e=>h.nO g e.symm rfl)).trans h.bd.box
theorem Ms.pop {A:Option Addr} {n c:Nat} (h:Ms B g iv tv cv (.slice A n c) its tx cs ops cnt w) (k:Nat) (hk:k≤ops.length):
 Ms B g iv tv cv (.slice A k c) its tx cs (ops.take k) cnt (w.setCell ⟨g,3,none⟩ (.slice A k c)):=by
 obtain ⟨h1,h2⟩:=h.bd.putR 0 (.slice A k c);have ha:(Value.slice A k c).ownBlock=(Value.slice A n c).ownBlock:=by cases A<;>rfl
 refine ⟨h1,h2.own (Y8q Q5 h.own k hk) fun i hi e=>h.nO i (by rw [←ha];exact hi) e,fun i hi e=>h.ap i (by rw [←ha];exact hi) e⟩
end
structure MSt (B g:Nat) (u:List Tk) (cs:List Int) (ops:List Tk) (cnt:Nat) (w:World):Prop where
 ex:∃ iv tv cv ov its tx,Ms B g iv tv cv ov its tx cs ops cnt w∧BSt u its tx
section
variable {B g:Nat} {u:List Tk} {cs:List Int} {ops:List Tk} {cnt:Nat} {w w':World}
theorem MSt.gsz (h:MSt B g u cs ops cnt w):g < w.heap.size:=by obtain ⟨_,_,_,_,_,_,h,_⟩:=h.ex;exact h.bd.gsz
theorem MSt.bsz (h:MSt B g u cs ops cnt w):B≤w.heap.size:=by obtain ⟨_,_,_,_,_,_,h,_⟩:=h.ex;exact aP h.bd.lt (cS h.bd.gsz)
theorem MSt.below (h:MSt B g u cs ops cnt w) (hb:Below w.heap.size w w'):MSt B g u cs ops cnt w':=by
 obtain ⟨iv,tv,cv,ov,its,tx,h,hs⟩:=h.ex;exact ⟨iv,tv,cv,ov,its,tx,h.below hb,hs⟩
theorem MSt.bs (h:MSt B g u cs ops cnt w):∃ rest,BS B g 93 rest u cs w:=by
 obtain ⟨iv,tv,cv,ov,its,tx,h,hs⟩:=h.ex;exact ⟨_,⟨iv,tv,cv,its,tx,h.bd,hs⟩⟩
theorem V3z (c:UInt8) (off:Int) (h:MSt B g u cs ops cnt w) (hl:u.length+1≤512) (hlu:X3 u≤1000000) (hc:cs.length+1≤1024):
 Calls prog 125 #[.pointer (some ⟨g,0,none⟩),.int .u8 c.toNat,.int .i64 off] w (fun e w'=>e=.returned (.bool true)∧MSt B g (u++[chI c]) (cs++[off]) ops cnt w'∧Below B w w'):=by
 have hB:=h.bsz;obtain ⟨iv,tv,cv,ov,its,tx,h,hs⟩:=h.ex;have h1:=hs.len;have h2:=hs.text;refine (Y0z c off h.bd yY hc yY).mono ?_;rintro e w' ⟨rfl,tv',cv',h',hm⟩;refine ⟨rfl,⟨_,_,_,_,_,_,⟨h',hm.own h.own fun k hk e=>?_,h.ap⟩,hs.ch c⟩,hm.below (fun i hi=>?_) hB⟩
 ·rcases e with e | e | e
  ·exact h.nO k hk e
  ·exact h.aOT k hk e
  ·exact h.aOC k hk e
 ·rcases hi with rfl | hi | hi
  ·exact h.bd.lt
  ·exact (h.bd.txt.lt i hi).1
  ·exact (h.bd.cuts.lt i hi).1
theorem Y4m (x:Tk) (hx:x.k≠1) (off:Int) (h:MSt B g u cs ops cnt w) (hl:u.length+1≤512) (hlu:X3 u≤1000000) (hc:cs.length+1≤1024):
 Calls prog 127 #[.pointer (some ⟨g,0,none⟩),.agg #[.int .i64 x.k,.string x.t,.int .i64 x.d],.int .i64 off] w (fun e w'=>e=.returned (.bool true)∧MSt B g (u++[x]) (cs++[off]) ops cnt w'∧Below B w w'):=by
 have hB:=h.bsz;obtain ⟨iv,tv,cv,ov,its,tx,h,hs⟩:=h.ex;have h1:=hs.len;have h2:=hs.text;refine (Y1b x off h.bd yY hc yY).mono ?_;rintro e w' ⟨rfl,iv',tv',cv',h',hm,hat⟩;refine ⟨rfl,⟨_,_,_,_,_,_,⟨h',hm.own h.own fun k hk e=>?_,fun k hk e=>?_⟩,hs.item x hx⟩,hm.below (fun i hi=>?_) hB⟩
 ·rcases e with e | e | e
  ·exact h.nO k hk e
  ·exact h.ap k hk e
  ·exact h.aOC k hk e
 ·rcases hat with h3 | h3
  ·rw [h3] at e;exact h.ap k hk e
  ·have h4:=h3 k e;have h5:=(h.own.lt k hk).2;omega
 ·rcases hi with rfl | hi | hi
  ·exact h.bd.lt
  ·exact (h.bd.its.lt i hi).1
  ·exact (h.bd.cuts.lt i hi).1
end
def Z4c (B g:Nat) (u:List Tk) (cs:List Int) (ops:List Tk) (cnt:Nat) (w:World) (e:Ending) (w':World):Prop:=
 e=.returned (.int .i64 0)∧MSt B g u cs ops cnt w'∧Below B w w'
theorem Z3q (t:fY) (off:Int) {B g:Nat} {u:List Tk} {cs:List Int} {ops:List Tk} {cnt:Nat} {w:World} (h:MSt B g u cs ops cnt w) (hl:u.length+1≤512) (hlu:X3 u≤1000000) (hc:cs.length+1≤1024) (ho:ops.length≤500) (hn:cnt≤500):
 Calls prog 122 #[.pointer (some ⟨g,0,none⟩),.agg #[.int .i64 2,.string t,.int .i64 0],.int .i64 off] w (Z4c B g (u++[⟨2,t,((cnt+1:Nat):Int)⟩]) (cs++[off]) (ops++[⟨2,t,((cnt+1:Nat):Int)⟩]) (cnt+1) w):=by
 have hB:=h.bsz;have hg:=h.gsz;obtain ⟨iv,tv,cv,ov,its,tx,hm,hs⟩:=h.ex;clear h;obtain ⟨A,c,rfl⟩:=Q0 hm.own;have hj:∀ v∈[iv,tv,cv,.slice A ops.length c],v.ownBlock≠some w.heap.size:=by
  intro v hv e;simp only [aU,cL,eL] at hv;rcases hv with rfl | rfl | rfl | rfl
  ·have:=(hm.bd.its.lt _ e).2;omega
  ·have:=(hm.bd.txt.lt _ e).2;omega
  ·have:=(hm.bd.cuts.lt _ e).2;omega
  ·have:=(hm.own.lt _ e).2;omega
 have H0:=zW (hm.alloc (.cells #[.int .i64 2,.string t,.int .i64 0] 31));have hb:yK ((w.alloc (.cells #[.int .i64 2,.string t,.int .i64 0] 31)).heap[w.heap.size]? =some (.cells #[.int .i64 2,.string t,.int .i64 0] 31)):=aY;have hf:=zW ((aB B w).alloc hB (.cells #[.int .i64 2,.string t,.int .i64 0] 31));have he:w.heap.size < (w.alloc (.cells #[.int .i64 2,.string t,.int .i64 0] 31)).heap.size:=yW;have HS:=zW hs;clear hm hs;obtain ⟨p,hp⟩:∃ p,yK (p=w.heap.size):=⟨_,rfl⟩;go_enter func122,ntmps122
 go_upto_region 1 with fail
 rw [←hp.o] at hb hj he hg ⊢;generalize w.alloc (.cells #[.int .i64 2,.string t,.int .i64 0] 31)=w0 at H0 hb hf he ⊢;obtain ⟨x0,x1,x2,x3⟩:=bx3 hb.o;have q4:w0.cell? ⟨g,4,none⟩=some (.int .i64 (cnt:Int)):=H0.o.bd.cellR (i:=1) rfl;have f4:=H0.o.bd.frozen 4;go_upto_region 8 with fail
 rw [show (cnt:Int)+1=((cnt+1:Nat):Int) by omega];obtain ⟨c1,hu⟩:∃ c1,yK (c1=cnt+1):=⟨_,rfl⟩;rw [←hu.o];have H1:=zW (H0.o.count c1);have hd:yK ((w0.setCell ⟨g,4,none⟩ (.int .i64 (c1:Int))).heap[p]? =some (.cells #[.int .i64 2,.string t,.int .i64 0] 31)):=by
  show _=_;rw [aV _ _ _ _ (by show p≠g;omega)];exact hb.o
 have hh:=zW (hf.o.setCell (p:=⟨g,4,none⟩) H0.o.bd.lt (.int .i64 (c1:Int)));have hq:p < (w0.setCell ⟨g,4,none⟩ (.int .i64 (c1:Int))).heap.size:=(by simpa [World.setCell] using he);clear q4 f4 x0 x1 x2 x3 H0 hb hf he;generalize w0.setCell ⟨g,4,none⟩ (.int .i64 (c1:Int))=w1 at H1 hd hh hq ⊢;obtain ⟨x0,x1,x2,x3,x4,x5⟩:=bx3 hd.o;have q4:w1.cell? ⟨g,4,none⟩=some (.int .i64 (c1:Int)):=H1.o.bd.cellR (i:=1) rfl;go_upto_region 9 with fail
 have H2:=zW (H1.o.other p 2 (.int .i64 (c1:Int)) yY hj);have hi:yK ((w1.setCell ⟨p,2,none⟩ (.int .i64 (c1:Int))).heap[p]? =some (.cells #[.int .i64 2,.string t,.int .i64 (c1:Int)] 31)):=by
  show _=_;rw [W8 hd.o];rfl
 have hr:=zW (hh.o.setCell (p:=⟨p,2,none⟩) (by show B≤p;have:=hp.o;omega) (.int .i64 (c1:Int)));have hC:p < (w1.setCell ⟨p,2,none⟩ (.int .i64 (c1:Int))).heap.size:=(by simpa [World.setCell] using hq);clear q4 x0 x1 x2 x3 x4 x5 H1 hd hh hq;generalize w1.setCell ⟨p,2,none⟩ (.int .i64 (c1:Int))=w2 at H2 hi hr hC ⊢;obtain ⟨x0,x1,x2,_⟩:=bx3 hi.o;go_upto_region 10 with fail
 have q3:w2.cell? ⟨g,3,none⟩=some (.slice A ops.length c):=H2.o.bd.cellR (i:=0) rfl;have ha:=zW (H2.o.drew.alloc (.cells (tkC ⟨2,t,(c1:Int)⟩).toArray 31));have hG:B≤w2.heap.size:=(by have:=hp.o;omega);have p0:(w2.alloc (.cells #[.int .i64 2,.string t,.int .i64 (c1:Int)] 31)).cell? ⟨g,3,none⟩=some (.slice A ops.length c):=ha.o.bd.cellR (i:=0) rfl;go_region_law (first
  | (refine H4 rfl (.tmp 72) (.tmp 74) 24 31 rfl underlying24 _ tkC 3 32 Z8 rfl yX Q5 D4 B (.slice A ops.length c) ops (by simp [Act.eval]) (by exact ha.o.own) (.slice (some ⟨w2.drew.heap.size, 0, none⟩) 1 1) [⟨2, t, (c1 : Int)⟩] (by simp [Act.eval]) (by exact Z3 tkC 3 Q5 _ _ rfl ⟨2, t, (c1 : Int)⟩ _) yV yX yV ?_
     intro v7 w7 hown7 hbel7 hgr7 hat7;obtain ⟨A7,c7,hz⟩:=Q0 hown7;rw [show (ops++[(⟨2,t,(c1:Int)⟩:Tk)]).length=ops.length+1 by simp] at hz;subst hz;have HP:=zW (ha.o.push hown7 hgr7 hat7);have z0:=Z9 (ha.o.grO hgr7) 3 rfl;have y0:=Y6 (ha.o.grO hgr7) 3;have hF:=hgr7.size;have hw:yK (w7.heap[p]? =some (.cells #[.int .i64 2,.string t,.int .i64 (c1:Int)] 31)):=by
      exact (hgr7.block p yV (fun e=>by have:=(ha.o.own.lt p e.symm).1;exact hj (.slice A ops.length c) yW e.symm)).trans ((bE w2 _ p hC).trans hi.o)
     clear hown7 hbel7))
 all_goals (
  have ht:=zW ((hr.o.drew.alloc hG (.cells (tkC ⟨2,t,(c1:Int)⟩).toArray 31)).trans (HP.o.2.below (fun k hk=>by
   rcases hk with rfl | hk
   ·exact H2.o.bd.lt
   ·exact (H2.o.own.lt k hk).1) yV))
  have hx:yK ((w7.setCell ⟨g,3,none⟩ (.slice A7 (ops.length+1) c7)).heap[p]? =some (.cells #[.int .i64 2,.string t,.int .i64 (c1:Int)] 31)):=by
   show _=_;rw [aV _ _ _ _ (by show p≠g;omega)];exact hw.o
  have H8:yK (MSt B g u cs (ops++[⟨2,t,(c1:Int)⟩]) c1 (w7.setCell ⟨g,3,none⟩ (.slice A7 (ops.length+1) c7))):=⟨⟨_,_,_,_,_,_,HP.o.1,HS.o⟩⟩;clear z0 y0 hF hw HP hgr7 hat7 ha p0;generalize w7.setCell ⟨g,3,none⟩ (.slice A7 (ops.length+1) c7)=w8 at ht hx H8 ⊢;have CB:=zW (fun w (h:MSt B g u cs (ops++[⟨2,t,(c1:Int)⟩]) c1 w)=>Y4m ⟨2,t,(c1:Int)⟩ (by show (2:Int)≠1;decide) off h hl hlu hc);obtain ⟨x0,x1,x2,_⟩:=bx3 hx.o;go_wp2_with fail
  go_region_with (first
   | (go_at_call 127;refine (CB.o _ (by exact H8.o.below (Q1 (aB _ _) 1))).mono ?_;rintro e w9 ⟨rfl,hy,hA⟩;have hD:=zW hy;have hE:=zW ((Q1 ht.o 1).trans hA);clear hy hA)
   | (go_at_call 124;refine (Q2y _).mono ?_;rintro e w' ⟨rfl,rfl⟩)))
 all_goals (
  go_wp2_with fail
  go_ret
  rw [←hu.o];exact ⟨rfl,hD.o,hE.o⟩)
section
variable {P:Program} {w:World} {a:Act} {o:Oper}
theorem Q6u (x:Operand) (q:Addr) (ho:o.op=.nilCheck x) (hx:a.eval x=.pointer (some q)):(execOp a.eval o).run P w=.ok (.value (.pointer (some q))) w:=by
 unfold execOp;simp only [ho,hx];rfl
theorem V2j {f:FuncId} (x:Operand) (ts:Array TypeId) (vx:Value) (ho:o.op=.call { callee:=.value (.func f),args:=#[x],argTypes:=ts }) (hx:a.eval x=vx) (he:(callFunc f #[vx]).run P w=.ok (.enter f #[vx]) w):(execOp a.eval o).run P w=.ok (.enter f #[vx]) w:=by
 have hf:a.eval (.func f)=.func (.func f) #[] #[]:=rfl;generalize a.eval=ρ at hx hf ⊢;unfold execOp;simp only [ho];go_simp
theorem X7o {f:FuncId} (x y:Operand) (ts:Array TypeId) (vx vy:Value) (ho:o.op=.call { callee:=.value (.func f),args:=#[x,y],argTypes:=ts }) (hx:a.eval x=vx) (hy:a.eval y=vy) (he:(callFunc f #[vx,vy]).run P w=.ok (.enter f #[vx,vy]) w):(execOp a.eval o).run P w=.ok (.enter f #[vx,vy]) w:=by
 have hf:a.eval (.func f)=.func (.func f) #[] #[]:=rfl;generalize a.eval=ρ at hx hy hf ⊢;unfold execOp;simp only [ho];go_simp
theorem U3n {f:FuncId} (x y z:Operand) (ts:Array TypeId) (vx vy vz:Value) (ho:o.op=.call { callee:=.value (.func f),args:=#[x,y,z],argTypes:=ts }) (hx:a.eval x=vx) (hy:a.eval y=vy) (hz:a.eval z=vz) (he:(callFunc f #[vx,vy,vz]).run P w=.ok (.enter f #[vx,vy,vz]) w):(execOp a.eval o).run P w=.ok (.enter f #[vx,vy,vz]) w:=by
 have hf:a.eval (.func f)=.func (.func f) #[] #[]:=rfl;generalize a.eval=ρ at hx hy hz hf ⊢;unfold execOp;simp only [ho];go_simp
end
section
variable {w:World} {b o:Nat}
theorem D8 {x:fY} (h:w.cell? ⟨b,o,none⟩=some (.string x)):(Instr.loadAt 9 (.pointer (some ⟨b,o,none⟩))).run prog w=.ok (.string x) w:=by
 go_simp
theorem F3 {x:Int} (h:w.cell? ⟨b,o,none⟩=some (.int .i64 x)):(Instr.loadAt 3 (.pointer (some ⟨b,o,none⟩))).run prog w=.ok (.int .i64 x) w:=by
 go_simp
theorem Q2f {A:Option Addr} {n c:Nat} (h:w.cell? ⟨b,o,none⟩=some (.slice A n c)):(Instr.loadAt 24 (.pointer (some ⟨b,o,none⟩))).run prog w=.ok (.slice A n c) w:=by
 go_simp
theorem X8c {k d:Int} {t:fY} (h0:w.cell? ⟨b,o,none⟩=some (.int .i64 k)) (h1:w.cell? ⟨b,o+1,none⟩=some (.string t)) (h2:w.cell? ⟨b,o+2,none⟩=some (.int .i64 d)):(Instr.loadAt 31 (.pointer (some ⟨b,o,none⟩))).run prog w=.ok (.agg #[.int .i64 k,.string t,.int .i64 d]) w:=by
 go_simp
end
section
variable {P:Program} {a:Act} {w:World} {o:Oper} {QE:Exit→Act→World→Prop}
theorem Q1r {f:FuncId} {x:Operand} {ts:Array TypeId} (vx:Value) (ho:o.op=.call { callee:=.value (.func f),args:=#[x],argTypes:=ts }) {fn:Func} {c:Code} (hf:P.funcs[f]? =some fn) {Post:Ending→World→Prop} (hc:Calls P f #[vx] w Post)
 {K : Act → World → Prop} (h : ∀ e w', Post e w' → ∃ v, e = .returned v ∧ K (a.put o.dst v) w') (hx : a.eval x = vx := by kernel_rfl) (hn : (fn.name == "runtime.NumGoroutine") = false := by kernel_rfl) (hb : fn.body = some c := by rfl) : Oper.wp P o a w K QE :=
 J1 (V2j x ts vx ho hx (enters_of hf hn hb _ _)) hc h
theorem Q0s {f:FuncId} {x y:Operand} {ts:Array TypeId} (vx vy:Value) (ho:o.op=.call { callee:=.value (.func f),args:=#[x,y],argTypes:=ts }) {fn:Func} {c:Code} (hf:P.funcs[f]? =some fn) {Post:Ending→World→Prop} (hc:Calls P f #[vx,vy] w Post)
 {K : Act → World → Prop} (h : ∀ e w', Post e w' → ∃ v, e = .returned v ∧ K (a.put o.dst v) w') (hx : a.eval x = vx := by kernel_rfl) (hy : a.eval y = vy := by kernel_rfl) (hn : (fn.name == "runtime.NumGoroutine") = false := by kernel_rfl) (hb : fn.body = some c := by rfl) : Oper.wp P o a w K QE :=
 J1 (X7o x y ts vx vy ho hx hy (enters_of hf hn hb _ _)) hc h
end
theorem Z3p (t:fY) (off:Int) {B g:Nat} {u:List Tk} {cs:List Int} {ops:List Tk} {cnt:Nat} {w:World} (h:MSt B g u cs ops cnt w) (hl:u.length+1≤512) (hlu:X3 u≤1000000) (hc:cs.length+1≤1024) (hn:cnt≤500):
 Calls prog 122 #[.pointer (some ⟨g,0,none⟩),.agg #[.int .i64 4,.string t,.int .i64 0],.int .i64 off] w (Z4c B g (u++[⟨4,t,((cnt+1:Nat):Int)⟩]) (cs++[off]) ops (cnt+1) w):=by
 have hB:=h.bsz;have hg:=h.gsz;obtain ⟨iv,tv,cv,ov,its,tx,hm,hs⟩:=h.ex;clear h;obtain ⟨A,c,rfl⟩:=Q0 hm.own;have hk:∀ v∈[iv,tv,cv,.slice A ops.length c],v.ownBlock≠some w.heap.size:=by
  intro v hv e;simp only [aU,cL,eL] at hv;rcases hv with rfl | rfl | rfl | rfl
  ·have:=(hm.bd.its.lt _ e).2;omega
  ·have:=(hm.bd.txt.lt _ e).2;omega
  ·have:=(hm.bd.cuts.lt _ e).2;omega
  ·have:=(hm.own.lt _ e).2;omega
 have H0:=zW (hm.alloc (.cells #[.int .i64 4,.string t,.int .i64 0] 31));have ha:yK ((w.alloc (.cells #[.int .i64 4,.string t,.int .i64 0] 31)).heap[w.heap.size]? =some (.cells #[.int .i64 4,.string t,.int .i64 0] 31)):=aY;have hd:=zW ((aB B w).alloc hB (.cells #[.int .i64 4,.string t,.int .i64 0] 31));have HS:=zW hs;clear hm hs;obtain ⟨p,hp⟩:∃ p,yK (p=w.heap.size):=⟨_,rfl⟩;go_enter func122,ntmps122
 go_upto_region 1 with fail
 rw [←hp.o] at ha hk hg ⊢;generalize w.alloc (.cells #[.int .i64 4,.string t,.int .i64 0] 31)=w0 at H0 ha hd ⊢;obtain ⟨x0,x1,x2,x3⟩:=bx3 ha.o;have q4:w0.cell? ⟨g,4,none⟩=some (.int .i64 (cnt:Int)):=H0.o.bd.cellR (i:=1) rfl;have f4:=H0.o.bd.frozen 4;go_upto_region 8 with fail
 rw [show (cnt:Int)+1=((cnt+1:Nat):Int) by omega];obtain ⟨c1,hh⟩:∃ c1,yK (c1=cnt+1):=⟨_,rfl⟩;rw [←hh.o];have H1:=zW (H0.o.count c1);have hb:yK ((w0.setCell ⟨g,4,none⟩ (.int .i64 (c1:Int))).heap[p]? =some (.cells #[.int .i64 4,.string t,.int .i64 0] 31)):=by
  show _=_;rw [aV _ _ _ _ (by show p≠g;omega)];exact ha.o
 have he:=zW (hd.o.setCell (p:=⟨g,4,none⟩) H0.o.bd.lt (.int .i64 (c1:Int)));clear q4 f4 x0 x1 x2 x3 H0 ha hd;generalize w0.setCell ⟨g,4,none⟩ (.int .i64 (c1:Int))=w1 at H1 hb he ⊢;obtain ⟨x0,x1,x2,x3,x4,x5⟩:=bx3 hb.o;have q4:w1.cell? ⟨g,4,none⟩=some (.int .i64 (c1:Int)):=H1.o.bd.cellR (i:=1) rfl;go_upto_region 9 with fail
 have H2:=zW (H1.o.other p 2 (.int .i64 (c1:Int)) yY hk);have hi:yK ((w1.setCell ⟨p,2,none⟩ (.int .i64 (c1:Int))).heap[p]? =some (.cells #[.int .i64 4,.string t,.int .i64 (c1:Int)] 31)):=by
  show _=_;rw [W8 hb.o];rfl
 have hf:=zW (he.o.setCell (p:=⟨p,2,none⟩) (by show B≤p;have:=hp.o;omega) (.int .i64 (c1:Int)));clear q4 x0 x1 x2 x3 x4 x5 H1 hb he;generalize w1.setCell ⟨p,2,none⟩ (.int .i64 (c1:Int))=w8 at H2 hi hf ⊢;obtain ⟨x0,x1,x2,_⟩:=bx3 hi.o;have H8:yK (MSt B g u cs ops c1 w8):=⟨⟨_,_,_,_,_,_,H2.o,HS.o⟩⟩;have CB:=zW (fun w (h:MSt B g u cs ops c1 w)=>Y4m ⟨4,t,(c1:Int)⟩ (by show (4:Int)≠1;decide) off h hl hlu hc);go_wp2_with fail
 go_region_with (first
  | (go_at_call 127;refine (CB.o _ (by exact H8.o.below (Q1 (aB _ _) 1))).mono ?_;rintro e w9 ⟨rfl,hj,ho⟩;have hq:=zW hj;have hr:=zW ((Q1 hf.o 1).trans ho);clear hj ho)
  | (go_at_call 124;refine (Q2y _).mono ?_;rintro e w' ⟨rfl,rfl⟩))
 all_goals (
  go_wp2_with fail
  go_ret
  rw [←hh.o];exact ⟨rfl,hq.o,hr.o⟩)
theorem Z3o (t:fY) (y:Tk) (off m:Int) {B g:Nat} {u:List Tk} {cs:List Int} {ops:List Tk} {cnt:Nat} {w:World} (h:MSt B g u cs (ops++[y]) cnt w) (hl:u.length+1≤512) (hlu:X3 u≤1000000) (hc:cs.length+1≤1024) (ho:ops.length≤500) (hy:J8 y.t=t) (hys:y.t.size≤1000000) (hm0:w.cell? ⟨0,0,none⟩=some (.int .i64 m)):
 Calls prog 122 #[.pointer (some ⟨g,0,none⟩),.agg #[.int .i64 3,.string t,.int .i64 0],.int .i64 off] w (Z4c B g (u++[⟨3,t,y.d⟩]) (cs++[off]) ops cnt w):=by
 have hB:=h.bsz;have hg:=h.gsz;have hF:=Q3d hm0;obtain ⟨iv,tv,cv,ov,its,tx,hm,hs⟩:=h.ex;clear h;obtain ⟨A,c,hv⟩:=Q0 hm.own;rw [show (ops++[y]).length=ops.length+1 by simp] at hv;subst hv;have hw:∀ v∈[iv,tv,cv,.slice A (ops.length+1) c],v.ownBlock≠some w.heap.size:=by
  intro v hv e;simp only [aU,cL,eL] at hv;rcases hv with rfl | rfl | rfl | rfl
  ·have:=(hm.bd.its.lt _ e).2;omega
  ·have:=(hm.bd.txt.lt _ e).2;omega
  ·have:=(hm.bd.cuts.lt _ e).2;omega
  ·have:=(hm.own.lt _ e).2;omega
 obtain ⟨b,o,hA,hn,_,p1,p2⟩:=RdT.at_ (OwnE.rd Q5 hm.own) ops.length yW;subst hA;rw [show (ops++[y])[ops.length]'yW=y by simp] at p1 p2;have HN:yK (∀ w,w.cell? ⟨0,0,none⟩=some (.int .i64 m)→Calls prog 41 #[.string y.t] w fun e w'=>e=.returned (.string t)∧∃ n,w'=w.drewN n):=fun w hm=>by
  have h:=Q5r y.t m w hys hm;have e:ofL (Z0 y.t.data.toList)=t:=by
   rw [←hy,←Q9y];exact X0a _
  rw [e] at h;exact h
 have hq:ops.length≤c:=by
  obtain ⟨A',c',hG,hE,_⟩:=(OwnE.rd Q5 hm.own).shape;injection hG with e1 e2 e3;rw [aA,bZ] at hE;omega
 obtain ⟨yk,yt,yd⟩:=y;simp only at p1 p2 HN hys;have hx:w.heap.size≠b:=yY;have a1:(w.alloc (.cells #[.int .i64 3,.string t,.int .i64 0] 31)).cell? ⟨b,o+ops.length * 3+1,none⟩=some (.string yt):=(by rw [dK _ _ _ hn];exact p1);have a2:(w.alloc (.cells #[.int .i64 3,.string t,.int .i64 0] 31)).cell? ⟨b,o+ops.length * 3+2,none⟩=some (.int .i64 yd):=(by rw [dK _ _ _ hn];exact p2);have HM:yK ((w.alloc (.cells #[.int .i64 3,.string t,.int .i64 0] 31)).cell? ⟨0,0,none⟩=some (.int .i64 m)):=(by show _=_;rw [dK _ _ _ hF];exact hm0);have H0:=zW (hm.alloc (.cells #[.int .i64 3,.string t,.int .i64 0] 31));have hd:yK ((w.alloc (.cells #[.int .i64 3,.string t,.int .i64 0] 31)).heap[w.heap.size]? =some (.cells #[.int .i64 3,.string t,.int .i64 0] 31)):=aY;have hh:=zW ((aB B w).alloc hB (.cells #[.int .i64 3,.string t,.int .i64 0] 31));have HS:=zW hs;clear hm hs p1 p2 hm0;obtain ⟨p,hp⟩:∃ p,yK (p=w.heap.size):=⟨_,rfl⟩;go_enter func122,ntmps122
 go_upto_region 1 with fail
 rw [←hp.o] at hd hw hg hx ⊢;generalize w.alloc (.cells #[.int .i64 3,.string t,.int .i64 0] 31)=w0 at H0 hd hh HM a1 a2 ⊢;obtain ⟨x0,x1,x2,x3⟩:=bx3 hd.o;have q3:w0.cell? ⟨g,3,none⟩=some (.slice (some ⟨b,o,none⟩) (ops.length+1) c):=H0.o.bd.cellR (i:=0) rfl;go_upto_region 3 with fail
 have t1:(((ops.length:Int)+1)==0)=false:=(by rw [aI];omega);have t2:(ops.length:Int) < (ops.length:Int)+1:=yY;have t3:(0:Int)≤(ops.length:Int):=yY;have hH:IntKind.i64.wrap (ops.length:Int)=(ops.length:Int):=(by rw [cQ];omega);refine zqR (l0:=#[false,false,false,false,false,false,false,false,false,false,false,false,false,false,false,false,false]) 17 rfl ?_;refine zqM 0 16 (.int .i64 ((ops.length:Int)+1)) rfl ?_;refine zqB 1 17 (.bool false) rfl rfl (.int .i64 ((ops.length:Int)+1)) (.int .i64 0) ?_;refine zqM 2 18 (.bool false) rfl ?_;refine zqM 3 19 (.pointer (some ⟨g,0,none⟩)) rfl ?_;refine zzA 4 (.pointer (some ⟨g,0,none⟩)) (some 20) rfl (fun _=>Q6u _ _ rfl yZ) ?_;refine zqF 5 21 (.pointer (some ⟨g,3,none⟩)) rfl rfl (.pointer (some ⟨g,0,none⟩)) ?_;refine zqM 7 23 (.int .i64 ((ops.length:Int)+1)) rfl ?_;refine zqB 8 24 (.int .i64 (ops.length:Int)) rfl rfl (.int .i64 ((ops.length:Int)+1)) (.int .i64 1) ?_;refine zqF 13 29 (.pointer (some ⟨p,1,none⟩)) rfl rfl (.pointer (some ⟨p,0,none⟩)) ?_;simp only [Act.put,zZ,zY,zX];refine zqt 6 14 rfl rfl ?_ ?_;refine zqL (.slice (some ⟨b,o,none⟩) (ops.length+1) c) rfl (.pointer (some ⟨g,3,none⟩)) (Q2f (w:=w0.drew) q3) ?_;refine zqI 9 25 (.pointer (some ⟨b,o+ops.length * 3,none⟩)) rfl rfl (.slice (some ⟨b,o,none⟩) (ops.length+1) c) (.int .i64 (ops.length:Int)) ?_;refine zqF 10 26 (.pointer (some ⟨b,o+ops.length * 3+1,none⟩)) rfl rfl (.pointer (some ⟨b,o+ops.length * 3,none⟩)) ?_;simp only [Act.put,zZ,zY,zX];refine zqt 11 14 rfl rfl ?_ ?_;refine zqL (.string yt) rfl (.pointer (some ⟨b,o+ops.length * 3+1,none⟩)) (D8 (w:=w0.drew) a1) ?_;simp only [Act.put,zZ,zY,zX];refine zqt 12 14 rfl rfl ?_ ?_;refine Q1r (.string yt) rfl func41 (HN.o _ (by exact HM.o)) ?_;rintro e w1 ⟨rfl,n1,rfl⟩;refine ⟨.string t,rfl,?_⟩;simp only [Act.put,zZ,zY,zX];refine zqo 14 rfl ?_;refine zqL (.string t) rfl (.pointer (some ⟨p,1,none⟩)) (D8 (w:=w0.drew.drewN n1) x1) ?_;refine zqB 15 31 (.bool false) rfl rfl (.string t) (.string t) ?_;refine zqP 16 32 (.bool false) rfl rfl false ?_;refine bW yZ ?_ _;simp only [Act.put,zZ,zY,zX];have ha:yK (∃ n,w0.drew.drewN n1=w0.drewN n):=⟨1+n1,by simp⟩;obtain ⟨n2,hb⟩:=ha.o;rw [hb];clear hb ha;rotate_left 1
 refine zqL (.string t) rfl (.pointer (some ⟨p,1,none⟩)) (D8 (w:=w0.drew) x1) ?_;simp only [Act.put,zZ,zY,zX];refine zqo 12 rfl ?_;refine Q1r (.string yt) rfl func41 (HN.o _ (by exact HM.o)) ?_;rintro e w1 ⟨rfl,n1,rfl⟩;refine ⟨.string t,rfl,?_⟩;refine zqB 15 31 (.bool false) rfl rfl (.string t) (.string t) ?_;refine zqP 16 32 (.bool false) rfl rfl false ?_;refine bW yZ ?_ _;simp only [Act.put,zZ,zY,zX];have ha:yK (∃ n,w0.drew.drewN n1=w0.drewN n):=⟨1+n1,by simp⟩;obtain ⟨n2,hb⟩:=ha.o;rw [hb];clear hb ha;rotate_left 1
 refine zqL (.string t) rfl (.pointer (some ⟨p,1,none⟩)) (D8 (w:=w0.drew) x1) ?_;simp only [Act.put,zZ,zY,zX];refine zqo 11 rfl ?_;refine zqL (.string yt) rfl (.pointer (some ⟨b,o+ops.length * 3+1,none⟩)) (D8 (w:=w0.drew) a1) ?_;simp only [Act.put,zZ,zY,zX];refine zqo 12 rfl ?_;refine Q1r (.string yt) rfl func41 (HN.o _ (by exact HM.o)) ?_;rintro e w1 ⟨rfl,n1,rfl⟩;refine ⟨.string t,rfl,?_⟩;refine zqB 15 31 (.bool false) rfl rfl (.string t) (.string t) ?_;refine zqP 16 32 (.bool false) rfl rfl false ?_;refine bW yZ ?_ _;simp only [Act.put,zZ,zY,zX];have ha:yK (∃ n,w0.drew.drewN n1=w0.drewN n):=⟨1+n1,by simp⟩;obtain ⟨n2,hb⟩:=ha.o;rw [hb];clear hb ha;rotate_left 1
 refine zqL (.string t) rfl (.pointer (some ⟨p,1,none⟩)) (D8 (w:=w0.drew) x1) ?_;simp only [Act.put,zZ,zY,zX];refine zqo 6 rfl ?_;refine zqL (.slice (some ⟨b,o,none⟩) (ops.length+1) c) rfl (.pointer (some ⟨g,3,none⟩)) (Q2f (w:=w0.drew) q3) ?_;refine zqI 9 25 (.pointer (some ⟨b,o+ops.length * 3,none⟩)) rfl rfl (.slice (some ⟨b,o,none⟩) (ops.length+1) c) (.int .i64 (ops.length:Int)) ?_;refine zqF 10 26 (.pointer (some ⟨b,o+ops.length * 3+1,none⟩)) rfl rfl (.pointer (some ⟨b,o+ops.length * 3,none⟩)) ?_;simp only [Act.put,zZ,zY,zX];refine zqo 11 rfl ?_;refine zqL (.string yt) rfl (.pointer (some ⟨b,o+ops.length * 3+1,none⟩)) (D8 (w:=w0.drew) a1) ?_;simp only [Act.put,zZ,zY,zX];refine zqo 12 rfl ?_;refine Q1r (.string yt) rfl func41 (HN.o _ (by exact HM.o)) ?_;rintro e w1 ⟨rfl,n1,rfl⟩;refine ⟨.string t,rfl,?_⟩;refine zqB 15 31 (.bool false) rfl rfl (.string t) (.string t) ?_;refine zqP 16 32 (.bool false) rfl rfl false ?_;refine bW yZ ?_ _;simp only [Act.put,zZ,zY,zX];have ha:yK (∃ n,w0.drew.drewN n1=w0.drewN n):=⟨1+n1,by simp⟩;obtain ⟨n2,hb⟩:=ha.o;rw [hb];clear hb ha;all_goals (
  have H1:=zW (H0.o.drewN n2);have hf:yK ((w0.drewN n2).heap[p]? =some (.cells #[.int .i64 3,.string t,.int .i64 0] 31)):=hd.o;have hi:=zW (Q1 hh.o n2);have b2:(w0.drewN n2).cell? ⟨b,o+ops.length * 3+2,none⟩=some (.int .i64 yd):=a2;clear H0 hd hh HM a1 a2 x0 x1 x2 x3 q3 t1;generalize w0.drewN n2=w1 at H1 hf hi b2 ⊢;obtain ⟨x0,x1,x2,x3,x4,x5⟩:=bx3 hf.o;have q3:w1.cell? ⟨g,3,none⟩=some (.slice (some ⟨b,o,none⟩) (ops.length+1) c):=H1.o.bd.cellR (i:=0) rfl;go_upto_region 6 with fail
  have H2:=zW (H1.o.other p 2 (.int .i64 yd) yY hw);have hk:yK ((w1.setCell ⟨p,2,none⟩ (.int .i64 yd)).heap[p]? =some (.cells #[.int .i64 3,.string t,.int .i64 yd] 31)):=by
   show _=_;rw [W8 hf.o];rfl
  have hj:=zW (hi.o.setCell (p:=⟨p,2,none⟩) (by show B≤p;have:=hp.o;omega) (.int .i64 yd));clear q3 x0 x1 x2 x3 x4 x5 H1 hf hi b2;generalize w1.setCell ⟨p,2,none⟩ (.int .i64 yd)=w2 at H2 hk hj ⊢;have q3:w2.cell? ⟨g,3,none⟩=some (.slice (some ⟨b,o,none⟩) (ops.length+1) c):=H2.o.bd.cellR (i:=0) rfl;have f3:=H2.o.bd.frozen 3;have he:(ops.length:Int)≤(c:Int):=yY;go_upto_region 9 with fail
  have H3:yK (Ms B g iv tv cv (.slice (some ⟨b,o,none⟩) ops.length c) its tx cs ops cnt (w2.setCell ⟨g,3,none⟩ (.slice (some ⟨b,o,none⟩) ops.length c))):=by
   have h:=H2.o.pop ops.length yW;rw [eH] at h;exact h
  have ht:yK ((w2.setCell ⟨g,3,none⟩ (.slice (some ⟨b,o,none⟩) ops.length c)).heap[p]? =some (.cells #[.int .i64 3,.string t,.int .i64 yd] 31)):=by
   show _=_;rw [aV _ _ _ _ (by show p≠g;omega)];exact hk.o
  have hr:=zW (hj.o.setCell (p:=⟨g,3,none⟩) H2.o.bd.lt (.slice (some ⟨b,o,none⟩) ops.length c));clear q3 f3 H2 hk hj;generalize w2.setCell ⟨g,3,none⟩ (.slice (some ⟨b,o,none⟩) ops.length c)=w8 at H3 ht hr ⊢;obtain ⟨x0,x1,x2,_⟩:=bx3 ht.o;have H8:yK (MSt B g u cs ops cnt w8):=⟨⟨_,_,_,_,_,_,H3.o,HS.o⟩⟩;clear t2 t3 hH he hq hx hn hy hys HN;have CB:=zW (fun w (h:MSt B g u cs ops cnt w)=>Y4m ⟨3,t,yd⟩ (by show (3:Int)≠1;decide) off h hl hlu hc);go_wp2_with fail
  go_region_with (first
   | (go_at_call 127;refine (CB.o _ (by exact H8.o.below (Q1 (aB _ _) 1))).mono ?_;rintro e w9 ⟨rfl,hu,hz⟩;have hC:=zW hu;have hD:=zW ((Q1 hr.o 1).trans hz);clear hu hz)
   | (go_at_call 124;refine (Q2y _).mono ?_;rintro e w' ⟨rfl,rfl⟩)))
 all_goals (
  go_wp2_with fail
  go_ret
  exact ⟨rfl,hC.o,hD.o⟩)
def X6r (B g:Nat) (u:List Tk) (cs:List Int) (ops:List Tk) (cnt n:Nat) (w:World) (e:Ending) (w':World):Prop:=
 e=.returned (.tuple #[.int .i64 n,.int .i64 0])∧MSt B g u cs ops cnt w'∧Below B w w'
theorem Z8z (raw s:fY) (k:Nat) (c:UInt8) (r:List UInt8) {B g:Nat} {u:List Tk} {cs:List Int} {ops:List Tk} {cnt:Nat} {w:World} (h:MSt B g u cs ops cnt w) (hl:u.length+1≤512) (hlu:X3 u≤1000000) (hc:cs.length+1≤1024)
 (hk:k < raw.size) (hr:raw.size≤1000000) (hs:raw.extract k raw.size=s) (hcr:s.data.toList=c::r) (h0:c≠60) (h1:c≠38) (h2:c≠123):
 Calls prog 81 #[.pointer (some ⟨g,0,none⟩),.string raw,.int .i64 k] w (X6r B g (u++[chI c]) (cs++[(k:Int)]) ops cnt 1 w):=by
 have hh:0 < s.size:=(by rw [aC,hcr];simp);have ha:s[0]=c:=by
  have:s.data.toList[0]'(by rw [hcr];simp)=c:=(by simp only [hcr];rfl);exact this
 have CB:=zW (fun w (h:MSt B g u cs ops cnt w)=>V3z s[0] (k:Int) h hl hlu hc);have n0:((s[0].toNat:Int)==60)=false:=F2 s[0] 60 (by rw [ha];exact h0);have n1:((s[0].toNat:Int)==38)=false:=F2 s[0] 38 (by rw [ha];exact h1);have n2:((s[0].toNat:Int)==123)=false:=F2 s[0] 123 (by rw [ha];exact h2);have HS:=zW hs;have hf:=zW ha;have H:=zW h;clear h hl hlu hc hcr h0 h1 h2 ha hs;go_enter func81,ntmps81
 go_upto_region 2 with fail
 rw [HS.o];go_wp2_with fail
 go_region_with (first
  | (go_at_call 125;refine (CB.o _ (by exact H.o.below (Q1 (aB _ _) 1))).mono ?_;rintro e w1 ⟨rfl,hb,hd⟩;have he:=zW hb;have hg:=zW ((Q1 (aB B w) 1).trans hd);clear hb hd)
  | (go_at_call 124;refine (Q2y _).mono ?_;rintro e w' ⟨rfl,rfl⟩))
 all_goals (
  go_wp2_with fail
  go_ret2
  refine ⟨rfl,?_,hg.o⟩;rw [←hf.o];exact he.o)
theorem Z2a (raw s:fY) (k:Nat) (q:List UInt8) (c:UInt8) (r:List UInt8) {B g:Nat} {u:List Tk} {cs:List Int} {ops:List Tk} {cnt:Nat} {w:World} (h:MSt B g u cs ops cnt w) (hl:u.length+1≤512) (hlu:X3 u≤1000000) (hc:cs.length+1≤1024)
 (hk:k < raw.size) (hr:raw.size≤1000000) (hs:raw.extract k raw.size=s) (hcr:s.data.toList=q++r) (hq:(q,c)∈X5l):
 Calls prog 81 #[.pointer (some ⟨g,0,none⟩),.string raw,.int .i64 k] w (X6r B g (u++[chI c]) (cs++[(k:Int)]) ops cnt q.length w):=by
 obtain ⟨q',hd⟩:∃ q',q=38::q':=by
  simp only [X5l,aU,eX,cL,eL] at hq;rcases hq with ⟨rfl,_⟩ | ⟨rfl,_⟩ | ⟨rfl,_⟩ | ⟨rfl,_⟩ | ⟨rfl,_⟩<;>exact ⟨_,rfl⟩
 have hh:0 < s.size:=(by rw [aC,hcr,hd];simp);have he:s[0]=38:=by
  have:s.data.toList[0]'(by rw [hcr,hd];simp)=38:=(by simp only [hcr,hd];rfl);exact this
 have CR:=zW (fun w=>U2b s r q c hq hcr w);have CB:=zW (fun w (h:MSt B g u cs ops cnt w)=>V3z c (k:Int) h hl hlu hc);have n0:((s[0].toNat:Int)==60)=false:=F2 s[0] 60 (by rw [he];decide);have n1:((s[0].toNat:Int)==38)=true:=R9 s[0] 38 he;have HS:=zW hs;have H:=zW h;generalize q.length=ql at CR ⊢;clear h hl hlu hc hcr he hs hq hd;go_enter func81,ntmps81
 go_upto_region 2 with fail
 rw [HS.o];go_wp2_with (first
  | (go_at_call 123;refine (CR.o _).mono ?_;rintro e w' ⟨rfl,rfl⟩)
  | (go_at_call 125;refine (CB.o _ (by exact H.o)).mono ?_;rintro e w1 ⟨rfl,ha,hb⟩;have hf:=zW ha;have hg:=zW hb;clear ha hb)
  | (go_at_call 124;refine (Q2y _).mono ?_;rintro e w' ⟨rfl,rfl⟩))
 first | (go_region_with (first
  | (go_at_call 125;refine (CB.o _ (by exact H.o.below (Q1 (aB _ _) 1))).mono ?_;rintro e w1 ⟨rfl,ha,hb⟩;have hf:=zW ha;have hg:=zW ((Q1 (aB B w) 1).trans hb);clear ha hb)
  | (go_at_call 124;refine (Q2y _).mono ?_;rintro e w' ⟨rfl,rfl⟩))) | skip
 all_goals (
  first | (go_wp2_with fail) | skip
  go_ret2
  exact ⟨rfl,hf.o,hg.o⟩)
theorem Y8g (raw s nm:fY) (k:Nat) (r:List UInt8) {B g:Nat} {u:List Tk} {cs:List Int} {ops:List Tk} {cnt:Nat} {w:World} (h:MSt B g u cs ops cnt w) (hl:u.length+1≤512) (hlu:X3 u≤1000000) (hc:cs.length+1≤1024)
 (hk:k < raw.size) (hr:raw.size≤1000000) (hs:raw.extract k raw.size=s) (hcr:s.data.toList=123::nm.data.toList++125::r) (hn:U3 nm.data.toList=true):
 Calls prog 81 #[.pointer (some ⟨g,0,none⟩),.string raw,.int .i64 k] w (X6r B g (u++[⟨5,nm,0⟩]) (cs++[(k:Int)]) ops cnt (nm.size+2) w):=by
 have hi:s.size=nm.size+2+r.length:=(by rw [aC,hcr,aC nm];simp;omega);have hm:0 < s.size:=yY;have hj:s.size≤raw.size:=(by rw [←hs,cJ];omega);have ha:s[0]=123:=by
  have:s.data.toList[0]'(by rw [hcr];simp)=123:=(by simp only [hcr];rfl);exact this
 have hh:nm.size≤1000000:=yY;have hg:s.extract 1 (nm.size+1)=nm:=E7 _ _ _ _ (Q1s (p:=[123]) (q:=125::r) (by rw [hcr];simp) rfl (by rw [←aC];omega));have CI:=zW (I1 s 125 ((nm.size+1:Nat):Int) (by rw [hcr,aC nm];exact X9r nm.data.toList r hn));have CN:=zW (fun w=>M7 nm w (by unfold maxLen;omega));rw [hn] at CN;have CB:=zW (fun w (h:MSt B g u cs ops cnt w)=>Y4m ⟨5,nm,0⟩ (by show (5:Int)≠1;decide) (k:Int) h hl hlu hc);have n0:((s[0].toNat:Int)==60)=false:=F2 s[0] 60 (by rw [ha];decide);have n1:((s[0].toNat:Int)==38)=false:=F2 s[0] 38 (by rw [ha];decide);have n2:((s[0].toNat:Int)==123)=true:=R9 s[0] 123 ha;have HR:yK (IntKind.i64.wrap ((nm.size:Int)+1+1)=((nm.size+2:Nat):Int)):=(by show _=_;rw [cQ];omega);have HS:=zW hs;have H:=zW h;clear h hl hlu hc hcr hs ha;go_enter func81,ntmps81
 go_upto_region 2 with fail
 rw [HS.o];go_wp2_with (first
  | (go_at_call 126;refine (CI.o _).mono ?_;rintro e w' ⟨rfl,rfl⟩)
  | (go_at_call 114;refine (CN.o _).mono ?_;rintro e w' ⟨rfl,rfl⟩))
 go_region_with (first
  | (go_at_call 127;refine (CB.o _ (by exact H.o.below (Q1 (aB _ _) 1))).mono ?_;rintro e w1 ⟨rfl,hb,hd⟩;have he:=zW hb;have hf:=zW ((Q1 (aB B w) 1).trans hd);clear hb hd)
  | (go_at_call 124;refine (Q2y _).mono ?_;rintro e w' ⟨rfl,rfl⟩))
 all_goals (
  go_wp2_with fail
  go_ret2
  refine ⟨Q5w ?_,he.o,hf.o⟩;rw [HR.o];rfl)
theorem Q9w (raw s t:fY) (k:Nat) (kk m:Int) (n:Nat) (r:List UInt8) {B g:Nat} {u u':List Tk} {cs cs':List Int} {ops ops':List Tk} {cnt cnt':Nat} {w:World} (h:MSt B g u cs ops cnt w) (hm:w.cell? ⟨0,0,none⟩=some (.int .i64 m))
 (hk:k < raw.size) (hr:raw.size≤1000000) (hs:raw.extract k raw.size=s) (hcr:s.data.toList=60::r) (ht:t.size≤1000000) (hT:Calls prog 121 #[.string s] w (X3g kk t n w)) (hb:U4 (Z0 t.data.toList)=false)
 (hG:∀ w',MSt B g u cs ops cnt w'→w'.cell? ⟨0,0,none⟩=some (.int .i64 m)→Calls prog 122 #[.pointer (some ⟨g,0,none⟩),.agg #[.int .i64 kk,.string t,.int .i64 0],.int .i64 k] w' (Z4c B g u' cs' ops' cnt' w')):
 Calls prog 81 #[.pointer (some ⟨g,0,none⟩),.string raw,.int .i64 k] w (X6r B g u' cs' ops' cnt' n w):=by
 have hB:=h.bsz;have hu:0 < s.size:=(by rw [aC,hcr];simp);have hl:s[0]=60:=by
  have:s.data.toList[0]'(by rw [hcr];simp)=60:=(by simp only [hcr];rfl);exact this
 have n0:((s[0].toNat:Int)==60)=true:=R9 s[0] 60 hl;have HS:=zW hs;have H:=zW h;have HM:=zW hm;have HT:=zW hT;have HG:=zW hG;have HN:=zW (fun w (hm:w.cell? ⟨0,0,none⟩=some (.int .i64 m))=>Q5r t m w ht hm);have hg:=zW (fun w=>Q2v (ofL (Z0 t.data.toList)) w (by simpa [ofL] using hb));generalize ofL (Z0 t.data.toList)=tn at HN hg;clear h hm hcr hs hl hT hG hb ht;go_enter func81,ntmps81
 go_upto_region 2 with fail
 rw [HS.o];go_wp2_with (go_at_call 121;refine (HT.o).mono ?_;rintro e w1 ⟨rfl,he⟩;have hc:=zW he;have hq:=he.size;clear he)
 have ha:=zW (X8 HM.o hc.o);have HX:yK ((w1.alloc (.cells #[.int .i64 kk,.string t,.int .i64 0] 31)).heap[w1.heap.size]? =some (.cells #[.int .i64 kk,.string t,.int .i64 0] 31)):=aY;refine (HN.o _ (by rw [dK _ _ _ (Q3d ha.o)];exact ha.o)).mono ?_;rintro e w2 ⟨rfl,n2,rfl⟩;have hh:yK (((w1.alloc (.cells #[.int .i64 kk,.string t,.int .i64 0] 31)).drewN n2).cell? ⟨0,0,none⟩=some (.int .i64 m)):=by
  show (w1.alloc (.cells #[.int .i64 kk,.string t,.int .i64 0] 31)).cell? ⟨0,0,none⟩=_;rw [dK _ _ _ (Q3d ha.o)];exact ha.o
 have hi:yK (((w1.alloc (.cells #[.int .i64 kk,.string t,.int .i64 0] 31)).drewN n2).heap[w1.heap.size]? =some (.cells #[.int .i64 kk,.string t,.int .i64 0] 31)):=HX.o;have hd:=Q1 (hc.o.alloc hq (.cells #[.int .i64 kk,.string t,.int .i64 0] 31)) n2;have H2:=zW (H.o.below hd);have hf:=zW (hd.mono hB);clear H HM HX hc ha HN hd;generalize (w1.alloc (.cells #[.int .i64 kk,.string t,.int .i64 0] 31)).drewN n2=w3 at hh hi H2 hf ⊢;obtain ⟨x0,x1,x2,_⟩:=bx3 hi.o;go_wp2_with (first
  | (go_at_call 40;refine (hg.o _).mono ?_;rintro e w' ⟨rfl,rfl⟩)
  | (go_at_call 122;refine (HG.o _ H2.o hh.o).mono ?_;rintro e w4 ⟨rfl,hj,hn⟩;have ho:=zW hj;have hp:=zW (hf.o.trans hn);clear hj hn))
 go_ret2
 exact ⟨rfl,ho.o,hp.o⟩
theorem X6f (x:Tk) (c:Nat) (op:List Tk) (h:x.k=1∨x.k=5):B6 [x] c op=(c,op):=by
 rw [B6,aE yY,aE yY,aE yY];rfl
theorem X1c (fmt:Int) (r:List UInt8) (x:Tk) (h:ElOk fmt r (some x)):x.t.size≤64:=by
 cases h with
 | slot _ n hn=>obtain ⟨c,l,rfl,_,hl,_⟩:=L3 n hn;rw [aC];simp [ofL];omega
 | opn t d h hb=>have:=(J0 t h).1;rw [aC];simpa [ofL] using this
 | cls t d h hb=>obtain ⟨c,l,rfl,_,hl,_⟩:=L3 t h;rw [aC];simp [ofL];omega
 | emp t d h hb=>have:=(J0 t h).1;rw [aC];simpa [ofL] using this
 | _=>show (1:Nat)≤64;decide
theorem X7x (fmt:Int) (ts:Els) (h:∀ e∈ts,ElOk fmt e.1 e.2):∀ x∈X0 ts,x.t.size≤64:=by
 intro x hx;obtain ⟨e,he,hx⟩:=List.mem_filterMap.1 hx;have:=h e he;rw [hx] at this;exact X1c _ _ _ this
theorem Q4o:∀ (u:List Tk) (c:Nat) (op:List Tk),∀ y∈(B6 u c op).2,y∈op∨y∈u
 | [],_,_,y,h=>.inl h
 | x::u,c,op,y,h=>by
   rw [B6] at h;split at h
   ·rcases Q4o u _ _ y h with h | h
    ·rcases aU.1 h with rfl | h
     ·exact .inr yW
     ·exact .inl h
    ·exact .inr (by simp [h])
   ·split at h
    ·rcases Q4o u _ _ y h with h | h
     ·exact .inl h
     ·exact .inr (by simp [h])
    ·split at h
     ·rcases Q4o u _ _ y h with h | h
      ·exact .inl (dW h)
      ·exact .inr (by simp [h])
     ·rcases Q4o u _ _ y h with h | h
      ·exact .inl h
      ·exact .inr (by simp [h])
theorem Z1z (raw:fY) (k:Nat) (m:Int) (rest':List UInt8) (v:List Tk) {B g:Nat} {u:List Tk} {cs:List Int} {op:List Tk} {cnt:Nat} {w:World} (h:MSt B g u cs op.reverse cnt w) (hm:w.cell? ⟨0,0,none⟩=some (.int .i64 m)) (hl:u.length+1≤512) (hlu:X3 u≤1000000) (hc:cs.length+1≤1024)
 (ho:op.length≤500) (hn:cnt≤500) (hos:∀ y∈op,y.t.size≤64) (hk:k < raw.size) (hr:raw.size≤1000000) (x:Tk) (hx:NumOk (x::v) cnt op):∀ (fmt:Int) (r:List UInt8) (o:Option Tk),ElOk fmt r o→fmt=1→o=some x→raw.data.toList.drop k=r++rest'→
 Calls prog 81 #[.pointer (some ⟨g,0,none⟩),.string raw,.int .i64 k] w (X6r B g (u++[x]) (cs++[(k:Int)]) (B6 [x] cnt op).2.reverse (B6 [x] cnt op).1 r.length w):=by
 intro fmt r o he hf hox hd;have ha:=Q1e raw k;rw [hd] at ha;have hi:(raw.extract k raw.size).size≤1000000:=(by rw [cJ];omega);cases he with
 | slot _ n hn=>
   injection hox with hox;subst hox;rw [X6f _ _ _ (.inr rfl)];have e:(123::n++[125]).length=(ofL n).size+2:=(by rw [aC];simp [ofL]);rw [e];exact Y8g raw _ (ofL n) k rest' h hl hlu hc hk hr rfl (by rw [ha];simp [ofL]) (by simpa [ofL] using hn)
 | ch1 c hc1=>
   injection hox with hox;subst hox;rw [X6f _ _ _ (.inl rfl)];exact Z8z raw _ k c rest' h hl hlu hc hk hr rfl (by rw [ha];rfl) hc1.1 hc1.2.1 hc1.2.2
 | ref _ c hc1=>
   injection hox with hox;subst hox;rw [X6f _ _ _ (.inl rfl)];exact Z2a raw _ k _ c rest' h hl hlu hc hk hr rfl ha hc1
 | opn t d ht hb=>
   injection hox with hox;subst hox;unfold NumOk at hx;rw [aK rfl] at hx;have hd':d=((cnt+1:Nat):Int):=hx.1;subst hd';have et:(ofL t).data.toList=t:=(by simp [ofL]);have hj:(ofL t).size≤64:=X1c 1 _ _ (ElOk.opn t ((cnt+1:Nat):Int) ht hb);have hg:(ofL t).size=t.length:=(by rw [aC,et]);have e1:B6 [(⟨2,ofL t,((cnt+1:Nat):Int)⟩:Tk)] cnt op=(cnt+1,⟨2,ofL t,((cnt+1:Nat):Int)⟩::op):=rfl;rw [e1,show (60::t++[(62:UInt8)]).length=t.length+2 by simp];rw [fA];refine Q9w raw _ (ofL t) k 2 m _ (t++62::rest') h hm hk hr rfl (by rw [ha];simp) yY ?_ (by rw [et];exact hb) fun w' h' hh=>Z3q (ofL t) k h' hl hlu hc (by simpa using ho) hn;have:=Y5k _ (ofL t) rest' m w hm (by rw [ha,et];simp) hi (by rw [et];exact ht);rwa [hg] at this
 | cls t d ht hb=>
   injection hox with hox;subst hox;unfold NumOk at hx;rw [aE (show ¬ (3:Int)=2 by decide),aE (show ¬ (3:Int)=4 by decide),aK rfl] at hx;obtain ⟨y,op',rfl,hy,hq,_⟩:=hx;have hyd':d=y.d:=hq;subst hyd';have et:(ofL t).data.toList=t:=(by simp [ofL]);have hj:(ofL t).size≤64:=X1c 1 _ _ (ElOk.cls t y.d ht hb);have hg:(ofL t).size=t.length:=(by rw [aC,et]);have e1:B6 [(⟨3,ofL t,y.d⟩:Tk)] cnt (y::op')=(cnt,op'):=rfl;rw [e1,show (60::47::t++[(62:UInt8)]).length=t.length+3 by simp];rw [fA] at h;have hp:U4 (Z0 (ofL t).data.toList)=false:=(by rw [et,X4q t ht];exact hb);refine Q9w raw _ (ofL t) k 3 m _ (47::t++62::rest') h hm hk hr rfl (by rw [ha];simp) yY ?_ hp fun w' h' hh=>Z3o (ofL t) y k m h' hl hlu hc (by simp at ho ⊢;omega) hy (by have:=hos y yW;omega) hh;have:=U0b _ (ofL t) rest' m w hm (by rw [ha,et];simp) hi (by rw [et];exact ht);rwa [hg] at this
 | emp t d ht hb=>
   injection hox with hox;subst hox;unfold NumOk at hx;rw [aE (show ¬ (4:Int)=2 by decide),aK rfl] at hx;have hd':d=((cnt+1:Nat):Int):=hx.1;subst hd';have et:(ofL t).data.toList=t:=(by simp [ofL]);have hj:(ofL t).size≤64:=X1c 1 _ _ (ElOk.emp t ((cnt+1:Nat):Int) ht hb);have hg:(ofL t).size=t.length:=(by rw [aC,et]);have e1:B6 [(⟨4,ofL t,((cnt+1:Nat):Int)⟩:Tk)] cnt op=(cnt+1,op):=rfl;rw [e1,show (60::t++[(47:UInt8),62]).length=t.length+3 by simp];refine Q9w raw _ (ofL t) k 4 m _ (t++47::62::rest') h hm hk hr rfl (by rw [ha];simp) yY ?_ (by rw [et];exact hb) fun w' h' hh=>Z3p (ofL t) k h' hl hlu hc hn;have:=Z6y _ (ofL t) rest' m w hm (by rw [ha,et];simp) hi (by rw [et];exact ht);rwa [hg] at this
 | ch2=>exact absurd hf yX
 | esc=>exact absurd hf yX
 | cont=>exact absurd hf yX
 | ch3=>exact absurd hf yX
 | two=>exact absurd hf yX
def opJ (ts:Els) (j:Nat):Nat×List Tk:=B6 (X0 (ts.take j)) 0 []
theorem X8g (raw:fY) (ts:Els) (m:Int) (w:World) (hm:w.cell? ⟨0,0,none⟩=some (.int .i64 m)) (h:Rdb 1 raw ts) (hnum:NumOk (X0 ts) 0 []):
 Calls prog 42 #[.string raw] w (fun e w'=>∃ g rest,e=.returned (.tuple #[.pointer (some ⟨g,0,none⟩),.int .i64 0,.int .i64 0])∧BS w.heap.size g 93 rest (X0 ts) (csE ts) w'∧Below w.heap.size w w'):=by
 obtain ⟨R,hs⟩:∃ R:Ending→World→Prop,yK (R=fun e w'=>∃ g rest,e=.returned (.tuple #[.pointer (some ⟨g,0,none⟩),.int .i64 0,.int .i64 0])∧BS w.heap.size g 93 rest (X0 ts) (csE ts) w'∧Below w.heap.size w w'):=⟨_,rfl⟩;rw [←hs.o];have hg:yK (MSt w.heap.size w.heap.size [] [] [] 0 (w.alloc (.cells #[.slice none 0 0,.slice none 0 0,.slice none 0 0,.slice none 0 0,.int .i64 0] 93))):=
  ⟨⟨_,_,_,_,[],⟨#[]⟩,⟨Bd.start yQ rfl yX,OwnE.nil,fun k hk=>by cases hk⟩,BSt.nil⟩⟩
 have hh:=zW ((aB w.heap.size w).alloc yQ (.cells #[.slice none 0 0,.slice none 0 0,.slice none 0 0,.slice none 0 0,.int .i64 0] 93));have hG:raw.size=(Q2 ts).length:=(by rw [aC,h.eq]);have ht:=zW hG;have H:=zW h;have hr:=zW hnum;have HM:=zW hm;clear h hG hnum hm;go_enter func42,ntmps42
 go_wp2_with fail
 go_loopg [6] ts.length (fun gk iv wr=>∃ j,iv=.int .i64 (K4 ts j:Nat)∧j≤ts.length∧yK (MSt w.heap.size w.heap.size (X0 (ts.take j)) (csE (ts.take j)) (opJ ts j).2.reverse (opJ ts j).1 wr)∧yK (Below w.heap.size w wr)∧ts.length - j≤gk)
 case atStart=>exact ⟨0,rfl,aO _,hg.o,hh.o,yQ⟩
 case round=>
  obtain ⟨j,rfl,hj,HB,HL,hgk⟩:=hrel;by_cases hlt:j < ts.length
  ·have ha:=aL hlt;have hc:=H.o.els _ ha;have hp:=X6h ts j hlt (X7j _ _ _ hc);have hF:K4 ts j < raw.size:=(by rw [ht.o];exact hp);have hd:=Q8q ts j hlt;rw [←H.o.eq] at hd;have hw:=Q1g ts (j+1);have hK:=H.o.len;have hM:=H.o.sz;obtain ⟨x,hx⟩:=Option.ne_none_iff_exists'.1 (X0z _ _ _ hc yX);have hf:=X1p ts j hlt x hx;have hv:=Z4p ts j hlt fun e he=>X0z _ _ _ (H.o.els e he) yX;rw [hf,aA,bZ] at hw;have hL:X3 (X0 (ts.take j))≤500:=aP (S8 _ (Q3m 1 (ts.take j) fun e he=>H.o.els e (bY he))) yY;have hn:=Q1k (X0 (ts.take j)) 0 [];have hz:NumOk (x::X0 (ts.drop (j+1))) (opJ ts j).1 (opJ ts j).2:=by
    have e1:X0 ts=X0 (ts.take j)++(x::X0 (ts.drop (j+1))):=by
     conv=>lhs;rw [←bR j ts,M0,aQ hlt]
     congr 1;rw [show X0 (ts[j]::ts.drop (j+1))=X0 [ts[j]]++X0 (ts.drop (j+1)) from M0 [ts[j]] _];simp [X0,hx]
    have h1:=hr.o;rw [e1] at h1;exact Q0m _ _ _ _ h1
   have hB:opJ ts (j+1)=B6 [x] (opJ ts j).1 (opJ ts j).2:=by
    unfold opJ;rw [hf,Q4n]
   have hD:∀ y∈(opJ ts j).2,y.t.size≤64:=fun y hy=>by
    rcases Q4o _ _ _ y hy with h | h
    ·simp at h
    ·exact X7x 1 (ts.take j) (fun e he=>H.o.els e (bY he)) y h
   have hC:=Z1z raw (K4 ts j) m _ _ HB.o (X8 HM.o HL.o) yY yY (by rw [Q5h];omega) (by simp at hn;unfold opJ;omega) (by simp at hn;unfold opJ;omega) hD hF hM x hz 1 _ _ hc rfl hx hd;rw [←hf,←hv,←hB] at hC;have HC:=zW hC;have hi:yK (K4 ts (j+1)=K4 ts j+ts[j].1.length):=Q2i ts j hlt;have hE:K4 ts j+ts[j].1.length≤raw.size:=by
    have:=congrArg List.length hd;rw [bM,aA,←aC] at this;omega
   clear hC hf hv hx hd hc ha hg hh hw hL hp hD hB hz hn HB;have ho:((K4 ts j:Nat):Int) < (raw.size:Int):=yY;generalize K4 ts j=pj at hF ho HC hi hE ⊢;generalize ts[j].1.length=ln at HC hi hE ⊢;have hb:((pj:Int)+(ln:Int))=((K4 ts (j+1):Nat):Int):=(by rw [hi.o];omega);have hl:=zW hb;clear hb;go_wp2_with fail
   refine (HC.o).mono ?_;rintro e w1 ⟨rfl,hb1,hw1⟩;have hH:=zW hb1;have hJ:=zW (HL.o.trans hw1);clear hb1 hw1;go_wp2_with fail
   rw [hl.o];go_roundg (ts.length - (j+1))
   case measure=>omega
   case rel=>exact ⟨j+1,rfl,hlt,hH.o,hJ.o,yY⟩
  ·obtain rfl:j=ts.length:=yY;have he:K4 ts ts.length=raw.size:=(by rw [ht.o];exact X8z ts);have hA:(opJ ts ts.length).2=[]:=by
    unfold opJ;rw [aW];exact Y8p _ hr.o
   rw [he];rw [aW,hA] at HB;have hq:∃ A c,wr.cell? ⟨w.heap.size,3,none⟩=some (.slice A 0 c):=by
    obtain ⟨iv,tv,cv,ov,its,tx,h,_⟩:=HB.o.ex;obtain ⟨A,c,rfl⟩:=Q0 h.own;exact ⟨A,c,h.bd.cellR (i:=0) rfl⟩
   obtain ⟨A,c,q3⟩:=hq;obtain ⟨rest,hu⟩:=HB.o.bs;have hI:=zW hu;clear hg hh he hA hu;go_wp2_with fail
   first | go_ret3 | skip
   rw [hs.o];exact ⟨_,_,rfl,hI.o,HL.o⟩
theorem Q1y (raw:fY) (ts:Els) (m:Int) (w:World) (hm:w.cell? ⟨0,0,none⟩=some (.int .i64 m)) (h:Rdb 1 raw ts) (hnum:NumOk (X0 ts) 0 []):
 Calls prog 13 #[.string raw] w (fun e w'=>∃ v,e=.returned (.tuple #[v,.int .i64 0,.int .i64 0])∧OwnT 31 w' w.heap.size v (Q4 (X0 ts))∧Below w.heap.size w w'):=by
 have HR:=zW (X8g raw ts m w hm h hnum);have HL:yK ((X0 ts).length≤500):=h.len;have HU:yK (X3 (X0 ts)≤500):=aP (S8 _ (Q3m 1 ts h.els)) h.len;clear h hnum hm;go_enter func13,ntmps13
 go_wp2_with fail
 refine (HR.o).mono ?_;rintro e w1 ⟨g,rest,rfl,hb,hw⟩;have HI:=zW (Y3m hb (by have:=HL.o;omega) (by have:=HU.o;omega));have HW:=zW hw;clear hb hw HR;go_wp2_with fail
 refine (HI.o).mono ?_;rintro e w2 ⟨v,rfl,ho,hw2⟩;have HO:=zW ho;have ha:=zW (HW.o.trans hw2);obtain ⟨A,c,rfl⟩:=Q0 ho;clear ho hw2;go_wp2_with fail
 go_ret3
 exact ⟨_,rfl,HO.o,ha.o⟩
theorem X8f (raw:fY) (ts:Els) (m:Int) (w:World) (hm:w.cell? ⟨0,0,none⟩=some (.int .i64 m)) (h:Rdb 1 raw ts) (hnum:NumOk (X0 ts) 0 []):
 Calls prog 106 #[.string raw] w (fun e w'=>∃ v,e=.returned (.tuple #[v,.int .i64 0])∧OwnE 3 V7 1 w' w.heap.size v (csE ts++[((Q2 ts).length:Int)])∧Below w.heap.size w w'):=by
 have HR:=zW (X8g raw ts m w hm h hnum);have HL:yK ((csE ts).length≤500):=(by show _≤_;rw [Q5h];exact h.len);have ha:(Q2 ts).length=raw.size:=(by rw [aC,h.eq]);rw [ha];clear h ha hnum hm;go_enter func106,ntmps106
 go_wp2_with fail
 refine (HR.o).mono ?_;rintro e w1 ⟨g,rest,rfl,hb,hw⟩;have HI:=zW (Z1a (raw.size:Int) hb (by have:=HL.o;omega));have HW:=zW hw;clear hb hw HR;go_wp2_with fail
 refine (HI.o).mono ?_;rintro e w2 ⟨v,rfl,ho,hw2⟩;have HO:=zW ho;have hc:=zW (HW.o.trans hw2);obtain ⟨A,c,hv⟩:=Q0 ho;rw [show (csE ts++[(raw.size:Int)]).length=(csE ts).length+1 by simp] at hv;subst hv;clear ho hw2;go_wp2_with fail
 go_ret2
 exact ⟨_,rfl,HO.o,hc.o⟩
theorem Y7s (s:fY) (w:World) (h:U4 s.data.toList=true):Calls prog 40 #[.string s] w fun e w'=>e=.returned (.bool true)∧w=w':=by
 rw [←Y7] at h;unfold U4 wP wH wLi wTd X4y at h;simp only [fL] at h;rcases h with (((h | h) | h) | h) | h
 ·go_enter func40,ntmps40
  go_wp2
  go_ret
  exact ⟨rfl,rfl⟩
 ·have n1:(s.toList==[112])=false:=(by rw [fV h];decide);go_enter func40,ntmps40
  go_wp2
  go_ret
  exact ⟨rfl,rfl⟩
 ·have n1:(s.toList==[112])=false:=(by rw [fV h];decide);have n2:(s.toList==[104])=false:=(by rw [fV h];decide);go_enter func40,ntmps40
  go_wp2
  go_ret
  exact ⟨rfl,rfl⟩
 ·have n1:(s.toList==[112])=false:=(by rw [fV h];decide);have n2:(s.toList==[104])=false:=(by rw [fV h];decide);have n3:(s.toList==[108,105])=false:=(by rw [fV h];decide);go_enter func40,ntmps40
  go_wp2
  go_ret
  exact ⟨rfl,rfl⟩
 ·have n1:(s.toList==[112])=false:=(by rw [fV h];decide);have n2:(s.toList==[104])=false:=(by rw [fV h];decide);have n3:(s.toList==[108,105])=false:=(by rw [fV h];decide);have n4:(s.toList==[116,100])=false:=(by rw [fV h];decide);go_enter func40,ntmps40
  go_wp2
  go_ret
  exact ⟨rfl,rfl⟩
def X6s (n:Nat) (bl:fY) (w:World) (e:Ending) (w':World):Prop:=
 e=.returned (.tuple #[.int .i64 n,.string bl,.bool true])∧Below w.heap.size w w'
theorem at0 (s:fY) (c:UInt8) (r:List UInt8) (h:s.data.toList=c::r) (h0:0 < s.size):s[0]=c:=by
 have:s.data.toList[0]'(by rw [h];simp)=c:=(by simp only [h];rfl);exact this
theorem V4e (s:fY) (c:UInt8) (r:List UInt8) (hs:s.data.toList=c::r) (hc:c≠60) (w:World):
 Calls prog 143 #[.string s] w (X6s 1 ⟨#[]⟩ w):=by
 have hb:0 < s.size:=(by rw [aC,hs];simp);have ha:=at0 s c r hs hb;have n0:((s[0].toNat:Int)==60)=false:=F2 s[0] 60 (by rw [ha];exact hc);have HB:=zW (aB w.heap.size w);clear hs hc ha;go_enter func143,ntmps143
 go_wp2_with fail
 go_ret3
 exact ⟨rfl,HB.o⟩
theorem V4f (s:fY) (r:List UInt8) (m:Int) (w:World) (hm:w.cell? ⟨0,0,none⟩=some (.int .i64 m)) (hs:s.data.toList=Y8m++r) (hsz:s.size≤1000000):
 Calls prog 143 #[.string s] w (X6s 12 ⟨#[]⟩ w):=by
 have hz:12≤s.size:=(by rw [aC,hs,aA];show 12≤12+_;omega);have hc:0 < s.size:=yY;have ha:=at0 s 60 _ (show s.data.toList=60::([33,45,45,32,60,112,62,32,45,45,62]++r) from hs) hc;have n0:((s[0].toNat:Int)==60)=true:=R9 s[0] 60 ha;have CP:=zW (J6 s (⟨#[60,33,45,45]⟩:fY) true (by rw [hs];exact M4 [60,33,45,45] _));have hb:s.extract 4 s.size=ofL ([32,60,112,62,32,45,45,62]++r):=E7 _ _ _ _ (by
  rw [hs,aC,hs,aW];show List.drop 4 (60::33::45::45::([32,60,112,62,32,45,45,62]++r))=(ofL ([32,60,112,62,32,45,45,62]++r)).data.toList;simp [ofL])
 have CI:=zW (Tryz.strings_Index (ofL ([32,60,112,62,32,45,45,62]++r)) (⟨#[45,45,62]⟩:fY) m w (by rw [←hb];simp;omega) hm);rw [show Lib.index (ofL ([32,60,112,62,32,45,45,62]++r)).data.toList (⟨#[45,45,62]⟩:fY).data.toList=5 by
  show Lib.index ([32,60,112,62,32,45,45,62]++r) [45,45,62]=5;simp [Lib.index,List.isPrefixOf]] at CI
 generalize ofL ([32,60,112,62,32,45,45,62]++r)=u at hb CI;have HB:=zW (aB w.heap.size w);have h4:4≤s.size:=yY;clear hs hm ha;go_enter func143,ntmps143
 go_wp2_with (first
  | (go_at_call 130;refine (CP.o _).mono ?_;rintro e w' ⟨rfl,rfl⟩)
  | (go_at_call 144;refine (CI.o).mono ?_;rintro e w' ⟨rfl,rfl⟩))
 go_ret3
 exact ⟨rfl,HB.o⟩
theorem Z5y (s t:fY) (r:List UInt8) (k:Int) (n:Nat) (m:Int) (w:World) (hm:w.cell? ⟨0,0,none⟩=some (.int .i64 m)) (hs:s.data.toList=60::r) (hnt:Lib.hasPrefix s.data.toList [60,33,45,45]=false) (hts:t.size≤1000000) (hn:n≤1000000)
 (CT:Calls prog 121 #[.string s] w (X3g k t n w)) (hb:U4 (Z0 t.data.toList)=false):
 Calls prog 143 #[.string s] w (X6s n ⟨#[]⟩ w):=by
 have hf:0 < s.size:=(by rw [aC,hs];simp);have he:=at0 s 60 _ hs hf;have n0:((s[0].toNat:Int)==60)=true:=R9 s[0] 60 he;have CP:=zW (J6 s (⟨#[60,33,45,45]⟩:fY) false hnt);have CN:=zW (fun w hm=>Q5r t m w hts hm);have CB:=zW (fun w=>Q2v (ofL (Z0 t.data.toList)) w (by simpa [ofL] using hb));have HT:=zW CT;have HM:=zW hm;have HB:=zW (aB w.heap.size w);clear hs hm he hnt hb CT;go_enter func143,ntmps143
 go_wp2_with (first
  | (go_at_call 130;refine (CP.o _).mono ?_;rintro e w' ⟨rfl,rfl⟩)
  | (go_at_call 121;refine (HT.o).mono ?_;rintro e w1 ⟨rfl,ha⟩;have hc:=zW ha;have hd:=zW ha.size;clear ha)
  | (go_at_call 41;refine (CN.o _ (by exact X8 HM.o (by exact hc.o.alloc hd.o _))).mono ?_;rintro e w2 ⟨rfl,n1,rfl⟩)
  | (go_at_call 40;refine (CB.o _).mono ?_;rintro e w' ⟨rfl,rfl⟩))
 go_ret3
 exact ⟨rfl,Q1 (hc.o.alloc hd.o _) _⟩
theorem V8u (s t:fY) (r:List UInt8) (n:Nat) (m:Int) (w:World) (hm:w.cell? ⟨0,0,none⟩=some (.int .i64 m)) (hs:s.data.toList=60::r) (hnt:Lib.hasPrefix s.data.toList [60,33,45,45]=false) (hts:t.size≤1000000) (hn:n≤1000000)
 (CT:Calls prog 121 #[.string s] w (X3g 2 t n w)) (hb:U4 (Z0 t.data.toList)=true):
 Calls prog 143 #[.string s] w (X6s n (ofL (Z0 t.data.toList)) w):=by
 have hf:0 < s.size:=(by rw [aC,hs];simp);have he:=at0 s 60 _ hs hf;have n0:((s[0].toNat:Int)==60)=true:=R9 s[0] 60 he;have CP:=zW (J6 s (⟨#[60,33,45,45]⟩:fY) false hnt);have CN:=zW (fun w hm=>Q5r t m w hts hm);have CB:=zW (fun w=>Y7s (ofL (Z0 t.data.toList)) w (by simpa [ofL] using hb));have HT:=zW CT;have HM:=zW hm;have HB:=zW (aB w.heap.size w);clear hs hm he hnt hb CT;generalize ofL (Z0 t.data.toList)=nm at CN CB ⊢;go_enter func143,ntmps143
 go_wp2_with (first
  | (go_at_call 130;refine (CP.o _).mono ?_;rintro e w' ⟨rfl,rfl⟩)
  | (go_at_call 121;refine (HT.o).mono ?_;rintro e w1 ⟨rfl,hd⟩;have ha:=zW hd;have hc:=zW hd.size;clear hd)
  | (go_at_call 41;refine (CN.o _ (by exact X8 HM.o (by exact ha.o.alloc hc.o _))).mono ?_;rintro e w2 ⟨rfl,n1,rfl⟩)
  | (go_at_call 40;refine (CB.o _).mono ?_;rintro e w' ⟨rfl,rfl⟩))
 go_region_with (go_at_call 41;refine (CN.o _ ?hcell).mono ?_;(case hcell=>(refine X8 HM.o ?_;repeat' (first | exact ha.o.alloc hc.o _ | refine Q1 ?_ _ | refine eC ?_)));rintro e w2 ⟨rfl,n2,rfl⟩)
 all_goals (
  go_wp2_with fail
  go_ret3
  refine ⟨rfl,?_⟩;repeat' (first | exact ha.o.alloc hc.o _ | refine Q1 ?_ _ | refine eC ?_))
def V4d:MK→Nat
 | .byte _=>1
 | .note=>12
 | .tag t=>t.length+2
 | .blk t _ _=>t.length+2
def U1x:MK→fY
 | .blk t _ _=>ofL (Z0 t)
 | _=>⟨#[]⟩
def X7 (ms:List MK):List UInt8:=ms.flatMap Y5
theorem Q7n (a b:List MK):X7 (a++b)=X7 a++X7 b:=by simp [X7]
def Q0b:Nat→List MK→Prop
 | _,[]=>True
 | k,.blk _ key _::ms=>key=Lib.decDigits (k+1)∧k < 99∧Q0b (k+1) ms
 | k,_::ms=>Q0b k ms
def E6:List MK→Nat
 | []=>0
 | .blk _ _ _::ms=>E6 ms+1
 | _::ms=>E6 ms
theorem Q4a:∀ (a b:List MK),E6 (a++b)=E6 a+E6 b
 | [],b=>by simp [E6]
 | x::a,b=>by
   have ih:=Q4a a b;cases x<;>(simp only [aR,E6];omega)
theorem Q0k:∀ (a b:List MK) (k:Nat),Q0b k (a++b)→Q0b (k+E6 a) b
 | [],b,k,h=>h
 | x::a,b,k,h=>by
   cases x with
   | byte c=>exact Q0k a b k h
   | note=>exact Q0k a b k h
   | tag t=>exact Q0k a b k h
   | blk t key ts=>
     have:=Q0k a b (k+1) h.2.2;rw [show k+E6 (.blk t key ts::a)=k+1+E6 a by show k+(E6 a+1)=_;omega];exact this
theorem Q6 (l:List UInt8):(ofL l).size=l.length:=by rw [aC];simp [ofL]
theorem X2v (t:List UInt8):(Z0 t).length≤t.length:=by
 obtain ⟨r,h⟩:=X2u t;have:=congrArg List.length h;rw [aA] at this;omega
theorem X1w (c:UInt8) (r:List UInt8) (h:c≠33):Lib.hasPrefix (60::c::r) [60,33,45,45]=false:=by
 unfold Lib.hasPrefix;rw [List.isPrefixOf,List.isPrefixOf];have:(33==c)=false:=(by simpa using fun e:33=c=>h e.symm);simp [this]
theorem V8t (x:MK) (s:fY) (r:List UInt8) (m:Int) (w:World) (hm:w.cell? ⟨0,0,none⟩=some (.int .i64 m)) (hx:Y0h x) (hs:s.data.toList=Y5 x++r) (hsz:s.size≤1000000):
 Calls prog 143 #[.string s] w (X6s (V4d x) (U1x x) w):=by
 have ha:s.size=(Y5 x).length+r.length:=(by rw [aC,hs,aA]);cases x with
 | byte c=>exact V4e s c r hs hx w
 | note=>exact V4f s r m w hm hs hsz
 | tag t=>
   have hl:t.length+2≤1000000:=by
    have:(Y5 (.tag t)).length=t.length+2:=(by simp [Y5]);omega
   rcases hx with ⟨hc,hb⟩ | ⟨u,rfl,hc,hb⟩
   ·obtain ⟨c,q,hq,hh⟩:=G3 t hc;have h1:s.data.toList=60::(ofL t).data.toList++62::r:=(by rw [hs];simp [Y5,ofL]);have CT:=Y5k s (ofL t) r m w hm h1 hsz (by simpa [ofL] using hc);rw [Q6] at CT;exact Z5y s (ofL t) _ 2 (t.length+2) m w hm h1 (by rw [h1];simp only [ofL,hq];exact X1w c _ (T8 c hh 33 yW)) (by rw [Q6];omega) hl CT (by simpa [ofL] using hb)
   ·obtain ⟨c,q,hq,hh⟩:=G3 u hc;have h1:s.data.toList=60::(ofL u).data.toList++47::62::r:=(by rw [hs];simp [Y5,ofL]);have CT:=Z6y s (ofL u) r m w hm h1 hsz (by simpa [ofL] using hc);rw [Q6] at CT;have hd:(u++[47]).length=u.length+1:=yW;have e:V4d (.tag (u++[47]))=u.length+3:=(by show (u++[47]).length+2=_;omega);rw [e];exact Z5y s (ofL u) _ 4 (u.length+3) m w hm h1 (by rw [h1];simp only [ofL,hq];exact X1w c _ (T8 c hh 33 yW)) (by rw [Q6];omega) yY CT (by simpa [ofL] using hb)
 | blk t key ts=>
   have hl:t.length+2≤1000000:=by
    have:t.length+2≤(Y5 (.blk t key ts)).length:=(by simp [Y5]);omega
   obtain ⟨hc,hb,_⟩:=hx;obtain ⟨c,q,hq,hh⟩:=G3 t hc;have h1:s.data.toList=60::(ofL t).data.toList++62::(Q2 ts++G9 t++r):=(by rw [hs];simp [Y5,ofL]);have CT:=Y5k s (ofL t) _ m w hm h1 hsz (by simpa [ofL] using hc);rw [Q6] at CT;have:=V8u s (ofL t) _ (t.length+2) m w hm h1 (by rw [h1];simp only [ofL,hq];exact X1w c _ (T8 c hh 33 yW)) (by rw [Q6];omega) hl CT (by simpa [ofL] using hb);rw [show (ofL t).data.toList=t by simp [ofL]] at this;exact this
/-! ### Where one stands in the document -/
theorem V2c (a b:List UInt8):(a++b).drop a.length=b:=dR
theorem B7 (data:fY) (a b:List UInt8) (h:data.data.toList=a++b):data.extract a.length data.size=ofL b:=E7 _ _ _ _ (by
 rw [h,aC,h,aW,V2c];simp [ofL])
theorem T0 (data:fY) (a b c:List UInt8) (n:Nat) (h:data.data.toList=a++b++c) (hn:a.length+b.length=n):data.extract a.length n=ofL b:=E7 _ _ _ _ (by
 rw [Q1s h rfl hn];simp [ofL])
theorem X2s (st:List Un×List UInt8) (x:MK) (h:∀ t k ts,x≠.blk t k ts):G1 st x=(st.1,st.2++Y5 x):=by
 cases x with
 | blk t k ts=>exact absurd rfl (h t k ts)
 | byte c=>rfl
 | note=>rfl
 | tag t=>rfl
theorem Q6b (ms:List MK) (x:MK):Y8 (ms++[x])=G1 (Y8 ms) x:=by
 unfold Y8;rw [dY];rfl
theorem R7 (ms:List MK):(Y8 ms).1.length=E6 ms:=by
 suffices h:∀ (ms:List MK) (st:List Un×List UInt8),(ms.foldl G1 st).1.length=st.1.length+E6 ms by
  have:=h ms ([],[]);unfold Y8;simpa using this
 intro ms;induction ms with
 | nil=>intro st;simp [E6]
 | cons x ms ih=>
   intro st;rw [bQ,ih];cases x with
   | byte c=>simp [G1,E6]
   | note=>simp [G1,E6]
   | tag t=>simp [G1,E6]
   | blk t key ts=>simp [G1,E6];omega
theorem Q0o (ms:List MK):X7 ms=Z4 (Y8 ms).1++(Y8 ms).2:=by
 have:=X4v ms ([],[]);rw [show Z4 ([]:List Un)=[] from rfl,bJ,bJ] at this;exact this.symm
def ptC (p:Pt):List Value:=[.bool p.un,.string p.key,.string p.raw]
theorem D3 (p:Pt):(ptC p).length=3:=rfl
theorem X2f (p:Pt):∀ u∈ptC p,u.oneCell'=true:=by
 intro u hu;simp [ptC] at hu;rcases hu with rfl | rfl | rfl<;>rfl
theorem X2g:(prog.info? 52).map (fun i=>(i.zero,i.size,i.bytes))=some (some (.agg #[.bool false,.string ⟨#[]⟩,.string ⟨#[]⟩]),3,40):=by kernel_rfl
theorem X2i {α:Type} (f:α→List Value) (m:Nat) (hm:∀ x,(f x).length=m) (w:World) (g:Nat) (hg:w.heap.size=g) (l:List α) (cs:Array Value) (hcs:cs=(l.flatMap f).toArray) (t:TypeId) (n:Nat) (hn:n=l.length) (h0:0 < n):RdE f m (w.alloc (.cells cs t)) (.slice (some ⟨g,0,none⟩) n n) l:=by
 subst hg hcs hn;refine ⟨some ⟨w.heap.size,0,none⟩,l.length,rfl,by simp,(fun h=>by cases h),fun _=>⟨w.heap.size,0,rfl,by simp,fun i y j u hi hj=>?_⟩⟩;have ha:j < m:=(by rw [←hm y];exact (aM.1 hj).1);have:=N4 w (l.flatMap f) t (i * m+j) u (by rw [Q2t f m hm l i j y hi ha];exact hj);rw [eO] at this;simpa using this
structure PsB (B g:Nat) (data:fY) (fr:Nat) (lv:Value) (ps:List Pt) (w:World):Prop where
 box:w.heap[g]? =some (.cells #[.string data,.int .i64 fr,lv] 245)
 own:OwnE 52 ptC 3 w B lv ps
 lt:B≤g
section
variable {B g:Nat} {data:fY} {fr:Nat} {lv lv':Value} {ps ps':List Pt} {w w':World}
theorem PsB.gsz (h:PsB B g data fr lv ps w):g < w.heap.size:=(aN.1 h.box).1
theorem PsB.nL (h:PsB B g data fr lv ps w):X5a g lv:=Y1 h.own h.box yX
theorem PsB.below (h:PsB B g data fr lv ps w) (hb:Below w.heap.size w w'):PsB B g data fr lv ps w':=
 ⟨(hb.block g h.gsz).trans h.box,Q7 h.own fun k hk=>hb.block k (h.own.lt k hk).2,h.lt⟩
theorem PsB.alloc (h:PsB B g data fr lv ps w) (o:Obj):PsB B g data fr lv ps (w.alloc o):=h.below ((aB _ _).alloc yQ o)
theorem PsB.drew (h:PsB B g data fr lv ps w):PsB B g data fr lv ps w.drew:=⟨h.box,h.own,h.lt⟩
theorem PsB.gr (h:PsB B g data fr lv ps w) (hg:w.grownBy w' lv.ownBlock):w'.heap[g]? =some (.cells #[.string data,.int .i64 fr,lv] 245):=(hg.block g h.gsz (fun e=>h.nL g e.symm rfl)).trans h.box
theorem PsB.put (h:PsB B g data fr lv ps w) (ho:OwnE 52 ptC 3 w' B lv' ps') (hg:w.grownBy w' lv.ownBlock):
 PsB B g data fr lv' ps' (w'.setCell ⟨g,2,none⟩ lv'):=by
 have hs:=Mod.set w' g 2 lv';have ha:=h.gr hg;exact ⟨by rw [D0 ha];rfl,hs.own ho fun k hk e=>Y1 ho ha yX k hk e,h.lt⟩
theorem PsB.to (h:PsB B g data fr lv ps w) (b:Nat):PsB B g data b lv ps (w.setCell ⟨g,1,none⟩ (.int .i64 b)):=by
 have hs:=Mod.set w g 1 (.int .i64 b);exact ⟨by rw [D0 h.box];rfl,hs.own h.own fun k hk e=>h.nL k hk e,h.lt⟩
end
theorem Q5s (data:fY) (w:World):
 Calls prog 142 #[.string data] w (fun e w'=>∃ g,e=.returned (.pointer (some ⟨g,0,none⟩))∧PsB w.heap.size g data 0 (.slice none 0 0) [] w'∧Below w.heap.size w w'):=by
 have HB:=zW (aB w.heap.size w);have H:yK (PsB w.heap.size w.heap.size data 0 (.slice none 0 0) [] (w.alloc (.cells #[.string data,.int .i64 0,.slice none 0 0] 245))):=⟨aY,OwnE.nil,yQ⟩;go_enter func142,ntmps142
 go_wp2_with fail
 go_ret
 exact ⟨_,rfl,H.o,HB.o.alloc yQ _⟩
theorem X4u (a b:Nat) (key:fY) {B g:Nat} {data:fY} {fr:Nat} {lv:Value} {ps:List Pt} {w:World} (h:PsB B g data fr lv ps w)
 (h1:fr≤a) (h2:a≤b) (h3:b≤data.size) (hd:data.size≤100000000) (hl:ps.length≤1000000):
 Calls prog 145 #[.pointer (some ⟨g,0,none⟩),.int .i64 a,.int .i64 b,.string key] w (fun e w'=>(∃ v,e=.returned v)∧∃ lv',PsB B g data b lv' (ps++[⟨false,⟨#[]⟩,data.extract fr a⟩,⟨true,key,data.extract a b⟩]) w'∧Below B w w'∧∀ k,k < w.heap.size→k≠g→lv.ownBlock≠some k→w'.heap[k]? =w.heap[k]?):=by
 have hg:=aP h.lt (cS h.gsz);obtain ⟨q0,q1,q2,_⟩:=bx3 h.box;obtain ⟨A0,c0,rfl⟩:=Q0 h.own;have H:=zW h;have HB:=zW (aB B w);have HA:=zW (h.drew.alloc (.cells (([⟨false,⟨#[]⟩,data.extract fr a⟩,⟨true,key,data.extract a b⟩]:List Pt).flatMap ptC).toArray 52));have hz:B≤w.drew.heap.size:=hg;have h4:a≤data.size:=yY;have p2:(w.alloc (.cells #[.bool false,.string ⟨#[]⟩,.string (data.extract fr a),.bool true,.string key,.string (data.extract a b)] 52)).cell? ⟨g,2,none⟩=some (.slice A0 ps.length c0):=(bx3 HA.o.box).2.2.1;have hf:yK (w.heap.size < (w.drew.alloc (.cells (([⟨false,⟨#[]⟩,data.extract fr a⟩,⟨true,key,data.extract a b⟩]:List Pt).flatMap ptC).toArray 52)).heap.size):=(by show _ < _;simp);clear h;go_enter func145,ntmps145
 go_wp2_with fail
 go_region_law (first
  | (refine H4 rfl (.tmp 12) (.tmp 33) 39 52 rfl underlying39 _ ptC 3 40 X2g rfl yX D3 X2f B (.slice A0 ps.length c0) ps (by simp [Act.eval]) (by exact HA.o.own) (.slice (some ⟨w.drew.heap.size, 0, none⟩) 2 2) [⟨false, ⟨#[]⟩, data.extract fr a⟩, ⟨true, key, data.extract a b⟩] (by simp [Act.eval]) (by exact X2i ptC 3 D3 _ _ rfl _ _ rfl _ _ rfl yX) yV yX yV ?_
     intro v7 w7 hown7 hbel7 hgr7 hat7;obtain ⟨A7,c7,hb⟩:=Q0 hown7;rw [show (ps++[(⟨false,⟨#[]⟩,data.extract fr a⟩:Pt),⟨true,key,data.extract a b⟩]).length=ps.length+2 by simp] at hb;subst hb;have HP:=zW (HA.o.put hown7 hgr7);have hc:=zW (hbel7 B w yQ ((aB B w).drew.alloc hz _));have he:=zW (fun (k:Nat) (hk:k < w.heap.size) (hv:(Value.slice A0 ps.length c0).ownBlock≠some k)=>(hgr7.block k (Nat.lt_trans hk hf.o) (fun e=>hv e.symm)).trans (bE w.drew _ k hk));have z0:=(bx3 (HA.o.gr hgr7)).2.2.1;have y0:=(bx3 (HA.o.gr hgr7)).2.2.2.2.2;clear hown7 hbel7))
 all_goals (
  have hh:=(bx3 HP.o.box).2.1;have hi:=(bx3 HP.o.box).2.2.2.2.1;have HG:=zW H.o.lt;go_wp2_with fail
  refine fS (eU rfl _ _ _) rfl ?_;refine ⟨⟨_,rfl⟩,_,HP.o.to b,(hc.o.setCell (p:=⟨g,2,none⟩) HG.o _).setCell (p:=⟨g,1,none⟩) HG.o _,fun k hk ha hv=>?_⟩;rw [aV _ _ _ _ ha,aV _ _ _ _ ha];exact he.o k hk hv)
theorem V6k (a b:Nat) (key:fY) {B g:Nat} {data:fY} {fr:Nat} {lv:Value} {ps:List Pt} {w:World} (h:PsB B g data fr lv ps w)
 (h1:fr≤a) (h2:a≤b) (h3:b≤data.size) (hd:data.size≤100000000) (hl:ps.length≤1000000):
 Calls prog 145 #[.pointer (some ⟨g,0,none⟩),.int .i64 a,.int .i64 b,.string key] w (fun e w'=>(∃ v,e=.returned v)∧∃ lv',PsB B g data b lv' (ps++[⟨false,⟨#[]⟩,data.extract fr a⟩,⟨true,key,data.extract a b⟩]) w'∧Below B w w'):=
 (X4u a b key h h1 h2 h3 hd hl).mono fun _ _ ⟨h1,lv',h2,h3,_⟩=>⟨h1,lv',h2,h3⟩
theorem X8d {B g:Nat} {data:fY} {fr:Nat} {lv:Value} {ps:List Pt} {w:World} (h:PsB B g data fr lv ps w)
 (h1:fr≤data.size) (hd:data.size≤100000000) (hl:ps.length≤1000000):
 Calls prog 147 #[.pointer (some ⟨g,0,none⟩)] w (fun e w'=>∃ v,e=.returned v∧OwnE 52 ptC 3 w' B v (ps++[⟨false,⟨#[]⟩,data.extract fr data.size⟩])∧Below B w w'):=by
 have he:=aP h.lt (cS h.gsz);obtain ⟨q0,q1,q2,_⟩:=bx3 h.box;obtain ⟨A0,c0,rfl⟩:=Q0 h.own;have HA:=zW (h.drew.alloc (.cells (([⟨false,⟨#[]⟩,data.extract fr data.size⟩]:List Pt).flatMap ptC).toArray 52));have hz:B≤w.drew.heap.size:=he;have p2:(w.alloc (.cells #[.bool false,.string ⟨#[]⟩,.string (data.extract fr data.size)] 52)).cell? ⟨g,2,none⟩=some (.slice A0 ps.length c0):=(bx3 HA.o.box).2.2.1;clear h;go_enter func147,ntmps147
 go_wp2_with fail
 go_region_law (first
  | (refine H4 rfl (.tmp 6) (.tmp 17) 39 52 rfl underlying39 _ ptC 3 40 X2g rfl yX D3 X2f B (.slice A0 ps.length c0) ps (by simp [Act.eval]) (by exact HA.o.own) (.slice (some ⟨w.drew.heap.size, 0, none⟩) 1 1) [⟨false, ⟨#[]⟩, data.extract fr data.size⟩] (by simp [Act.eval]) (by exact X2i ptC 3 D3 _ _ rfl _ _ rfl _ _ rfl yX) yV yX yV ?_
     intro v7 w7 hown7 hbel7 hgr7 hat7;obtain ⟨A7,c7,ha⟩:=Q0 hown7;rw [show (ps++[(⟨false,⟨#[]⟩,data.extract fr data.size⟩:Pt)]).length=ps.length+1 by simp] at ha;subst ha;have hc:=zW hown7;have hb:=zW (hbel7 B w yQ ((aB B w).drew.alloc hz _));clear hown7 hbel7 hgr7 hat7))
 all_goals (
  go_wp2_with fail
  go_ret
  exact ⟨_,rfl,hc.o,hb.o⟩)
end Go.Proofs.YtfkojnofbpdjdaaGreatDoor
