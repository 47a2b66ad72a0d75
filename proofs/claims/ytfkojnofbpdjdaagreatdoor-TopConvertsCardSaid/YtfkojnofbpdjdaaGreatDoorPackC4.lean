/-
  Contracts and plain laws that this claim leans on, part 4.
-/
import Derived.Test.YtfkojnofbpdjdaaGreatDoorPackC3
import Derived.Test.YtfkojnofbpdjdaaGreatDoorPackC1
import Derived.Shelf.Abstract
import Derived.Lib.Bytealg
import Derived.Deep.DeepCutAuto
import Derived.Deep.CutBlock
import Derived.Great.BuildSlice
import Derived.Great.Walk
import Derived.Tactics2
import Derived.Defers
import Derived.Laws.Pointers
import Derived.Laws.LoneSync
import Derived.RegionTactic
import Derived.RegionCalls
set_option linter.unusedVariables false
set_option linter.unusedSimpArgs false
set_option maxHeartbeats 16000000
set_option maxRecDepth 100000
namespace Go.Proofs.YtfkojnofbpdjdaaGreatDoor
set_option maxRecDepth 100000
open Go.RowKit
theorem own_head {α : Type} {e : TypeId} {f : α → List Value} {m : Nat} (hm : ∀ x, (f x).length = m) {w : World} {B : Nat} {A : Option Addr} {n c : Nat} {l : List α} (h : w.ownsRow B e m (.slice A n c) l.length (l.flatMap f)) (k : Nat) (hk : k ≤ l.length) :
 w.ownsRow B e m (.slice A k c) (l.take k).length ((l.take k).flatMap f) := by
 have hlen : (l.take k).length = k := by rw [List.length_take]; omega
 have hfl : ((l.take k).flatMap f).length = k * m := by rw [flat_length f m hm, hlen]
 have hpre : (l.flatMap f).take (k * m) = (l.take k).flatMap f := by
  have e1 : l.flatMap f = (l.take k).flatMap f ++ (l.drop k).flatMap f := by rw [← List.flatMap_append, List.take_append_drop]
  rw [e1, ← hfl, List.take_left]
 rw [hlen]
 refine ⟨hfl, ?_⟩
 rcases h.2 with ⟨hv, h0⟩ | ⟨g, cap, cur, hv, hb, hh, hc, hm', hs, ht⟩
 ·injection hv with e1 e2 e3
  subst e1 e2 e3
  have : k = 0 := by omega
  subst this
  exact .inl ⟨rfl, rfl⟩
 ·injection hv with e1 e2 e3
  subst e1 e2 e3
  refine .inr ⟨g, c, cur, rfl, hb, hh, by omega, hm', hs, ?_⟩
  rw [← hpre, ← ht, List.take_take, Nat.min_eq_left (Nat.mul_le_mul_right _ hk)]
structure Ms (B g : Nat) (iv tv cv ov : Value) (its : List Tk) (tx : ByteArray) (cs : List Int) (ops : List Tk) (cnt : Nat) (w : World) : Prop where
 bd : Bd B g 93 [ov, .int .i64 (cnt : Int)] iv tv cv its tx cs w
 own : OwnT 31 w B ov ops
 ap : Apart ov iv
section
variable {B g : Nat} {iv tv cv ov iv' tv' cv' ov' : Value} {its : List Tk} {tx : ByteArray} {cs : List Int} {ops ops' : List Tk} {cnt : Nat} {w w' : World}
theorem Ms.nO (h : Ms B g iv tv cv ov its tx cs ops cnt w) : NotAt g ov := own_apart h.own h.bd.box h.bd.ty.1
theorem Ms.aOT (h : Ms B g iv tv cv ov its tx cs ops cnt w) : Apart ov tv := own_own h.own h.bd.txt (by decide)
theorem Ms.aOC (h : Ms B g iv tv cv ov its tx cs ops cnt w) : Apart ov cv := own_own h.own h.bd.cuts (by decide)
theorem Ms.below (h : Ms B g iv tv cv ov its tx cs ops cnt w) (hb : Below w.heap.size w w') : Ms B g iv tv cv ov its tx cs ops cnt w' :=
 ⟨h.bd.below hb, (Mod.of_below hb).own h.own fun _ _ hf => hf, h.ap⟩
theorem Ms.alloc (h : Ms B g iv tv cv ov its tx cs ops cnt w) (o : Obj) : Ms B g iv tv cv ov its tx cs ops cnt (w.alloc o) := h.below ((Below.refl _ _).alloc (Nat.le_refl _) o)
theorem Ms.drew (h : Ms B g iv tv cv ov its tx cs ops cnt w) : Ms B g iv tv cv ov its tx cs ops cnt w.drew := ⟨h.bd.drew, h.own, h.ap⟩
theorem Ms.drewN (h : Ms B g iv tv cv ov its tx cs ops cnt w) (n : Nat) : Ms B g iv tv cv ov its tx cs ops cnt (w.drewN n) := ⟨h.bd.drewN n, h.own, h.ap⟩
theorem Ms.other (h : Ms B g iv tv cv ov its tx cs ops cnt w) (p j : Nat) (u : Value) (hg : p ≠ g) (hs : ∀ v ∈ [iv, tv, cv, ov], v.ownBlock ≠ some p) : Ms B g iv tv cv ov its tx cs ops cnt (w.setCell ⟨p, j, none⟩ u) := by
 have hm := Mod.set w p j u
 refine ⟨h.bd.mod hm fun k hk e => ?_, hm.own h.own fun k hk e => ?_, h.ap⟩
 ·subst e
  rcases hk with hk | hk | hk | hk
  ·exact hg hk
  ·exact hs iv (by simp) hk
  ·exact hs tv (by simp) hk
  ·exact hs cv (by simp) hk
 ·subst e
  exact hs ov (by simp) hk
theorem Ms.count (h : Ms B g iv tv cv ov its tx cs ops cnt w) (c : Nat) : Ms B g iv tv cv ov its tx cs ops c (w.setCell ⟨g, 4, none⟩ (.int .i64 (c : Int))) := by
 obtain ⟨h1, h2⟩ := h.bd.putR 1 (.int .i64 (c : Int))
 exact ⟨h1, h2.own h.own fun k hk e => h.nO k hk e, h.ap⟩
theorem Ms.push (h : Ms B g iv tv cv ov its tx cs ops cnt w) (ho : OwnT 31 w' B ov' ops') (hg : w.grownBy w' ov.ownBlock) (ha : ov'.ownBlock = ov.ownBlock ∨ ov'.ownBlock = some w.heap.size) :
 Ms B g iv tv cv ov' its tx cs ops' cnt (w'.setCell ⟨g, 3, none⟩ ov') ∧ Mod (fun k => k = g ∨ ov.ownBlock = some k) w (w'.setCell ⟨g, 3, none⟩ ov') := by
 have hm := Mod.of_grown hg
 have hbd : Bd B g 93 [ov, .int .i64 (cnt : Int)] iv tv cv its tx cs w' := h.bd.mod hm fun k hk e => by
  rcases hk with hk | hk | hk | hk
  ·exact h.nO k e hk
  ·exact h.ap k e hk
  ·exact h.aOT k e hk
  ·exact h.aOC k e hk
 obtain ⟨h1, h2⟩ := hbd.putR 0 ov'
 refine ⟨⟨h1, h2.own ho fun k hk e => own_apart ho hbd.box h.bd.ty.1 k hk e, fun k hk e => ?_⟩, ?_⟩
 ·rcases ha with h3 | h3
  ·rw [h3] at hk; exact h.ap k hk e
  ·rw [h3] at hk
   injection hk with hk
   have := (h.bd.its.lt k e).2
   omega
 ·exact (hm.weak (T := fun k => k = g ∨ ov.ownBlock = some k) fun i hi _ => .inr hi).trans h2 fun i hi _ => .inl hi
theorem Ms.grO (h : Ms B g iv tv cv ov its tx cs ops cnt w) (hg : w.grownBy w' ov.ownBlock) : w'.heap[g]? = some (.cells (iv :: tv :: cv :: [ov, .int .i64 (cnt : Int)]).toArray 93) := (hg.block g h.bd.gsz (fun e => h.nO g e.symm rfl)).trans h.bd.box
theorem Ms.pop {A : Option Addr} {n c : Nat} (h : Ms B g iv tv cv (.slice A n c) its tx cs ops cnt w) (k : Nat) (hk : k ≤ ops.length) :
 Ms B g iv tv cv (.slice A k c) its tx cs (ops.take k) cnt (w.setCell ⟨g, 3, none⟩ (.slice A k c)) := by
 obtain ⟨h1, h2⟩ := h.bd.putR 0 (.slice A k c)
 have hob : (Value.slice A k c).ownBlock = (Value.slice A n c).ownBlock := by cases A <;> rfl
 refine ⟨h1, h2.own (own_head tkC_three h.own k hk) fun i hi e => h.nO i (by rw [← hob]; exact hi) e, fun i hi e => h.ap i (by rw [← hob]; exact hi) e⟩
end
structure MSt (B g : Nat) (u : List Tk) (cs : List Int) (ops : List Tk) (cnt : Nat) (w : World) : Prop where
 ex : ∃ iv tv cv ov its tx, Ms B g iv tv cv ov its tx cs ops cnt w ∧ BSt u its tx
section
variable {B g : Nat} {u : List Tk} {cs : List Int} {ops : List Tk} {cnt : Nat} {w w' : World}
theorem MSt.gsz (h : MSt B g u cs ops cnt w) : g < w.heap.size := by obtain ⟨_, _, _, _, _, _, h, _⟩ := h.ex; exact h.bd.gsz
theorem MSt.bsz (h : MSt B g u cs ops cnt w) : B ≤ w.heap.size := by obtain ⟨_, _, _, _, _, _, h, _⟩ := h.ex; exact Nat.le_trans h.bd.lt (Nat.le_of_lt h.bd.gsz)
theorem MSt.below (h : MSt B g u cs ops cnt w) (hb : Below w.heap.size w w') : MSt B g u cs ops cnt w' := by
 obtain ⟨iv, tv, cv, ov, its, tx, h, hs⟩ := h.ex
 exact ⟨iv, tv, cv, ov, its, tx, h.below hb, hs⟩
theorem MSt.bs (h : MSt B g u cs ops cnt w) : ∃ rest, BS B g 93 rest u cs w := by
 obtain ⟨iv, tv, cv, ov, its, tx, h, hs⟩ := h.ex
 exact ⟨_, ⟨iv, tv, cv, its, tx, h.bd, hs⟩⟩
theorem msByte (c : UInt8) (off : Int) (h : MSt B g u cs ops cnt w) (hl : u.length + 1 ≤ 512) (hlu : lenI u ≤ 1000000) (hc : cs.length + 1 ≤ 1024) :
 Calls Tryz.prog 125 #[.pointer (some ⟨g, 0, none⟩), .int .u8 c.toNat, .int .i64 off] w (fun e w' => e = .returned (.bool true) ∧ MSt B g (u ++ [chI c]) (cs ++ [off]) ops cnt w' ∧ Below B w w') := by
 have hB := h.bsz
 obtain ⟨iv, tv, cv, ov, its, tx, h, hs⟩ := h.ex
 have h1 := hs.len
 have h2 := hs.text
 refine (bbyte_any c off h.bd (by omega) hc (by omega)).mono ?_
 rintro e w' ⟨rfl, tv', cv', h', hm⟩
 refine ⟨rfl, ⟨_, _, _, _, _, _, ⟨h', hm.own h.own fun k hk e => ?_, h.ap⟩, hs.ch c⟩, hm.below (fun i hi => ?_) hB⟩
 ·rcases e with e | e | e
  ·exact h.nO k hk e
  ·exact h.aOT k hk e
  ·exact h.aOC k hk e
 ·rcases hi with rfl | hi | hi
  ·exact h.bd.lt
  ·exact (h.bd.txt.lt i hi).1
  ·exact (h.bd.cuts.lt i hi).1
theorem msItem (x : Tk) (hx : x.k ≠ 1) (off : Int) (h : MSt B g u cs ops cnt w) (hl : u.length + 1 ≤ 512) (hlu : lenI u ≤ 1000000) (hc : cs.length + 1 ≤ 1024) :
 Calls Tryz.prog 127 #[.pointer (some ⟨g, 0, none⟩), .agg #[.int .i64 x.k, .string x.t, .int .i64 x.d], .int .i64 off] w (fun e w' => e = .returned (.bool true) ∧ MSt B g (u ++ [x]) (cs ++ [off]) ops cnt w' ∧ Below B w w') := by
 have hB := h.bsz
 obtain ⟨iv, tv, cv, ov, its, tx, h, hs⟩ := h.ex
 have h1 := hs.len
 have h2 := hs.text
 refine (bitem_any x off h.bd (by omega) hc (by omega)).mono ?_
 rintro e w' ⟨rfl, iv', tv', cv', h', hm, hat⟩
 refine ⟨rfl, ⟨_, _, _, _, _, _, ⟨h', hm.own h.own fun k hk e => ?_, fun k hk e => ?_⟩, hs.item x hx⟩, hm.below (fun i hi => ?_) hB⟩
 ·rcases e with e | e | e
  ·exact h.nO k hk e
  ·exact h.ap k hk e
  ·exact h.aOC k hk e
 ·rcases hat with h3 | h3
  ·rw [h3] at e; exact h.ap k hk e
  ·have h4 := h3 k e
   have h5 := (h.own.lt k hk).2
   omega
 ·rcases hi with rfl | hi | hi
  ·exact h.bd.lt
  ·exact (h.bd.its.lt i hi).1
  ·exact (h.bd.cuts.lt i hi).1
end
def TgRet (B g : Nat) (u : List Tk) (cs : List Int) (ops : List Tk) (cnt : Nat) (w : World) (e : Ending) (w' : World) : Prop :=
 e = .returned (.int .i64 0) ∧ MSt B g u cs ops cnt w' ∧ Below B w w'
theorem tagged_opn (t : ByteArray) (off : Int) {B g : Nat} {u : List Tk} {cs : List Int} {ops : List Tk} {cnt : Nat} {w : World} (h : MSt B g u cs ops cnt w) (hl : u.length + 1 ≤ 512) (hlu : lenI u ≤ 1000000) (hc : cs.length + 1 ≤ 1024) (ho : ops.length ≤ 500) (hn : cnt ≤ 500) :
 Calls Tryz.prog 122 #[.pointer (some ⟨g, 0, none⟩), .agg #[.int .i64 2, .string t, .int .i64 0], .int .i64 off] w (TgRet B g (u ++ [⟨2, t, ((cnt + 1 : Nat) : Int)⟩]) (cs ++ [off]) (ops ++ [⟨2, t, ((cnt + 1 : Nat) : Int)⟩]) (cnt + 1) w) := by
 have hB := h.bsz
 have hg := h.gsz
 obtain ⟨iv, tv, cv, ov, its, tx, hm, hs⟩ := h.ex
 clear h
 obtain ⟨A, c, rfl⟩ := own_shape hm.own
 have hfr : ∀ v ∈ [iv, tv, cv, .slice A ops.length c], v.ownBlock ≠ some w.heap.size := by
  intro v hv e
  simp only [List.mem_cons, List.not_mem_nil, or_false] at hv
  rcases hv with rfl | rfl | rfl | rfl
  ·have := (hm.bd.its.lt _ e).2; omega
  ·have := (hm.bd.txt.lt _ e).2; omega
  ·have := (hm.bd.cuts.lt _ e).2; omega
  ·have := (hm.own.lt _ e).2; omega
 have H0 := Lib.hid (hm.alloc (.cells #[.int .i64 2, .string t, .int .i64 0] 31))
 have HX0 : Hid ((w.alloc (.cells #[.int .i64 2, .string t, .int .i64 0] 31)).heap[w.heap.size]? = some (.cells #[.int .i64 2, .string t, .int .i64 0] 31)) := Array.getElem?_push_size
 have HB0 := Lib.hid ((Below.refl B w).alloc hB (.cells #[.int .i64 2, .string t, .int .i64 0] 31))
 have hz0 : w.heap.size < (w.alloc (.cells #[.int .i64 2, .string t, .int .i64 0] 31)).heap.size := by simp
 have HS := Lib.hid hs
 clear hm hs
 obtain ⟨p, hp⟩ : ∃ p, Hid (p = w.heap.size) := ⟨_, rfl⟩
 go_enter Tryz.func122, Tryz.ntmps122
 go_upto_region 1 with fail
 rw [← hp.out] at HX0 hfr hz0 hg ⊢
 generalize w.alloc (.cells #[.int .i64 2, .string t, .int .i64 0] 31) = w0 at H0 HX0 HB0 hz0 ⊢
 obtain ⟨x0, x1, x2, x3⟩ := bx3 HX0.out
 have q4 : w0.cell? ⟨g, 4, none⟩ = some (.int .i64 (cnt : Int)) := H0.out.bd.cellR (i := 1) rfl
 have f4 := H0.out.bd.frozen 4
 go_upto_region 8 with fail
 rw [show (cnt : Int) + 1 = ((cnt + 1 : Nat) : Int) by omega]
 obtain ⟨c1, HC1⟩ : ∃ c1, Hid (c1 = cnt + 1) := ⟨_, rfl⟩
 rw [← HC1.out]
 have H1 := Lib.hid (H0.out.count c1)
 have HX1 : Hid ((w0.setCell ⟨g, 4, none⟩ (.int .i64 (c1 : Int))).heap[p]? = some (.cells #[.int .i64 2, .string t, .int .i64 0] 31)) := by
  show _ = _
  rw [Below.heap_setCell _ _ _ _ (by show p ≠ g; omega)]
  exact HX0.out
 have HB1 := Lib.hid (HB0.out.setCell (p := ⟨g, 4, none⟩) H0.out.bd.lt (.int .i64 (c1 : Int)))
 have hz1 : p < (w0.setCell ⟨g, 4, none⟩ (.int .i64 (c1 : Int))).heap.size := by simpa [World.setCell] using hz0
 clear q4 f4 x0 x1 x2 x3 H0 HX0 HB0 hz0
 generalize w0.setCell ⟨g, 4, none⟩ (.int .i64 (c1 : Int)) = w1 at H1 HX1 HB1 hz1 ⊢
 obtain ⟨x0, x1, x2, x3, x4, x5⟩ := bx3 HX1.out
 have q4 : w1.cell? ⟨g, 4, none⟩ = some (.int .i64 (c1 : Int)) := H1.out.bd.cellR (i := 1) rfl
 go_upto_region 9 with fail
 have H2 := Lib.hid (H1.out.other p 2 (.int .i64 (c1 : Int)) (by omega) hfr)
 have HX2 : Hid ((w1.setCell ⟨p, 2, none⟩ (.int .i64 (c1 : Int))).heap[p]? = some (.cells #[.int .i64 2, .string t, .int .i64 (c1 : Int)] 31)) := by
  show _ = _
  rw [set_rw1 HX1.out]
  rfl
 have HB2 := Lib.hid (HB1.out.setCell (p := ⟨p, 2, none⟩) (by show B ≤ p; have := hp.out; omega) (.int .i64 (c1 : Int)))
 have hz2 : p < (w1.setCell ⟨p, 2, none⟩ (.int .i64 (c1 : Int))).heap.size := by simpa [World.setCell] using hz1
 clear q4 x0 x1 x2 x3 x4 x5 H1 HX1 HB1 hz1
 generalize w1.setCell ⟨p, 2, none⟩ (.int .i64 (c1 : Int)) = w2 at H2 HX2 HB2 hz2 ⊢
 obtain ⟨x0, x1, x2, _⟩ := bx3 HX2.out
 go_upto_region 10 with fail
 have q3 : w2.cell? ⟨g, 3, none⟩ = some (.slice A ops.length c) := H2.out.bd.cellR (i := 0) rfl
 have HA1 := Lib.hid (H2.out.drew.alloc (.cells (tkC ⟨2, t, (c1 : Int)⟩).toArray 31))
 have hzB : B ≤ w2.heap.size := by have := hp.out; omega
 have p0 : (w2.alloc (.cells #[.int .i64 2, .string t, .int .i64 (c1 : Int)] 31)).cell? ⟨g, 3, none⟩ = some (.slice A ops.length c) := HA1.out.bd.cellR (i := 0) rfl
 go_region_law (first
  | (refine step_appE rfl (.tmp 72) (.tmp 74) 24 31 rfl Tryz.underlying24 _ tkC 3 32 item_info rfl (by decide) tkC_three tkC_one B (.slice A ops.length c) ops (by simp [Act.eval]) (by exact HA1.out.own) (.slice (some ⟨w2.drew.heap.size, 0, none⟩) 1 1) [⟨2, t, (c1 : Int)⟩] (by simp [Act.eval]) (by exact rdE_oneR tkC 3 tkC_three _ _ rfl ⟨2, t, (c1 : Int)⟩ _) (by simp; omega) (by decide) (by simp; omega) ?_
     intro v7 w7 hown7 hbel7 hgr7 hat7
     obtain ⟨A7, c7, hv7⟩ := own_shape hown7
     rw [show (ops ++ [(⟨2, t, (c1 : Int)⟩ : Tk)]).length = ops.length + 1 by simp] at hv7
     subst hv7
     have HP := Lib.hid (HA1.out.push hown7 hgr7 hat7)
     have z0 := box_cell (HA1.out.grO hgr7) 3 rfl
     have y0 := frozen_rowM (HA1.out.grO hgr7) 3
     have hz7 := hgr7.size
     have HX7 : Hid (w7.heap[p]? = some (.cells #[.int .i64 2, .string t, .int .i64 (c1 : Int)] 31)) := by
      exact (hgr7.block p (by simp; omega) (fun e => by have := (HA1.out.own.lt p e.symm).1; exact hfr (.slice A ops.length c) (by simp) e.symm)).trans ((Below.heap_alloc w2 _ p hz2).trans HX2.out)
     clear hown7 hbel7))
 all_goals (
  have HB8 := Lib.hid ((HB2.out.drew.alloc hzB (.cells (tkC ⟨2, t, (c1 : Int)⟩).toArray 31)).trans (HP.out.2.below (fun k hk => by
   rcases hk with rfl | hk
   ·exact H2.out.bd.lt
   ·exact (H2.out.own.lt k hk).1) (by simp; omega)))
  have HX8 : Hid ((w7.setCell ⟨g, 3, none⟩ (.slice A7 (ops.length + 1) c7)).heap[p]? = some (.cells #[.int .i64 2, .string t, .int .i64 (c1 : Int)] 31)) := by
   show _ = _
   rw [Below.heap_setCell _ _ _ _ (by show p ≠ g; omega)]
   exact HX7.out
  have H8 : Hid (MSt B g u cs (ops ++ [⟨2, t, (c1 : Int)⟩]) c1 (w7.setCell ⟨g, 3, none⟩ (.slice A7 (ops.length + 1) c7))) := ⟨⟨_, _, _, _, _, _, HP.out.1, HS.out⟩⟩
  clear z0 y0 hz7 HX7 HP hgr7 hat7 HA1 p0
  generalize w7.setCell ⟨g, 3, none⟩ (.slice A7 (ops.length + 1) c7) = w8 at HB8 HX8 H8 ⊢
  have CB := Lib.hid (fun w (h : MSt B g u cs (ops ++ [⟨2, t, (c1 : Int)⟩]) c1 w) => msItem ⟨2, t, (c1 : Int)⟩ (by show (2 : Int) ≠ 1; decide) off h hl hlu hc)
  obtain ⟨x0, x1, x2, _⟩ := bx3 HX8.out
  go_wp2_with fail
  go_region_with (first
   | (go_at_call 127; refine (CB.out _ (by exact H8.out.below (below_drewN (Below.refl _ _) 1))).mono ?_; rintro e w9 ⟨rfl, hb9, hw9⟩; have HB9 := Lib.hid hb9; have HW9 := Lib.hid ((below_drewN HB8.out 1).trans hw9); clear hb9 hw9)
   | (go_at_call 124; refine (limit_ok _).mono ?_; rintro e w' ⟨rfl, rfl⟩)))
 all_goals (
  go_wp2_with fail
  go_ret
  rw [← HC1.out]
  exact ⟨rfl, HB9.out, HW9.out⟩)
end Go.Proofs.YtfkojnofbpdjdaaGreatDoor

namespace Go.Proofs.YtfkojnofbpdjdaaGreatDoor
set_option maxRecDepth 100000
open Go.RowKit
theorem tagged_emp (t : ByteArray) (off : Int) {B g : Nat} {u : List Tk} {cs : List Int} {ops : List Tk} {cnt : Nat} {w : World} (h : MSt B g u cs ops cnt w) (hl : u.length + 1 ≤ 512) (hlu : lenI u ≤ 1000000) (hc : cs.length + 1 ≤ 1024) (hn : cnt ≤ 500) :
 Calls Tryz.prog 122 #[.pointer (some ⟨g, 0, none⟩), .agg #[.int .i64 4, .string t, .int .i64 0], .int .i64 off] w (TgRet B g (u ++ [⟨4, t, ((cnt + 1 : Nat) : Int)⟩]) (cs ++ [off]) ops (cnt + 1) w) := by
 have hB := h.bsz
 have hg := h.gsz
 obtain ⟨iv, tv, cv, ov, its, tx, hm, hs⟩ := h.ex
 clear h
 obtain ⟨A, c, rfl⟩ := own_shape hm.own
 have hfr : ∀ v ∈ [iv, tv, cv, .slice A ops.length c], v.ownBlock ≠ some w.heap.size := by
  intro v hv e
  simp only [List.mem_cons, List.not_mem_nil, or_false] at hv
  rcases hv with rfl | rfl | rfl | rfl
  ·have := (hm.bd.its.lt _ e).2; omega
  ·have := (hm.bd.txt.lt _ e).2; omega
  ·have := (hm.bd.cuts.lt _ e).2; omega
  ·have := (hm.own.lt _ e).2; omega
 have H0 := Lib.hid (hm.alloc (.cells #[.int .i64 4, .string t, .int .i64 0] 31))
 have HX0 : Hid ((w.alloc (.cells #[.int .i64 4, .string t, .int .i64 0] 31)).heap[w.heap.size]? = some (.cells #[.int .i64 4, .string t, .int .i64 0] 31)) := Array.getElem?_push_size
 have HB0 := Lib.hid ((Below.refl B w).alloc hB (.cells #[.int .i64 4, .string t, .int .i64 0] 31))
 have HS := Lib.hid hs
 clear hm hs
 obtain ⟨p, hp⟩ : ∃ p, Hid (p = w.heap.size) := ⟨_, rfl⟩
 go_enter Tryz.func122, Tryz.ntmps122
 go_upto_region 1 with fail
 rw [← hp.out] at HX0 hfr hg ⊢
 generalize w.alloc (.cells #[.int .i64 4, .string t, .int .i64 0] 31) = w0 at H0 HX0 HB0 ⊢
 obtain ⟨x0, x1, x2, x3⟩ := bx3 HX0.out
 have q4 : w0.cell? ⟨g, 4, none⟩ = some (.int .i64 (cnt : Int)) := H0.out.bd.cellR (i := 1) rfl
 have f4 := H0.out.bd.frozen 4
 go_upto_region 8 with fail
 rw [show (cnt : Int) + 1 = ((cnt + 1 : Nat) : Int) by omega]
 obtain ⟨c1, HC1⟩ : ∃ c1, Hid (c1 = cnt + 1) := ⟨_, rfl⟩
 rw [← HC1.out]
 have H1 := Lib.hid (H0.out.count c1)
 have HX1 : Hid ((w0.setCell ⟨g, 4, none⟩ (.int .i64 (c1 : Int))).heap[p]? = some (.cells #[.int .i64 4, .string t, .int .i64 0] 31)) := by
  show _ = _
  rw [Below.heap_setCell _ _ _ _ (by show p ≠ g; omega)]
  exact HX0.out
 have HB1 := Lib.hid (HB0.out.setCell (p := ⟨g, 4, none⟩) H0.out.bd.lt (.int .i64 (c1 : Int)))
 clear q4 f4 x0 x1 x2 x3 H0 HX0 HB0
 generalize w0.setCell ⟨g, 4, none⟩ (.int .i64 (c1 : Int)) = w1 at H1 HX1 HB1 ⊢
 obtain ⟨x0, x1, x2, x3, x4, x5⟩ := bx3 HX1.out
 have q4 : w1.cell? ⟨g, 4, none⟩ = some (.int .i64 (c1 : Int)) := H1.out.bd.cellR (i := 1) rfl
 go_upto_region 9 with fail
 have H2 := Lib.hid (H1.out.other p 2 (.int .i64 (c1 : Int)) (by omega) hfr)
 have HX2 : Hid ((w1.setCell ⟨p, 2, none⟩ (.int .i64 (c1 : Int))).heap[p]? = some (.cells #[.int .i64 4, .string t, .int .i64 (c1 : Int)] 31)) := by
  show _ = _
  rw [set_rw1 HX1.out]
  rfl
 have HB2 := Lib.hid (HB1.out.setCell (p := ⟨p, 2, none⟩) (by show B ≤ p; have := hp.out; omega) (.int .i64 (c1 : Int)))
 clear q4 x0 x1 x2 x3 x4 x5 H1 HX1 HB1
 generalize w1.setCell ⟨p, 2, none⟩ (.int .i64 (c1 : Int)) = w8 at H2 HX2 HB2 ⊢
 obtain ⟨x0, x1, x2, _⟩ := bx3 HX2.out
 have H8 : Hid (MSt B g u cs ops c1 w8) := ⟨⟨_, _, _, _, _, _, H2.out, HS.out⟩⟩
 have CB := Lib.hid (fun w (h : MSt B g u cs ops c1 w) => msItem ⟨4, t, (c1 : Int)⟩ (by show (4 : Int) ≠ 1; decide) off h hl hlu hc)
 go_wp2_with fail
 go_region_with (first
  | (go_at_call 127; refine (CB.out _ (by exact H8.out.below (below_drewN (Below.refl _ _) 1))).mono ?_; rintro e w9 ⟨rfl, hb9, hw9⟩; have HB9 := Lib.hid hb9; have HW9 := Lib.hid ((below_drewN HB2.out 1).trans hw9); clear hb9 hw9)
  | (go_at_call 124; refine (limit_ok _).mono ?_; rintro e w' ⟨rfl, rfl⟩))
 all_goals (
  go_wp2_with fail
  go_ret
  rw [← HC1.out]
  exact ⟨rfl, HB9.out, HW9.out⟩)
theorem tagged_cls (t : ByteArray) (y : Tk) (off m : Int) {B g : Nat} {u : List Tk} {cs : List Int} {ops : List Tk} {cnt : Nat} {w : World} (h : MSt B g u cs (ops ++ [y]) cnt w) (hl : u.length + 1 ≤ 512) (hlu : lenI u ≤ 1000000) (hc : cs.length + 1 ≤ 1024) (ho : ops.length ≤ 500) (hy : nameB y.t = t) (hys : y.t.size ≤ 1000000) (hm0 : w.cell? ⟨0, 0, none⟩ = some (.int .i64 m)) :
 Calls Tryz.prog 122 #[.pointer (some ⟨g, 0, none⟩), .agg #[.int .i64 3, .string t, .int .i64 0], .int .i64 off] w (TgRet B g (u ++ [⟨3, t, y.d⟩]) (cs ++ [off]) ops cnt w) := by
 have hB := h.bsz
 have hg := h.gsz
 have hsp := size_pos hm0
 obtain ⟨iv, tv, cv, ov, its, tx, hm, hs⟩ := h.ex
 clear h
 obtain ⟨A, c, hv⟩ := own_shape hm.own
 rw [show (ops ++ [y]).length = ops.length + 1 by simp] at hv
 subst hv
 have hfr : ∀ v ∈ [iv, tv, cv, .slice A (ops.length + 1) c], v.ownBlock ≠ some w.heap.size := by
  intro v hv e
  simp only [List.mem_cons, List.not_mem_nil, or_false] at hv
  rcases hv with rfl | rfl | rfl | rfl
  ·have := (hm.bd.its.lt _ e).2; omega
  ·have := (hm.bd.txt.lt _ e).2; omega
  ·have := (hm.bd.cuts.lt _ e).2; omega
  ·have := (hm.own.lt _ e).2; omega
 obtain ⟨b, o, hA, hbl, _, p1, p2⟩ := RdT.at_ (OwnE.rd tkC_three hm.own) ops.length (by simp)
 subst hA
 rw [show (ops ++ [y])[ops.length]'(by simp) = y by simp] at p1 p2
 have HN : Hid (∀ w, w.cell? ⟨0, 0, none⟩ = some (.int .i64 m) → Calls Tryz.prog 41 #[.string y.t] w fun e w' => e = .returned (.string t) ∧ ∃ n, w' = w.drewN n) := fun w hm => by
  have h := name_mk y.t m w hys hm
  have e : ofL (tagN y.t.data.toList) = t := by
   rw [← hy, ← nameB_list]
   exact ofL_of _
  rw [e] at h
  exact h
 have hcap : ops.length ≤ c := by
  obtain ⟨A', c', hv', hlc, _⟩ := (OwnE.rd tkC_three hm.own).shape
  injection hv' with e1 e2 e3
  rw [List.length_append, List.length_singleton] at hlc
  omega
 obtain ⟨yk, yt, yd⟩ := y
 simp only at p1 p2 HN hys
 have hpb : w.heap.size ≠ b := by omega
 have a1 : (w.alloc (.cells #[.int .i64 3, .string t, .int .i64 0] 31)).cell? ⟨b, o + ops.length * 3 + 1, none⟩ = some (.string yt) := by rw [World.cell?_alloc_past _ _ _ hbl]; exact p1
 have a2 : (w.alloc (.cells #[.int .i64 3, .string t, .int .i64 0] 31)).cell? ⟨b, o + ops.length * 3 + 2, none⟩ = some (.int .i64 yd) := by rw [World.cell?_alloc_past _ _ _ hbl]; exact p2
 have HM : Hid ((w.alloc (.cells #[.int .i64 3, .string t, .int .i64 0] 31)).cell? ⟨0, 0, none⟩ = some (.int .i64 m)) := by show _ = _; rw [World.cell?_alloc_past _ _ _ hsp]; exact hm0
 have H0 := Lib.hid (hm.alloc (.cells #[.int .i64 3, .string t, .int .i64 0] 31))
 have HX0 : Hid ((w.alloc (.cells #[.int .i64 3, .string t, .int .i64 0] 31)).heap[w.heap.size]? = some (.cells #[.int .i64 3, .string t, .int .i64 0] 31)) := Array.getElem?_push_size
 have HB0 := Lib.hid ((Below.refl B w).alloc hB (.cells #[.int .i64 3, .string t, .int .i64 0] 31))
 have HS := Lib.hid hs
 clear hm hs p1 p2 hm0
 obtain ⟨p, hp⟩ : ∃ p, Hid (p = w.heap.size) := ⟨_, rfl⟩
 go_enter Tryz.func122, Tryz.ntmps122
 go_upto_region 1 with fail
 rw [← hp.out] at HX0 hfr hg hpb ⊢
 generalize w.alloc (.cells #[.int .i64 3, .string t, .int .i64 0] 31) = w0 at H0 HX0 HB0 HM a1 a2 ⊢
 obtain ⟨x0, x1, x2, x3⟩ := bx3 HX0.out
 have q3 : w0.cell? ⟨g, 3, none⟩ = some (.slice (some ⟨b, o, none⟩) (ops.length + 1) c) := H0.out.bd.cellR (i := 0) rfl
 go_upto_region 3 with fail
 have t1 : (((ops.length : Int) + 1) == 0) = false := by rw [beq_eq_false_iff_ne]; omega
 have t2 : (ops.length : Int) < (ops.length : Int) + 1 := by omega
 have t3 : (0 : Int) ≤ (ops.length : Int) := by omega
 have hwl : IntKind.i64.wrap (ops.length : Int) = (ops.length : Int) := by rw [IntKind.wrap_i64]; omega
 refine wp_region_at 17 #[false, false, false, false, false, false, false, false, false, false, false, false, false, false, false, false, false] rfl rfl (by kernel_rfl) ?_
 refine zzM 0 (.int .i64 ((ops.length : Int) + 1)) (some 16) rfl ?_
 refine zzA 1 (.bool false) (some 17) rfl (fun _ => ex_binOp .eql 3 3 _ _ (.int .i64 ((ops.length : Int) + 1)) (.int .i64 0) _ rfl (by kernel_rfl) (by kernel_rfl) (by go_simp)) ?_
 refine zzM 2 (.bool false) (some 18) rfl ?_
 refine zzM 3 (.pointer (some ⟨g, 0, none⟩)) (some 19) rfl ?_
 refine zzA 4 (.pointer (some ⟨g, 0, none⟩)) (some 20) rfl (fun _ => ex_nilCheck _ _ rfl (by kernel_rfl)) ?_
 refine zzA 5 (.pointer (some ⟨g, 3, none⟩)) (some 21) rfl (fun _ => ex_fieldAddr 93 _ 1 (.pointer (some ⟨g, 0, none⟩)) _ rfl (by kernel_rfl) (by go_simp)) ?_
 refine zzM 7 (.int .i64 ((ops.length : Int) + 1)) (some 23) rfl ?_
 refine zzA 8 (.int .i64 (ops.length : Int)) (some 24) rfl (fun _ => ex_binOp .sub 3 3 _ _ (.int .i64 ((ops.length : Int) + 1)) (.int .i64 1) _ rfl (by kernel_rfl) (by kernel_rfl) (by go_simp)) ?_
 refine zzA 13 (.pointer (some ⟨p, 1, none⟩)) (some 29) rfl (fun _ => ex_fieldAddr 31 _ 1 (.pointer (some ⟨p, 0, none⟩)) _ rfl (by kernel_rfl) (by go_simp)) ?_
 simp only [Act.put, List.setIfInBounds_toArray, List.set_cons_zero, List.set_cons_succ]
 refine wpAny_two 6 14 (by kernel_rfl) rfl rfl (by kernel_rfl) (by kernel_rfl) ?_ ?_
 refine wp_of_val (v := .slice (some ⟨b, o, none⟩) (ops.length + 1) c) (ex_load 24 _ (.pointer (some ⟨g, 3, none⟩)) _ rfl (by kernel_rfl) (ldT_items (w := w0.drew) q3)) ?_
 simp only [Act.put, List.setIfInBounds_toArray, List.set_cons_zero, List.set_cons_succ]
 refine zzA 9 (.pointer (some ⟨b, o + ops.length * 3, none⟩)) (some 25) rfl (fun _ => ex_indexAddr 24 _ _ (.slice (some ⟨b, o, none⟩) (ops.length + 1) c) (.int .i64 (ops.length : Int)) _ rfl (by kernel_rfl) (by kernel_rfl) (by go_simp)) ?_
 refine zzA 10 (.pointer (some ⟨b, o + ops.length * 3 + 1, none⟩)) (some 26) rfl (fun _ => ex_fieldAddr 31 _ 1 (.pointer (some ⟨b, o + ops.length * 3, none⟩)) _ rfl (by kernel_rfl) (by go_simp)) ?_
 simp only [Act.put, List.setIfInBounds_toArray, List.set_cons_zero, List.set_cons_succ]
 refine wpAny_two 11 14 (by kernel_rfl) rfl rfl (by kernel_rfl) (by kernel_rfl) ?_ ?_
 refine wp_of_val (v := .string yt) (ex_load 9 _ (.pointer (some ⟨b, o + ops.length * 3 + 1, none⟩)) _ rfl (by kernel_rfl) (ldT_str (w := w0.drew) a1)) ?_
 simp only [Act.put, List.setIfInBounds_toArray, List.set_cons_zero, List.set_cons_succ]
 refine wpAny_two 12 14 (by kernel_rfl) rfl rfl (by kernel_rfl) (by kernel_rfl) ?_ ?_
 refine wp_of_call (ex_call1 (.tmp 27) _ (.string yt) rfl (by kernel_rfl) (enters_of Tryz.func41 (by kernel_rfl) rfl _ _)) (HN.out _ (by exact HM.out)) ?_
 rintro e w1 ⟨rfl, n1, rfl⟩
 refine ⟨.string t, rfl, ?_⟩
 simp only [Act.put, List.setIfInBounds_toArray, List.set_cons_zero, List.set_cons_succ]
 refine wpAny_only 14 (by kernel_rfl) rfl (by kernel_rfl) ?_
 refine wp_of_val (v := .string t) (ex_load 9 _ (.pointer (some ⟨p, 1, none⟩)) _ rfl (by kernel_rfl) (ldT_str (w := w0.drew.drewN n1) x1)) ?_
 simp only [Act.put, List.setIfInBounds_toArray, List.set_cons_zero, List.set_cons_succ]
 refine zzA 15 (.bool false) (some 31) rfl (fun _ => ex_binOp .neq 9 9 _ _ (.string t) (.string t) _ rfl (by kernel_rfl) (by kernel_rfl) (by go_simp)) ?_
 refine zzA 16 (.bool false) (some 32) rfl (fun _ => ex_pick _ _ _ false (.bool true) (.bool false) rfl (by kernel_rfl) (by kernel_rfl) (by kernel_rfl)) ?_
 refine wpAny_done (by kernel_rfl) ?_ _
 simp only [Act.put, List.setIfInBounds_toArray, List.set_cons_zero, List.set_cons_succ]
 have HN1 : Hid (∃ n, w0.drew.drewN n1 = w0.drewN n) := ⟨1 + n1, by simp⟩
 obtain ⟨n2, hn2⟩ := HN1.out
 rw [hn2]
 clear hn2 HN1
 rotate_left 1
 refine wp_of_val (v := .string t) (ex_load 9 _ (.pointer (some ⟨p, 1, none⟩)) _ rfl (by kernel_rfl) (ldT_str (w := w0.drew) x1)) ?_
 simp only [Act.put, List.setIfInBounds_toArray, List.set_cons_zero, List.set_cons_succ]
 refine wpAny_only 12 (by kernel_rfl) rfl (by kernel_rfl) ?_
 refine wp_of_call (ex_call1 (.tmp 27) _ (.string yt) rfl (by kernel_rfl) (enters_of Tryz.func41 (by kernel_rfl) rfl _ _)) (HN.out _ (by exact HM.out)) ?_
 rintro e w1 ⟨rfl, n1, rfl⟩
 refine ⟨.string t, rfl, ?_⟩
 simp only [Act.put, List.setIfInBounds_toArray, List.set_cons_zero, List.set_cons_succ]
 refine zzA 15 (.bool false) (some 31) rfl (fun _ => ex_binOp .neq 9 9 _ _ (.string t) (.string t) _ rfl (by kernel_rfl) (by kernel_rfl) (by go_simp)) ?_
 refine zzA 16 (.bool false) (some 32) rfl (fun _ => ex_pick _ _ _ false (.bool true) (.bool false) rfl (by kernel_rfl) (by kernel_rfl) (by kernel_rfl)) ?_
 refine wpAny_done (by kernel_rfl) ?_ _
 simp only [Act.put, List.setIfInBounds_toArray, List.set_cons_zero, List.set_cons_succ]
 have HN1 : Hid (∃ n, w0.drew.drewN n1 = w0.drewN n) := ⟨1 + n1, by simp⟩
 obtain ⟨n2, hn2⟩ := HN1.out
 rw [hn2]
 clear hn2 HN1
 rotate_left 1
 refine wp_of_val (v := .string t) (ex_load 9 _ (.pointer (some ⟨p, 1, none⟩)) _ rfl (by kernel_rfl) (ldT_str (w := w0.drew) x1)) ?_
 simp only [Act.put, List.setIfInBounds_toArray, List.set_cons_zero, List.set_cons_succ]
 refine wpAny_only 11 (by kernel_rfl) rfl (by kernel_rfl) ?_
 refine wp_of_val (v := .string yt) (ex_load 9 _ (.pointer (some ⟨b, o + ops.length * 3 + 1, none⟩)) _ rfl (by kernel_rfl) (ldT_str (w := w0.drew) a1)) ?_
 simp only [Act.put, List.setIfInBounds_toArray, List.set_cons_zero, List.set_cons_succ]
 refine wpAny_only 12 (by kernel_rfl) rfl (by kernel_rfl) ?_
 refine wp_of_call (ex_call1 (.tmp 27) _ (.string yt) rfl (by kernel_rfl) (enters_of Tryz.func41 (by kernel_rfl) rfl _ _)) (HN.out _ (by exact HM.out)) ?_
 rintro e w1 ⟨rfl, n1, rfl⟩
 refine ⟨.string t, rfl, ?_⟩
 simp only [Act.put, List.setIfInBounds_toArray, List.set_cons_zero, List.set_cons_succ]
 refine zzA 15 (.bool false) (some 31) rfl (fun _ => ex_binOp .neq 9 9 _ _ (.string t) (.string t) _ rfl (by kernel_rfl) (by kernel_rfl) (by go_simp)) ?_
 refine zzA 16 (.bool false) (some 32) rfl (fun _ => ex_pick _ _ _ false (.bool true) (.bool false) rfl (by kernel_rfl) (by kernel_rfl) (by kernel_rfl)) ?_
 refine wpAny_done (by kernel_rfl) ?_ _
 simp only [Act.put, List.setIfInBounds_toArray, List.set_cons_zero, List.set_cons_succ]
 have HN1 : Hid (∃ n, w0.drew.drewN n1 = w0.drewN n) := ⟨1 + n1, by simp⟩
 obtain ⟨n2, hn2⟩ := HN1.out
 rw [hn2]
 clear hn2 HN1
 rotate_left 1
 refine wp_of_val (v := .string t) (ex_load 9 _ (.pointer (some ⟨p, 1, none⟩)) _ rfl (by kernel_rfl) (ldT_str (w := w0.drew) x1)) ?_
 simp only [Act.put, List.setIfInBounds_toArray, List.set_cons_zero, List.set_cons_succ]
 refine wpAny_only 6 (by kernel_rfl) rfl (by kernel_rfl) ?_
 refine wp_of_val (v := .slice (some ⟨b, o, none⟩) (ops.length + 1) c) (ex_load 24 _ (.pointer (some ⟨g, 3, none⟩)) _ rfl (by kernel_rfl) (ldT_items (w := w0.drew) q3)) ?_
 simp only [Act.put, List.setIfInBounds_toArray, List.set_cons_zero, List.set_cons_succ]
 refine zzA 9 (.pointer (some ⟨b, o + ops.length * 3, none⟩)) (some 25) rfl (fun _ => ex_indexAddr 24 _ _ (.slice (some ⟨b, o, none⟩) (ops.length + 1) c) (.int .i64 (ops.length : Int)) _ rfl (by kernel_rfl) (by kernel_rfl) (by go_simp)) ?_
 refine zzA 10 (.pointer (some ⟨b, o + ops.length * 3 + 1, none⟩)) (some 26) rfl (fun _ => ex_fieldAddr 31 _ 1 (.pointer (some ⟨b, o + ops.length * 3, none⟩)) _ rfl (by kernel_rfl) (by go_simp)) ?_
 simp only [Act.put, List.setIfInBounds_toArray, List.set_cons_zero, List.set_cons_succ]
 refine wpAny_only 11 (by kernel_rfl) rfl (by kernel_rfl) ?_
 refine wp_of_val (v := .string yt) (ex_load 9 _ (.pointer (some ⟨b, o + ops.length * 3 + 1, none⟩)) _ rfl (by kernel_rfl) (ldT_str (w := w0.drew) a1)) ?_
 simp only [Act.put, List.setIfInBounds_toArray, List.set_cons_zero, List.set_cons_succ]
 refine wpAny_only 12 (by kernel_rfl) rfl (by kernel_rfl) ?_
 refine wp_of_call (ex_call1 (.tmp 27) _ (.string yt) rfl (by kernel_rfl) (enters_of Tryz.func41 (by kernel_rfl) rfl _ _)) (HN.out _ (by exact HM.out)) ?_
 rintro e w1 ⟨rfl, n1, rfl⟩
 refine ⟨.string t, rfl, ?_⟩
 simp only [Act.put, List.setIfInBounds_toArray, List.set_cons_zero, List.set_cons_succ]
 refine zzA 15 (.bool false) (some 31) rfl (fun _ => ex_binOp .neq 9 9 _ _ (.string t) (.string t) _ rfl (by kernel_rfl) (by kernel_rfl) (by go_simp)) ?_
 refine zzA 16 (.bool false) (some 32) rfl (fun _ => ex_pick _ _ _ false (.bool true) (.bool false) rfl (by kernel_rfl) (by kernel_rfl) (by kernel_rfl)) ?_
 refine wpAny_done (by kernel_rfl) ?_ _
 simp only [Act.put, List.setIfInBounds_toArray, List.set_cons_zero, List.set_cons_succ]
 have HN1 : Hid (∃ n, w0.drew.drewN n1 = w0.drewN n) := ⟨1 + n1, by simp⟩
 obtain ⟨n2, hn2⟩ := HN1.out
 rw [hn2]
 clear hn2 HN1
 all_goals (
  have H1 := Lib.hid (H0.out.drewN n2)
  have HX1 : Hid ((w0.drewN n2).heap[p]? = some (.cells #[.int .i64 3, .string t, .int .i64 0] 31)) := HX0.out
  have HB1 := Lib.hid (below_drewN HB0.out n2)
  have b2 : (w0.drewN n2).cell? ⟨b, o + ops.length * 3 + 2, none⟩ = some (.int .i64 yd) := a2
  clear H0 HX0 HB0 HM a1 a2 x0 x1 x2 x3 q3 t1
  generalize w0.drewN n2 = w1 at H1 HX1 HB1 b2 ⊢
  obtain ⟨x0, x1, x2, x3, x4, x5⟩ := bx3 HX1.out
  have q3 : w1.cell? ⟨g, 3, none⟩ = some (.slice (some ⟨b, o, none⟩) (ops.length + 1) c) := H1.out.bd.cellR (i := 0) rfl
  go_upto_region 6 with fail
  have H2 := Lib.hid (H1.out.other p 2 (.int .i64 yd) (by omega) hfr)
  have HX2 : Hid ((w1.setCell ⟨p, 2, none⟩ (.int .i64 yd)).heap[p]? = some (.cells #[.int .i64 3, .string t, .int .i64 yd] 31)) := by
   show _ = _
   rw [set_rw1 HX1.out]
   rfl
  have HB2 := Lib.hid (HB1.out.setCell (p := ⟨p, 2, none⟩) (by show B ≤ p; have := hp.out; omega) (.int .i64 yd))
  clear q3 x0 x1 x2 x3 x4 x5 H1 HX1 HB1 b2
  generalize w1.setCell ⟨p, 2, none⟩ (.int .i64 yd) = w2 at H2 HX2 HB2 ⊢
  have q3 : w2.cell? ⟨g, 3, none⟩ = some (.slice (some ⟨b, o, none⟩) (ops.length + 1) c) := H2.out.bd.cellR (i := 0) rfl
  have f3 := H2.out.bd.frozen 3
  have hcapi : (ops.length : Int) ≤ (c : Int) := by omega
  go_upto_region 9 with fail
  have H3 : Hid (Ms B g iv tv cv (.slice (some ⟨b, o, none⟩) ops.length c) its tx cs ops cnt (w2.setCell ⟨g, 3, none⟩ (.slice (some ⟨b, o, none⟩) ops.length c))) := by
   have h := H2.out.pop ops.length (by simp)
   rw [List.take_left] at h
   exact h
  have HX3 : Hid ((w2.setCell ⟨g, 3, none⟩ (.slice (some ⟨b, o, none⟩) ops.length c)).heap[p]? = some (.cells #[.int .i64 3, .string t, .int .i64 yd] 31)) := by
   show _ = _
   rw [Below.heap_setCell _ _ _ _ (by show p ≠ g; omega)]
   exact HX2.out
  have HB3 := Lib.hid (HB2.out.setCell (p := ⟨g, 3, none⟩) H2.out.bd.lt (.slice (some ⟨b, o, none⟩) ops.length c))
  clear q3 f3 H2 HX2 HB2
  generalize w2.setCell ⟨g, 3, none⟩ (.slice (some ⟨b, o, none⟩) ops.length c) = w8 at H3 HX3 HB3 ⊢
  obtain ⟨x0, x1, x2, _⟩ := bx3 HX3.out
  have H8 : Hid (MSt B g u cs ops cnt w8) := ⟨⟨_, _, _, _, _, _, H3.out, HS.out⟩⟩
  clear t2 t3 hwl hcapi hcap hpb hbl hy hys HN
  have CB := Lib.hid (fun w (h : MSt B g u cs ops cnt w) => msItem ⟨3, t, yd⟩ (by show (3 : Int) ≠ 1; decide) off h hl hlu hc)
  go_wp2_with fail
  go_region_with (first
   | (go_at_call 127; refine (CB.out _ (by exact H8.out.below (below_drewN (Below.refl _ _) 1))).mono ?_; rintro e w9 ⟨rfl, hb9, hw9⟩; have HB9 := Lib.hid hb9; have HW9 := Lib.hid ((below_drewN HB3.out 1).trans hw9); clear hb9 hw9)
   | (go_at_call 124; refine (limit_ok _).mono ?_; rintro e w' ⟨rfl, rfl⟩)))
 all_goals (
  go_wp2_with fail
  go_ret
  exact ⟨rfl, HB9.out, HW9.out⟩)
end Go.Proofs.YtfkojnofbpdjdaaGreatDoor

namespace Go.Proofs.YtfkojnofbpdjdaaGreatDoor
set_option maxRecDepth 100000
open Go.RowKit
def MElRet (B g : Nat) (u : List Tk) (cs : List Int) (ops : List Tk) (cnt n : Nat) (w : World) (e : Ending) (w' : World) : Prop :=
 e = .returned (.tuple #[.int .i64 n, .int .i64 0]) ∧ MSt B g u cs ops cnt w' ∧ Below B w w'
theorem mkElem_ch (raw s : ByteArray) (k : Nat) (c : UInt8) (r : List UInt8) {B g : Nat} {u : List Tk} {cs : List Int} {ops : List Tk} {cnt : Nat} {w : World} (h : MSt B g u cs ops cnt w) (hl : u.length + 1 ≤ 512) (hlu : lenI u ≤ 1000000) (hc : cs.length + 1 ≤ 1024)
 (hk : k < raw.size) (hr : raw.size ≤ 1000000) (hs : raw.extract k raw.size = s) (hcr : s.data.toList = c :: r) (h0 : c ≠ 60) (h1 : c ≠ 38) (h2 : c ≠ 123) :
 Calls Tryz.prog 81 #[.pointer (some ⟨g, 0, none⟩), .string raw, .int .i64 k] w (MElRet B g (u ++ [chI c]) (cs ++ [(k : Int)]) ops cnt 1 w) := by
 have hsz : 0 < s.size := by rw [Lib.size_eq, hcr]; simp
 have hc0 : s[0] = c := by
  have : s.data.toList[0]'(by rw [hcr]; simp) = c := by simp only [hcr]; rfl
  exact this
 have CB := Lib.hid (fun w (h : MSt B g u cs ops cnt w) => msByte s[0] (k : Int) h hl hlu hc)
 have n0 : ((s[0].toNat : Int) == 60) = false := beq_u8f s[0] 60 (by rw [hc0]; exact h0)
 have n1 : ((s[0].toNat : Int) == 38) = false := beq_u8f s[0] 38 (by rw [hc0]; exact h1)
 have n2 : ((s[0].toNat : Int) == 123) = false := beq_u8f s[0] 123 (by rw [hc0]; exact h2)
 have HS := Lib.hid hs
 have HC0 := Lib.hid hc0
 have H := Lib.hid h
 clear h hl hlu hc hcr h0 h1 h2 hc0 hs
 go_enter Tryz.func81, Tryz.ntmps81
 go_upto_region 2 with fail
 rw [HS.out]
 go_wp2_with fail
 go_region_with (first
  | (go_at_call 125; refine (CB.out _ (by exact H.out.below (below_drewN (Below.refl _ _) 1))).mono ?_; rintro e w1 ⟨rfl, hb1, hw1⟩; have HB1 := Lib.hid hb1; have HW1 := Lib.hid ((below_drewN (Below.refl B w) 1).trans hw1); clear hb1 hw1)
  | (go_at_call 124; refine (limit_ok _).mono ?_; rintro e w' ⟨rfl, rfl⟩))
 all_goals (
  go_wp2_with fail
  go_ret2
  refine ⟨rfl, ?_, HW1.out⟩
  rw [← HC0.out]; exact HB1.out)
theorem mkElem_ref (raw s : ByteArray) (k : Nat) (q : List UInt8) (c : UInt8) (r : List UInt8) {B g : Nat} {u : List Tk} {cs : List Int} {ops : List Tk} {cnt : Nat} {w : World} (h : MSt B g u cs ops cnt w) (hl : u.length + 1 ≤ 512) (hlu : lenI u ≤ 1000000) (hc : cs.length + 1 ≤ 1024)
 (hk : k < raw.size) (hr : raw.size ≤ 1000000) (hs : raw.extract k raw.size = s) (hcr : s.data.toList = q ++ r) (hq : (q, c) ∈ refsL) :
 Calls Tryz.prog 81 #[.pointer (some ⟨g, 0, none⟩), .string raw, .int .i64 k] w (MElRet B g (u ++ [chI c]) (cs ++ [(k : Int)]) ops cnt q.length w) := by
 obtain ⟨q', hq'⟩ : ∃ q', q = 38 :: q' := by
  simp only [refsL, List.mem_cons, Prod.mk.injEq, List.not_mem_nil, or_false] at hq
  rcases hq with ⟨rfl, _⟩ | ⟨rfl, _⟩ | ⟨rfl, _⟩ | ⟨rfl, _⟩ | ⟨rfl, _⟩ <;> exact ⟨_, rfl⟩
 have hsz : 0 < s.size := by rw [Lib.size_eq, hcr, hq']; simp
 have hc0 : s[0] = 38 := by
  have : s.data.toList[0]'(by rw [hcr, hq']; simp) = 38 := by simp only [hcr, hq']; rfl
  exact this
 have CR := Lib.hid (fun w => ref_mk s r q c hq hcr w)
 have CB := Lib.hid (fun w (h : MSt B g u cs ops cnt w) => msByte c (k : Int) h hl hlu hc)
 have n0 : ((s[0].toNat : Int) == 60) = false := beq_u8f s[0] 60 (by rw [hc0]; decide)
 have n1 : ((s[0].toNat : Int) == 38) = true := beq_u8t s[0] 38 hc0
 have HS := Lib.hid hs
 have H := Lib.hid h
 generalize q.length = ql at CR ⊢
 clear h hl hlu hc hcr hc0 hs hq hq'
 go_enter Tryz.func81, Tryz.ntmps81
 go_upto_region 2 with fail
 rw [HS.out]
 go_wp2_with (first
  | (go_at_call 123; refine (CR.out _).mono ?_; rintro e w' ⟨rfl, rfl⟩)
  | (go_at_call 125; refine (CB.out _ (by exact H.out)).mono ?_; rintro e w1 ⟨rfl, hb1, hw1⟩; have HB1 := Lib.hid hb1; have HW1 := Lib.hid hw1; clear hb1 hw1)
  | (go_at_call 124; refine (limit_ok _).mono ?_; rintro e w' ⟨rfl, rfl⟩))
 first | (go_region_with (first
  | (go_at_call 125; refine (CB.out _ (by exact H.out.below (below_drewN (Below.refl _ _) 1))).mono ?_; rintro e w1 ⟨rfl, hb1, hw1⟩; have HB1 := Lib.hid hb1; have HW1 := Lib.hid ((below_drewN (Below.refl B w) 1).trans hw1); clear hb1 hw1)
  | (go_at_call 124; refine (limit_ok _).mono ?_; rintro e w' ⟨rfl, rfl⟩))) | skip
 all_goals (
  first | (go_wp2_with fail) | skip
  go_ret2
  exact ⟨rfl, HB1.out, HW1.out⟩)
theorem mkElem_slot (raw s nm : ByteArray) (k : Nat) (r : List UInt8) {B g : Nat} {u : List Tk} {cs : List Int} {ops : List Tk} {cnt : Nat} {w : World} (h : MSt B g u cs ops cnt w) (hl : u.length + 1 ≤ 512) (hlu : lenI u ≤ 1000000) (hc : cs.length + 1 ≤ 1024)
 (hk : k < raw.size) (hr : raw.size ≤ 1000000) (hs : raw.extract k raw.size = s) (hcr : s.data.toList = 123 :: nm.data.toList ++ 125 :: r) (hn : nameL nm.data.toList = true) :
 Calls Tryz.prog 81 #[.pointer (some ⟨g, 0, none⟩), .string raw, .int .i64 k] w (MElRet B g (u ++ [⟨5, nm, 0⟩]) (cs ++ [(k : Int)]) ops cnt (nm.size + 2) w) := by
 have hsl : s.size = nm.size + 2 + r.length := by rw [Lib.size_eq, hcr, Lib.size_eq nm]; simp; omega
 have hsz : 0 < s.size := by omega
 have hss : s.size ≤ raw.size := by rw [← hs, ByteArray.size_extract]; omega
 have hc0 : s[0] = 123 := by
  have : s.data.toList[0]'(by rw [hcr]; simp) = 123 := by simp only [hcr]; rfl
  exact this
 have hns : nm.size ≤ 1000000 := by omega
 have hex : s.extract 1 (nm.size + 1) = nm := ext_list _ _ _ _ (mid_of (p := [123]) (q := 125 :: r) (by rw [hcr]; simp) rfl (by rw [← Lib.size_eq]; omega))
 have CI := Lib.hid (idx_call s 125 ((nm.size + 1 : Nat) : Int) (by rw [hcr, Lib.size_eq nm]; exact slot_idx nm.data.toList r hn))
 have CN := Lib.hid (fun w => isname_any nm w (by unfold maxLen; omega))
 rw [hn] at CN
 have CB := Lib.hid (fun w (h : MSt B g u cs ops cnt w) => msItem ⟨5, nm, 0⟩ (by show (5 : Int) ≠ 1; decide) (k : Int) h hl hlu hc)
 have n0 : ((s[0].toNat : Int) == 60) = false := beq_u8f s[0] 60 (by rw [hc0]; decide)
 have n1 : ((s[0].toNat : Int) == 38) = false := beq_u8f s[0] 38 (by rw [hc0]; decide)
 have n2 : ((s[0].toNat : Int) == 123) = true := beq_u8t s[0] 123 hc0
 have HR : Hid (IntKind.i64.wrap ((nm.size : Int) + 1 + 1) = ((nm.size + 2 : Nat) : Int)) := by show _ = _; rw [IntKind.wrap_i64]; omega
 have HS := Lib.hid hs
 have H := Lib.hid h
 clear h hl hlu hc hcr hs hc0
 go_enter Tryz.func81, Tryz.ntmps81
 go_upto_region 2 with fail
 rw [HS.out]
 go_wp2_with (first
  | (go_at_call 126; refine (CI.out _).mono ?_; rintro e w' ⟨rfl, rfl⟩)
  | (go_at_call 114; refine (CN.out _).mono ?_; rintro e w' ⟨rfl, rfl⟩))
 go_region_with (first
  | (go_at_call 127; refine (CB.out _ (by exact H.out.below (below_drewN (Below.refl _ _) 1))).mono ?_; rintro e w1 ⟨rfl, hb1, hw1⟩; have HB1 := Lib.hid hb1; have HW1 := Lib.hid ((below_drewN (Below.refl B w) 1).trans hw1); clear hb1 hw1)
  | (go_at_call 124; refine (limit_ok _).mono ?_; rintro e w' ⟨rfl, rfl⟩))
 all_goals (
  go_wp2_with fail
  go_ret2
  refine ⟨ret_val ?_, HB1.out, HW1.out⟩
  rw [HR.out]
  rfl)
end Go.Proofs.YtfkojnofbpdjdaaGreatDoor

namespace Go.Proofs.YtfkojnofbpdjdaaGreatDoor
set_option maxRecDepth 100000
open Go.RowKit
theorem mkElem_tag (raw s t : ByteArray) (k : Nat) (kk m : Int) (n : Nat) (r : List UInt8) {B g : Nat} {u u' : List Tk} {cs cs' : List Int} {ops ops' : List Tk} {cnt cnt' : Nat} {w : World} (h : MSt B g u cs ops cnt w) (hm : w.cell? ⟨0, 0, none⟩ = some (.int .i64 m))
 (hk : k < raw.size) (hr : raw.size ≤ 1000000) (hs : raw.extract k raw.size = s) (hcr : s.data.toList = 60 :: r) (ht : t.size ≤ 1000000) (hT : Calls Tryz.prog 121 #[.string s] w (TagRet kk t n w)) (hb : blockL (tagN t.data.toList) = false)
 (hG : ∀ w', MSt B g u cs ops cnt w' → w'.cell? ⟨0, 0, none⟩ = some (.int .i64 m) → Calls Tryz.prog 122 #[.pointer (some ⟨g, 0, none⟩), .agg #[.int .i64 kk, .string t, .int .i64 0], .int .i64 k] w' (TgRet B g u' cs' ops' cnt' w')) :
 Calls Tryz.prog 81 #[.pointer (some ⟨g, 0, none⟩), .string raw, .int .i64 k] w (MElRet B g u' cs' ops' cnt' n w) := by
 have hB := h.bsz
 have hsz : 0 < s.size := by rw [Lib.size_eq, hcr]; simp
 have hc0 : s[0] = 60 := by
  have : s.data.toList[0]'(by rw [hcr]; simp) = 60 := by simp only [hcr]; rfl
  exact this
 have n0 : ((s[0].toNat : Int) == 60) = true := beq_u8t s[0] 60 hc0
 have HS := Lib.hid hs
 have H := Lib.hid h
 have HM := Lib.hid hm
 have HT := Lib.hid hT
 have HG := Lib.hid hG
 have HN := Lib.hid (fun w (hm : w.cell? ⟨0, 0, none⟩ = some (.int .i64 m)) => name_mk t m w ht hm)
 have HBL := Lib.hid (fun w => isBlock_no (ofL (tagN t.data.toList)) w (by simpa [ofL] using hb))
 generalize ofL (tagN t.data.toList) = tn at HN HBL
 clear h hm hcr hs hc0 hT hG hb ht
 go_enter Tryz.func81, Tryz.ntmps81
 go_upto_region 2 with fail
 rw [HS.out]
 go_wp2_with (go_at_call 121; refine (HT.out).mono ?_; rintro e w1 ⟨rfl, hw1⟩; have HW1 := Lib.hid hw1; have hz1 := hw1.size; clear hw1)
 have HM1 := Lib.hid (below_cell0 HM.out HW1.out)
 have HX : Hid ((w1.alloc (.cells #[.int .i64 kk, .string t, .int .i64 0] 31)).heap[w1.heap.size]? = some (.cells #[.int .i64 kk, .string t, .int .i64 0] 31)) := Array.getElem?_push_size
 refine (HN.out _ (by rw [World.cell?_alloc_past _ _ _ (size_pos HM1.out)]; exact HM1.out)).mono ?_
 rintro e w2 ⟨rfl, n2, rfl⟩
 have HM2 : Hid (((w1.alloc (.cells #[.int .i64 kk, .string t, .int .i64 0] 31)).drewN n2).cell? ⟨0, 0, none⟩ = some (.int .i64 m)) := by
  show (w1.alloc (.cells #[.int .i64 kk, .string t, .int .i64 0] 31)).cell? ⟨0, 0, none⟩ = _
  rw [World.cell?_alloc_past _ _ _ (size_pos HM1.out)]
  exact HM1.out
 have HX2 : Hid (((w1.alloc (.cells #[.int .i64 kk, .string t, .int .i64 0] 31)).drewN n2).heap[w1.heap.size]? = some (.cells #[.int .i64 kk, .string t, .int .i64 0] 31)) := HX.out
 have hb2 := below_drewN (HW1.out.alloc hz1 (.cells #[.int .i64 kk, .string t, .int .i64 0] 31)) n2
 have H2 := Lib.hid (H.out.below hb2)
 have HB2 := Lib.hid (hb2.mono hB)
 clear H HM HX HW1 HM1 HN hb2
 generalize (w1.alloc (.cells #[.int .i64 kk, .string t, .int .i64 0] 31)).drewN n2 = w3 at HM2 HX2 H2 HB2 ⊢
 obtain ⟨x0, x1, x2, _⟩ := bx3 HX2.out
 go_wp2_with (first
  | (go_at_call 40; refine (HBL.out _).mono ?_; rintro e w' ⟨rfl, rfl⟩)
  | (go_at_call 122; refine (HG.out _ H2.out HM2.out).mono ?_; rintro e w4 ⟨rfl, hb4, hw4⟩; have HB4 := Lib.hid hb4; have HW4 := Lib.hid (HB2.out.trans hw4); clear hb4 hw4))
 go_ret2
 exact ⟨rfl, HB4.out, HW4.out⟩
end Go.Proofs.YtfkojnofbpdjdaaGreatDoor

namespace Go.Proofs.YtfkojnofbpdjdaaGreatDoor
set_option maxRecDepth 100000
open Go.RowKit
theorem opnN_ch (x : Tk) (c : Nat) (op : List Tk) (h : x.k = 1 ∨ x.k = 5) : opnN [x] c op = (c, op) := by
 rw [opnN, if_neg (by omega), if_neg (by omega), if_neg (by omega)]
 rfl
theorem el_size (fmt : Int) (r : List UInt8) (x : Tk) (h : ElOk fmt r (some x)) : x.t.size ≤ 64 := by
 cases h with
 | slot _ n hn => obtain ⟨c, l, rfl, _, hl, _⟩ := name_head n hn; rw [Lib.size_eq]; simp [ofL]; omega
 | opn t d h hb => have := (cont_parts t h).1; rw [Lib.size_eq]; simpa [ofL] using this
 | cls t d h hb => obtain ⟨c, l, rfl, _, hl, _⟩ := name_head t h; rw [Lib.size_eq]; simp [ofL]; omega
 | emp t d h hb => have := (cont_parts t h).1; rw [Lib.size_eq]; simpa [ofL] using this
 | _ => show (1 : Nat) ≤ 64; decide
theorem itm_size (fmt : Int) (ts : Els) (h : ∀ e ∈ ts, ElOk fmt e.1 e.2) : ∀ x ∈ itmE ts, x.t.size ≤ 64 := by
 intro x hx
 obtain ⟨e, he, hx⟩ := List.mem_filterMap.1 hx
 have := h e he
 rw [hx] at this
 exact el_size _ _ _ this
theorem opnN_mem : ∀ (u : List Tk) (c : Nat) (op : List Tk), ∀ y ∈ (opnN u c op).2, y ∈ op ∨ y ∈ u
 | [], _, _, y, h => .inl h
 | x :: u, c, op, y, h => by
   rw [opnN] at h
   split at h
   ·rcases opnN_mem u _ _ y h with h | h
    ·rcases List.mem_cons.1 h with rfl | h
     ·exact .inr (by simp)
     ·exact .inl h
    ·exact .inr (by simp [h])
   ·split at h
    ·rcases opnN_mem u _ _ y h with h | h
     ·exact .inl h
     ·exact .inr (by simp [h])
    ·split at h
     ·rcases opnN_mem u _ _ y h with h | h
      ·exact .inl (List.mem_of_mem_drop h)
      ·exact .inr (by simp [h])
     ·rcases opnN_mem u _ _ y h with h | h
      ·exact .inl h
      ·exact .inr (by simp [h])
theorem mkElem_any (raw : ByteArray) (k : Nat) (m : Int) (rest' : List UInt8) (v : List Tk) {B g : Nat} {u : List Tk} {cs : List Int} {op : List Tk} {cnt : Nat} {w : World} (h : MSt B g u cs op.reverse cnt w) (hm : w.cell? ⟨0, 0, none⟩ = some (.int .i64 m)) (hl : u.length + 1 ≤ 512) (hlu : lenI u ≤ 1000000) (hc : cs.length + 1 ≤ 1024)
 (ho : op.length ≤ 500) (hn : cnt ≤ 500) (hos : ∀ y ∈ op, y.t.size ≤ 64) (hk : k < raw.size) (hr : raw.size ≤ 1000000) (x : Tk) (hx : NumOk (x :: v) cnt op) : ∀ (fmt : Int) (r : List UInt8) (o : Option Tk), ElOk fmt r o → fmt = 1 → o = some x → raw.data.toList.drop k = r ++ rest' →
 Calls Tryz.prog 81 #[.pointer (some ⟨g, 0, none⟩), .string raw, .int .i64 k] w (MElRet B g (u ++ [x]) (cs ++ [(k : Int)]) (opnN [x] cnt op).2.reverse (opnN [x] cnt op).1 r.length w) := by
 intro fmt r o he hf hox hd
 have hxd := ext_drop raw k
 rw [hd] at hxd
 have hss : (raw.extract k raw.size).size ≤ 1000000 := by rw [ByteArray.size_extract]; omega
 cases he with
 | slot _ n hn =>
   injection hox with hox
   subst hox
   rw [opnN_ch _ _ _ (.inr rfl)]
   have e : (123 :: n ++ [125]).length = (ofL n).size + 2 := by rw [Lib.size_eq]; simp [ofL]
   rw [e]
   exact mkElem_slot raw _ (ofL n) k rest' h hl hlu hc hk hr rfl (by rw [hxd]; simp [ofL]) (by simpa [ofL] using hn)
 | ch1 c hc1 =>
   injection hox with hox
   subst hox
   rw [opnN_ch _ _ _ (.inl rfl)]
   exact mkElem_ch raw _ k c rest' h hl hlu hc hk hr rfl (by rw [hxd]; rfl) hc1.1 hc1.2.1 hc1.2.2
 | ref _ c hc1 =>
   injection hox with hox
   subst hox
   rw [opnN_ch _ _ _ (.inl rfl)]
   exact mkElem_ref raw _ k _ c rest' h hl hlu hc hk hr rfl hxd hc1
 | opn t d ht hb =>
   injection hox with hox
   subst hox
   unfold NumOk at hx
   rw [if_pos rfl] at hx
   have hd' : d = ((cnt + 1 : Nat) : Int) := hx.1
   subst hd'
   have et : (ofL t).data.toList = t := by simp [ofL]
   have hts : (ofL t).size ≤ 64 := el_size 1 _ _ (ElOk.opn t ((cnt + 1 : Nat) : Int) ht hb)
   have hsz : (ofL t).size = t.length := by rw [Lib.size_eq, et]
   have e1 : opnN [(⟨2, ofL t, ((cnt + 1 : Nat) : Int)⟩ : Tk)] cnt op = (cnt + 1, ⟨2, ofL t, ((cnt + 1 : Nat) : Int)⟩ :: op) := rfl
   rw [e1, show (60 :: t ++ [(62 : UInt8)]).length = t.length + 2 by simp]
   rw [List.reverse_cons]
   refine mkElem_tag raw _ (ofL t) k 2 m _ (t ++ 62 :: rest') h hm hk hr rfl (by rw [hxd]; simp) (by omega) ?_ (by rw [et]; exact hb) fun w' h' hm' => tagged_opn (ofL t) k h' hl hlu hc (by simpa using ho) hn
   have := tag_opn _ (ofL t) rest' m w hm (by rw [hxd, et]; simp) hss (by rw [et]; exact ht)
   rwa [hsz] at this
 | cls t d ht hb =>
   injection hox with hox
   subst hox
   unfold NumOk at hx
   rw [if_neg (show ¬ (3 : Int) = 2 by decide), if_neg (show ¬ (3 : Int) = 4 by decide), if_pos rfl] at hx
   obtain ⟨y, op', rfl, hy, hyd, _⟩ := hx
   have hyd' : d = y.d := hyd
   subst hyd'
   have et : (ofL t).data.toList = t := by simp [ofL]
   have hts : (ofL t).size ≤ 64 := el_size 1 _ _ (ElOk.cls t y.d ht hb)
   have hsz : (ofL t).size = t.length := by rw [Lib.size_eq, et]
   have e1 : opnN [(⟨3, ofL t, y.d⟩ : Tk)] cnt (y :: op') = (cnt, op') := rfl
   rw [e1, show (60 :: 47 :: t ++ [(62 : UInt8)]).length = t.length + 3 by simp]
   rw [List.reverse_cons] at h
   have hbl : blockL (tagN (ofL t).data.toList) = false := by rw [et, tagN_name t ht]; exact hb
   refine mkElem_tag raw _ (ofL t) k 3 m _ (47 :: t ++ 62 :: rest') h hm hk hr rfl (by rw [hxd]; simp) (by omega) ?_ hbl fun w' h' hm' => tagged_cls (ofL t) y k m h' hl hlu hc (by simp at ho ⊢; omega) hy (by have := hos y (by simp); omega) hm'
   have := tag_cls _ (ofL t) rest' m w hm (by rw [hxd, et]; simp) hss (by rw [et]; exact ht)
   rwa [hsz] at this
 | emp t d ht hb =>
   injection hox with hox
   subst hox
   unfold NumOk at hx
   rw [if_neg (show ¬ (4 : Int) = 2 by decide), if_pos rfl] at hx
   have hd' : d = ((cnt + 1 : Nat) : Int) := hx.1
   subst hd'
   have et : (ofL t).data.toList = t := by simp [ofL]
   have hts : (ofL t).size ≤ 64 := el_size 1 _ _ (ElOk.emp t ((cnt + 1 : Nat) : Int) ht hb)
   have hsz : (ofL t).size = t.length := by rw [Lib.size_eq, et]
   have e1 : opnN [(⟨4, ofL t, ((cnt + 1 : Nat) : Int)⟩ : Tk)] cnt op = (cnt + 1, op) := rfl
   rw [e1, show (60 :: t ++ [(47 : UInt8), 62]).length = t.length + 3 by simp]
   refine mkElem_tag raw _ (ofL t) k 4 m _ (t ++ 47 :: 62 :: rest') h hm hk hr rfl (by rw [hxd]; simp) (by omega) ?_ (by rw [et]; exact hb) fun w' h' hm' => tagged_emp (ofL t) k h' hl hlu hc hn
   have := tag_emp _ (ofL t) rest' m w hm (by rw [hxd, et]; simp) hss (by rw [et]; exact ht)
   rwa [hsz] at this
 | ch2 => exact absurd hf (by decide)
 | esc => exact absurd hf (by decide)
 | cont => exact absurd hf (by decide)
 | ch3 => exact absurd hf (by decide)
 | two => exact absurd hf (by decide)
def opJ (ts : Els) (j : Nat) : Nat × List Tk := opnN (itmE (ts.take j)) 0 []
theorem mkRead_any (raw : ByteArray) (ts : Els) (m : Int) (w : World) (hm : w.cell? ⟨0, 0, none⟩ = some (.int .i64 m)) (h : Rdb 1 raw ts) (hnum : NumOk (itmE ts) 0 []) :
 Calls Tryz.prog 42 #[.string raw] w (fun e w' => ∃ g rest, e = .returned (.tuple #[.pointer (some ⟨g, 0, none⟩), .int .i64 0, .int .i64 0]) ∧ BS w.heap.size g 93 rest (itmE ts) (csE ts) w' ∧ Below w.heap.size w w') := by
 obtain ⟨R, HRR⟩ : ∃ R : Ending → World → Prop, Hid (R = fun e w' => ∃ g rest, e = .returned (.tuple #[.pointer (some ⟨g, 0, none⟩), .int .i64 0, .int .i64 0]) ∧ BS w.heap.size g 93 rest (itmE ts) (csE ts) w' ∧ Below w.heap.size w w') := ⟨_, rfl⟩
 rw [← HRR.out]
 have HB0 : Hid (MSt w.heap.size w.heap.size [] [] [] 0 (w.alloc (.cells #[.slice none 0 0, .slice none 0 0, .slice none 0 0, .slice none 0 0, .int .i64 0] 93))) :=
  ⟨⟨_, _, _, _, [], ⟨#[]⟩, ⟨Bd.start (Nat.le_refl _) rfl (by decide), OwnE.nil, fun k hk => by cases hk⟩, BSt.nil⟩⟩
 have HL0 := Lib.hid ((Below.refl w.heap.size w).alloc (Nat.le_refl _) (.cells #[.slice none 0 0, .slice none 0 0, .slice none 0 0, .slice none 0 0, .int .i64 0] 93))
 have hrs : raw.size = (rawE ts).length := by rw [Lib.size_eq, h.eq]
 have HRS := Lib.hid hrs
 have H := Lib.hid h
 have HNU := Lib.hid hnum
 have HM := Lib.hid hm
 clear h hrs hnum hm
 go_enter Tryz.func42, Tryz.ntmps42
 go_wp2_with fail
 go_loopg [6] ts.length (fun gk iv wr => ∃ j, iv = .int .i64 (posE ts j : Nat) ∧ j ≤ ts.length ∧ Hid (MSt w.heap.size w.heap.size (itmE (ts.take j)) (csE (ts.take j)) (opJ ts j).2.reverse (opJ ts j).1 wr) ∧ Hid (Below w.heap.size w wr) ∧ ts.length - j ≤ gk)
 case atStart => exact ⟨0, rfl, Nat.zero_le _, HB0.out, HL0.out, Nat.le_refl _⟩
 case round =>
  obtain ⟨j, rfl, hj, HB, HL, hgk⟩ := hrel
  by_cases hlt : j < ts.length
  ·have hmem := List.getElem_mem hlt
   have hel := H.out.els _ hmem
   have hp := posE_lt ts j hlt (el_ne _ _ _ hel)
   have hps : posE ts j < raw.size := by rw [HRS.out]; exact hp
   have hd := posE_drop ts j hlt
   rw [← H.out.eq] at hd
   have hil := itm_take_le ts (j + 1)
   have hlen := H.out.len
   have hsz := H.out.sz
   obtain ⟨x, hx⟩ := Option.ne_none_iff_exists'.1 (el3_some _ _ _ hel (by decide))
   have hit := itm_take ts j hlt x hx
   have hct := cs_take ts j hlt fun e he => el3_some _ _ _ (H.out.els e he) (by decide)
   rw [hit, List.length_append, List.length_singleton] at hil
   have hlu : lenI (itmE (ts.take j)) ≤ 500 := Nat.le_trans (lenI_one _ (itm_one 1 (ts.take j) fun e he => H.out.els e (List.mem_of_mem_take he))) (by omega)
   have hol := opnN_len (itmE (ts.take j)) 0 []
   have hn1 : NumOk (x :: itmE (ts.drop (j + 1))) (opJ ts j).1 (opJ ts j).2 := by
    have e1 : itmE ts = itmE (ts.take j) ++ (x :: itmE (ts.drop (j + 1))) := by
     conv => lhs; rw [← List.take_append_drop j ts, itmE_app, List.drop_eq_getElem_cons hlt]
     congr 1
     rw [show itmE (ts[j] :: ts.drop (j + 1)) = itmE [ts[j]] ++ itmE (ts.drop (j + 1)) from itmE_app [ts[j]] _]
     simp [itmE, hx]
    have h1 := HNU.out
    rw [e1] at h1
    exact numOk_app _ _ _ _ h1
   have hoj : opJ ts (j + 1) = opnN [x] (opJ ts j).1 (opJ ts j).2 := by
    unfold opJ
    rw [hit, opnN_app]
   have hos : ∀ y ∈ (opJ ts j).2, y.t.size ≤ 64 := fun y hy => by
    rcases opnN_mem _ _ _ y hy with h | h
    ·simp at h
    ·exact itm_size 1 (ts.take j) (fun e he => H.out.els e (List.mem_of_mem_take he)) y h
   have hC := mkElem_any raw (posE ts j) m _ _ HB.out (below_cell0 HM.out HL.out) (by omega) (by omega) (by rw [cs_len]; omega) (by simp at hol; unfold opJ; omega) (by simp at hol; unfold opJ; omega) hos hps hsz x hn1 1 _ _ hel rfl hx hd
   rw [← hit, ← hct, ← hoj] at hC
   have HC := Lib.hid hC
   have HPS : Hid (posE ts (j + 1) = posE ts j + ts[j].1.length) := posE_succ ts j hlt
   have hpl : posE ts j + ts[j].1.length ≤ raw.size := by
    have := congrArg List.length hd
    rw [List.length_drop, List.length_append, ← Lib.size_eq] at this
    omega
   clear hC hit hct hx hd hel hmem HB0 HL0 hil hlu hp hos hoj hn1 hol HB
   have hps2 : ((posE ts j : Nat) : Int) < (raw.size : Int) := by omega
   generalize posE ts j = pj at hps hps2 HC HPS hpl ⊢
   generalize ts[j].1.length = ln at HC HPS hpl ⊢
   have hsum : ((pj : Int) + (ln : Int)) = ((posE ts (j + 1) : Nat) : Int) := by rw [HPS.out]; omega
   have HSUM := Lib.hid hsum
   clear hsum
   go_wp2_with fail
   refine (HC.out).mono ?_
   rintro e w1 ⟨rfl, hb1, hw1⟩
   have HB1 := Lib.hid hb1
   have HW1 := Lib.hid (HL.out.trans hw1)
   clear hb1 hw1
   go_wp2_with fail
   rw [HSUM.out]
   go_roundg (ts.length - (j + 1))
   case measure => omega
   case rel => exact ⟨j + 1, rfl, hlt, HB1.out, HW1.out, by omega⟩
  ·obtain rfl : j = ts.length := by omega
   have he : posE ts ts.length = raw.size := by rw [HRS.out]; exact posE_all ts
   have ho2 : (opJ ts ts.length).2 = [] := by
    unfold opJ
    rw [List.take_length]
    exact opnN_end _ HNU.out
   rw [he]
   rw [List.take_length, ho2] at HB
   have hq : ∃ A c, wr.cell? ⟨w.heap.size, 3, none⟩ = some (.slice A 0 c) := by
    obtain ⟨iv, tv, cv, ov, its, tx, h, _⟩ := HB.out.ex
    obtain ⟨A, c, rfl⟩ := own_shape h.own
    exact ⟨A, c, h.bd.cellR (i := 0) rfl⟩
   obtain ⟨A, c, q3⟩ := hq
   obtain ⟨rest, hbs⟩ := HB.out.bs
   have HBS := Lib.hid hbs
   clear HB0 HL0 he ho2 hbs
   go_wp2_with fail
   first | go_ret3 | skip
   rw [HRR.out]
   exact ⟨_, _, rfl, HBS.out, HL.out⟩
theorem mkDecode_any (raw : ByteArray) (ts : Els) (m : Int) (w : World) (hm : w.cell? ⟨0, 0, none⟩ = some (.int .i64 m)) (h : Rdb 1 raw ts) (hnum : NumOk (itmE ts) 0 []) :
 Calls Tryz.prog 13 #[.string raw] w (fun e w' => ∃ v, e = .returned (.tuple #[v, .int .i64 0, .int .i64 0]) ∧ OwnT 31 w' w.heap.size v (normL (itmE ts)) ∧ Below w.heap.size w w') := by
 have HR := Lib.hid (mkRead_any raw ts m w hm h hnum)
 have HL : Hid ((itmE ts).length ≤ 500) := h.len
 have HU : Hid (lenI (itmE ts) ≤ 500) := Nat.le_trans (lenI_one _ (itm_one 1 ts h.els)) h.len
 clear h hnum hm
 go_enter Tryz.func13, Tryz.ntmps13
 go_wp2_with fail
 refine (HR.out).mono ?_
 rintro e w1 ⟨g, rest, rfl, hb, hw⟩
 have HI := Lib.hid (bsItems hb (by have := HL.out; omega) (by have := HU.out; omega))
 have HW := Lib.hid hw
 clear hb hw HR
 go_wp2_with fail
 refine (HI.out).mono ?_
 rintro e w2 ⟨v, rfl, ho, hw2⟩
 have HO := Lib.hid ho
 have HW2 := Lib.hid (HW.out.trans hw2)
 obtain ⟨A, c, rfl⟩ := own_shape ho
 clear ho hw2
 go_wp2_with fail
 go_ret3
 exact ⟨_, rfl, HO.out, HW2.out⟩
theorem mkCuts_any (raw : ByteArray) (ts : Els) (m : Int) (w : World) (hm : w.cell? ⟨0, 0, none⟩ = some (.int .i64 m)) (h : Rdb 1 raw ts) (hnum : NumOk (itmE ts) 0 []) :
 Calls Tryz.prog 106 #[.string raw] w (fun e w' => ∃ v, e = .returned (.tuple #[v, .int .i64 0]) ∧ OwnE 3 intC 1 w' w.heap.size v (csE ts ++ [((rawE ts).length : Int)]) ∧ Below w.heap.size w w') := by
 have HR := Lib.hid (mkRead_any raw ts m w hm h hnum)
 have HL : Hid ((csE ts).length ≤ 500) := by show _ ≤ _; rw [cs_len]; exact h.len
 have hrs : (rawE ts).length = raw.size := by rw [Lib.size_eq, h.eq]
 rw [hrs]
 clear h hrs hnum hm
 go_enter Tryz.func106, Tryz.ntmps106
 go_wp2_with fail
 refine (HR.out).mono ?_
 rintro e w1 ⟨g, rest, rfl, hb, hw⟩
 have HI := Lib.hid (bsCuts (raw.size : Int) hb (by have := HL.out; omega))
 have HW := Lib.hid hw
 clear hb hw HR
 go_wp2_with fail
 refine (HI.out).mono ?_
 rintro e w2 ⟨v, rfl, ho, hw2⟩
 have HO := Lib.hid ho
 have HW2 := Lib.hid (HW.out.trans hw2)
 obtain ⟨A, c, hv⟩ := own_shape ho
 rw [show (csE ts ++ [(raw.size : Int)]).length = (csE ts).length + 1 by simp] at hv
 subst hv
 clear ho hw2
 go_wp2_with fail
 go_ret2
 exact ⟨_, rfl, HO.out, HW2.out⟩
end Go.Proofs.YtfkojnofbpdjdaaGreatDoor

namespace Go.Proofs.YtfkojnofbpdjdaaGreatDoor
set_option maxRecDepth 100000
instance (x : Tk) : Decidable (TagI x) := by unfold TagI; exact inferInstance
def numsG : List Tk → List Int → List Int
 | [], seen => seen
 | x :: u, seen => if TagI x ∧ x.d ∉ seen then numsG u (seen ++ [x.d]) else numsG u seen
def cnt1 (n : Nat) : List Int := (List.range n).map fun (k : Nat) => ((k + 1 : Nat) : Int)
theorem cnt1_succ (n : Nat) : cnt1 (n + 1) = cnt1 n ++ [((n + 1 : Nat) : Int)] := by simp [cnt1, List.range_succ]
theorem cnt1_mem (n : Nat) (d : Int) : d ∈ cnt1 n ↔ 1 ≤ d ∧ d ≤ n := by
 unfold cnt1
 rw [List.mem_map]
 constructor
 ·rintro ⟨k, hk, rfl⟩
  have := List.mem_range.1 hk
  omega
 ·intro h
  exact ⟨d.toNat - 1, List.mem_range.2 (by omega), by omega⟩
theorem cnt1_len (n : Nat) : (cnt1 n).length = n := by simp [cnt1]
theorem numOk_nums : ∀ (u : List Tk) (c : Nat) (op : List Tk), NumOk u c op → (∀ y ∈ op, 1 ≤ y.d ∧ y.d ≤ (c : Int)) → numsG u (cnt1 c) = cnt1 (opnN u c op).1 ∧ (∀ x ∈ u, TagI x → 1 ≤ x.d ∧ x.d ≤ ((opnN u c op).1 : Int)) ∧ c ≤ (opnN u c op).1
 | [], c, op, _, _ => ⟨rfl, fun x hx => by simp at hx, Nat.le_refl _⟩
 | x :: u, c, op, h, ho => by
   unfold NumOk at h
   rw [opnN, numsG]
   split at h
   ·rename_i h2
    rw [if_pos h2, if_pos ⟨Or.inl h2, fun hm => by have := (cnt1_mem c x.d).1 hm; rw [h.1] at this; omega⟩, h.1, ← cnt1_succ]
    obtain ⟨e1, e2, e3⟩ := numOk_nums u (c + 1) (x :: op) h.2 (fun y hy => by
     rcases List.mem_cons.1 hy with rfl | hy
     ·rw [h.1]; omega
     ·have := ho y hy; omega)
    refine ⟨e1, fun z hz ht => ?_, by omega⟩
    rcases List.mem_cons.1 hz with rfl | hz
    ·have := h.1; omega
    ·exact e2 z hz ht
   ·rename_i h2
    rw [if_neg h2]
    split at h
    ·rename_i h4
     rw [if_pos h4, if_pos ⟨Or.inr (Or.inr h4), fun hm => by have := (cnt1_mem c x.d).1 hm; rw [h.1] at this; omega⟩, h.1, ← cnt1_succ]
     obtain ⟨e1, e2, e3⟩ := numOk_nums u (c + 1) op h.2 (fun y hy => by have := ho y hy; omega)
     refine ⟨e1, fun z hz ht => ?_, by omega⟩
     rcases List.mem_cons.1 hz with rfl | hz
     ·have := h.1; omega
     ·exact e2 z hz ht
    ·rename_i h4
     rw [if_neg h4]
     split at h
     ·rename_i h3
      rw [if_pos h3]
      obtain ⟨y, op', rfl, hn, hd, h⟩ := h
      have hy := ho y (by simp)
      rw [if_neg (fun hh => hh.2 ((cnt1_mem c x.d).2 (by rw [hd]; exact hy)))]
      obtain ⟨e1, e2, e3⟩ := numOk_nums u c op' h (fun z hz => ho z (by simp [hz]))
      refine ⟨e1, fun z hz ht => ?_, e3⟩
      rcases List.mem_cons.1 hz with rfl | hz
      ·have e4 : (opnN u c (List.drop 1 (y :: op'))).1 = (opnN u c op').1 := rfl
       have := hd
       omega
      ·exact e2 z hz ht
     ·rename_i h3
      rw [if_neg h3]
      have hnt : ¬ TagI x := fun ht => by rcases ht with a | a | a <;> contradiction
      rw [if_neg (fun hh => hnt hh.1)]
      obtain ⟨e1, e2, e3⟩ := numOk_nums u c op h ho
      refine ⟨e1, fun z hz ht => ?_, e3⟩
      rcases List.mem_cons.1 hz with rfl | hz
      ·exact absurd ht hnt
      ·exact e2 z hz ht
theorem numsG_app : ∀ (u v : List Tk) (s : List Int), numsG (u ++ v) s = numsG v (numsG u s)
 | [], _, _ => rfl
 | x :: u, v, s => by
   rw [List.cons_append, numsG, numsG]
   split
   ·exact numsG_app u v _
   ·exact numsG_app u v _
theorem numsG_text (x : Tk) (s : List Int) (hk : x.k = 1) : numsG [x] s = s := by
 rw [numsG, if_neg (fun h => by have := h.1; unfold TagI at this; omega)]
 rfl
theorem numsG_step (out : List Tk) (x : Tk) (s : List Int) : numsG (normStep out x) s = numsG (out ++ [x]) s := by
 by_cases hk : x.k = 1
 ·rw [numsG_app, numsG_text x _ hk]
  by_cases h2 : x.t.size = 0
  ·rw [step_empty out x hk h2]
  ·rcases List.eq_nil_or_concat out with rfl | ⟨o, y, rfl⟩
   ·rw [step_first x hk h2]
    exact numsG_text _ _ rfl
   ·rw [List.concat_eq_append]
    by_cases hy : y.k = 1
    ·rw [step_join o y x hk h2 hy, numsG_app, numsG_app, numsG_text y _ hy]
     exact numsG_text _ _ rfl
    ·rw [step_new o y x hk h2 hy, numsG_app]
     exact numsG_text _ _ rfl
 ·rw [step_other out x hk]
theorem numsG_fold : ∀ (f out : List Tk) (s : List Int), numsG (f.foldl normStep out) s = numsG (out ++ f) s
 | [], out, s => by simp
 | x :: f, out, s => by
   rw [List.foldl_cons, numsG_fold f, numsG_app, numsG_step, ← numsG_app]
   simp
theorem numsG_norm (f : List Tk) (s : List Int) : numsG (normL f) s = numsG f s := by
 have := numsG_fold f [] s
 simpa [normL] using this
def repU (u : List Tk) : Nat → List (Nat × Nat) → List (List Tk) → List Tk
 | at_, r :: rl, t :: tg => (u.take r.1).drop at_ ++ expF t ++ repU u r.2 rl tg
 | at_, _, _ => u.drop at_
theorem itm_spl (fmt : Int) (ts : Els) : ∀ (rl : List (Nat × Nat)) (tg : List (List Tk)) (at_ : Nat), itmE (splE ts at_ rl (tg.map (tsF fmt))) = repU (itmE ts) at_ rl tg
 | [], tg, at_ => by
   cases tg <;> exact itm_dropE ts at_
 | r :: rl, [], at_ => itm_dropE ts at_
 | r :: rl, t :: tg, at_ => by
   rw [List.map_cons, splE, itmE_app, itmE_app, itm_spl fmt ts rl tg, itm_takeE, itm_dropE, itm_tsF, repU, List.drop_take]
end Go.Proofs.YtfkojnofbpdjdaaGreatDoor

namespace Go.Proofs.YtfkojnofbpdjdaaGreatDoor
set_option maxRecDepth 100000
/-! ### Tables -/
inductive Fl where
 | bare (l : List UInt8)
 | quo (l : List UInt8)
def rawFl : Fl → List UInt8
 | .bare l => l
 | .quo l => 34 :: l ++ [34]
def FlOk : Fl → Prop
 | .bare l => ∀ c ∈ l, c ≠ 34 ∧ c ≠ 44 ∧ c ≠ 10
 | .quo l => ∀ c ∈ l, c ≠ 34
def rawPre (fs : List Fl) : List UInt8 := fs.flatMap fun f => rawFl f ++ [44]
def rawPost (fs : List Fl) : List UInt8 := fs.flatMap fun f => 44 :: rawFl f
structure Rc where
 pre : List Fl
 key : List UInt8
 ts : Els
 post : List Fl
def rawRc (r : Rc) : List UInt8 := rawPre r.pre ++ (34 :: (rawE r.ts ++ (34 :: rawPost r.post)))
def stepRc (st : List Un × List UInt8) (r : Rc) : List Un × List UInt8 := (st.1 ++ [⟨st.2 ++ (10 :: (rawPre r.pre ++ [34])), r.key, r.ts⟩], 34 :: rawPost r.post)
def wText : List UInt8 := [116, 101, 120, 116]
def rawHd (a b : List Fl) : List UInt8 := rawPre a ++ (wText ++ rawPost b)
def unsSh (a b : List Fl) (rs : List Rc) : List Un × List UInt8 := rs.foldl stepRc ([], rawHd a b)
theorem unsSh_raw : ∀ (rs : List Rc) (st : List Un × List UInt8), rawD (rs.foldl stepRc st).1 ++ (rs.foldl stepRc st).2 = rawD st.1 ++ st.2 ++ rs.flatMap fun r => 10 :: rawRc r
 | [], st => by simp
 | r :: rs, st => by
   rw [List.foldl_cons, unsSh_raw rs, List.flatMap_cons]
   show rawD (st.1 ++ [_]) ++ (34 :: rawPost r.post) ++ _ = _
   rw [rawD_app]
   simp [rawD, rawRc]
/-! ### Markup -/
inductive MK where
 | byte (c : UInt8)
 | note
 | tag (t : List UInt8)
 | blk (t key : List UInt8) (ts : Els)
def noteL : List UInt8 := [60, 33, 45, 45, 32, 60, 112, 62, 32, 45, 45, 62]
def endT (t : List UInt8) : List UInt8 := 60 :: 47 :: (tagN t ++ [62])
def rawMK : MK → List UInt8
 | .byte c => [c]
 | .note => noteL
 | .tag t => 60 :: t ++ [62]
 | .blk t _ ts => 60 :: t ++ (62 :: (rawE ts ++ endT t))
def TagT (t : List UInt8) : Prop := (contL t = true ∧ blockL (tagN t) = false) ∨ ∃ u, t = u ++ [47] ∧ contL u = true ∧ blockL (tagN u) = false
def MKok : MK → Prop
 | .byte c => c ≠ 60
 | .note => True
 | .tag t => TagT t
 | .blk t _ ts => contL t = true ∧ blockL (tagN t) = true ∧ RawOk 1 ts
def stepMK (st : List Un × List UInt8) : MK → List Un × List UInt8
 | .blk t key ts => (st.1 ++ [⟨st.2 ++ (60 :: t ++ [62]), key, ts⟩], endT t)
 | x => (st.1, st.2 ++ rawMK x)
def unsMK (ms : List MK) : List Un × List UInt8 := ms.foldl stepMK ([], [])
theorem unsMK_raw : ∀ (ms : List MK) (st : List Un × List UInt8), rawD (ms.foldl stepMK st).1 ++ (ms.foldl stepMK st).2 = rawD st.1 ++ st.2 ++ ms.flatMap rawMK
 | [], st => by simp
 | x :: ms, st => by
   rw [List.foldl_cons, unsMK_raw ms, List.flatMap_cons]
   cases x with
   | blk t key ts =>
     show rawD (st.1 ++ [_]) ++ endT t ++ _ = _ ++ (60 :: t ++ (62 :: (rawE ts ++ endT t)) ++ _)
     rw [rawD_app]
     simp [rawD]
   | byte c => show rawD st.1 ++ (st.2 ++ rawMK (.byte c)) ++ _ = _; simp
   | note => show rawD st.1 ++ (st.2 ++ rawMK .note) ++ _ = _; simp
   | tag t => show rawD st.1 ++ (st.2 ++ rawMK (.tag t)) ++ _ = _; simp
theorem unsMK_data (ms : List MK) : dataD (unsMK ms).1 (unsMK ms).2 = ms.flatMap rawMK := by
 rw [dataD_eq]
 have h := unsMK_raw ms ([], [])
 rw [show rawD ([] : List Un) = [] from rfl, List.nil_append, List.nil_append] at h
 exact h
end Go.Proofs.YtfkojnofbpdjdaaGreatDoor

namespace Go.Proofs.YtfkojnofbpdjdaaGreatDoor
set_option maxRecDepth 100000
theorem index_ge (l sub : List UInt8) : -1 ≤ Lib.index l sub := by
 induction l with
 | nil => rw [Lib.index]; split <;> omega
 | cons b l ih => rw [Lib.index]; split; omega; split <;> omega
theorem idx_skip (sub s : List UInt8) (n : Nat) (hs : Lib.index s sub = (n : Int)) : ∀ (r : List UInt8), (∀ i, i < r.length → sub.isPrefixOf ((r ++ s).drop i) = false) → Lib.index (r ++ s) sub = ((r.length + n : Nat) : Int)
 | [], _ => by rw [List.nil_append, hs]; simp
 | c :: r, h => by
   have h0 := h 0 (by simp)
   rw [List.drop_zero] at h0
   have ih := idx_skip sub s n hs r (fun i hi => by
    have := h (i + 1) (by simp; omega)
    rwa [List.cons_append, List.drop_succ_cons] at this)
   rw [List.cons_append] at h0 ⊢
   rw [Lib.index, if_neg (by simp [h0]), ih, if_neg (by rw [beq_iff_eq]; omega), List.length_cons]
   omega
theorem pre_false (c d : UInt8) (p s : List UInt8) (h : c ≠ d) : List.isPrefixOf (c :: p) (d :: s) = false := by
 rw [List.isPrefixOf]
 have : (c == d) = false := by simpa using h
 rw [this, Bool.false_and]
theorem pre_pre (a : UInt8) (p s : List UInt8) : List.isPrefixOf (a :: p) (a :: s) = List.isPrefixOf p s := by
 rw [List.isPrefixOf]
 simp
theorem pre_name : ∀ (n m s : List UInt8), (∀ b ∈ n, b ≠ 62) → (∀ b ∈ m, b ≠ 62) → List.isPrefixOf (n ++ [62]) (m ++ 62 :: s) = true → n = m
 | [], [], _, _, _, _ => rfl
 | [], c :: m, s, _, hm, h => by
   exfalso
   rw [List.nil_append, List.cons_append, pre_false 62 c [] _ (fun e => hm c (by simp) e.symm)] at h
   cases h
 | c :: n, [], s, hn, _, h => by
   exfalso
   rw [List.nil_append, List.cons_append, pre_false c 62 _ _ (hn c (by simp))] at h
   cases h
 | c :: n, d :: m, s, hn, hm, h => by
   rw [List.cons_append, List.cons_append] at h
   by_cases e : c = d
   ·subst e
    rw [pre_pre] at h
    rw [pre_name n m s (fun b hb => hn b (by simp [hb])) (fun b hb => hm b (by simp [hb])) h]
   ·rw [pre_false c d _ _ e] at h
    cases h
theorem idxHead (r s : List UInt8) (i : Nat) (hi : i < r.length) : ∃ q, (r ++ s).drop i = r[i] :: q := by
 refine ⟨(r ++ s).drop (i + 1), ?_⟩
 rw [List.drop_eq_getElem_cons (by simp; omega), List.getElem_append_left hi]
theorem no_tag (nm r s : List UInt8) (i : Nat) (hi : i < r.length) (h : r[i] ≠ 60) : List.isPrefixOf (60 :: 47 :: (nm ++ [62])) ((r ++ s).drop i) = false := by
 obtain ⟨q, hq⟩ := idxHead r s i hi
 rw [hq]
 exact pre_false _ _ _ _ (fun e => h e.symm)
theorem no_all (nm r s : List UInt8) (h : ∀ b ∈ r, b ≠ 60) : ∀ i, i < r.length → List.isPrefixOf (60 :: 47 :: (nm ++ [62])) ((r ++ s).drop i) = false := fun i hi => no_tag nm r s i hi (h _ (List.getElem_mem hi))
theorem no_tail (nm r s : List UInt8) (h0 : List.isPrefixOf (60 :: 47 :: (nm ++ [62])) (60 :: r ++ s) = false) (h : ∀ b ∈ r, b ≠ 60) : ∀ i, i < (60 :: r).length → List.isPrefixOf (60 :: 47 :: (nm ++ [62])) ((60 :: r ++ s).drop i) = false := by
 intro i hi
 cases i with
 | zero => exact h0
 | succ i =>
   rw [List.cons_append, List.drop_succ_cons]
   have hil : i < r.length := by simpa using hi
   exact no_tag nm r s i hil (h _ (List.getElem_mem hil))
theorem el_no (nm : List UInt8) (hnm : ∀ b ∈ nm, b ≠ 62) (hbl : blockL nm = true) (r : List UInt8) (x : Option Tk) (s : List UInt8) (h : ElOk 1 r x) : ∀ i, i < r.length → List.isPrefixOf (60 :: 47 :: (nm ++ [62])) ((r ++ s).drop i) = false := by
 generalize hf : (1 : Int) = fmt at h
 cases h with
 | slot _ n hn =>
   refine no_all nm _ s fun b hb => ?_
   rw [List.mem_append, List.mem_cons] at hb
   rcases hb with (rfl | hb) | hb
   ·decide
   ·exact name_not n hn 60 (by simp) b hb
   ·rw [List.mem_singleton.1 hb]; decide
 | ch1 c hc => exact no_all nm _ s fun b hb => by rw [List.mem_singleton.1 hb]; exact hc.1
 | ref r c hr =>
   refine no_all nm _ s fun b hb => ?_
   simp only [refsL, List.mem_cons, List.not_mem_nil, or_false, Prod.mk.injEq] at hr
   rcases hr with ⟨rfl, _⟩ | ⟨rfl, _⟩ | ⟨rfl, _⟩ | ⟨rfl, _⟩ | ⟨rfl, _⟩ <;> revert b <;> decide
 | opn t d ht hb =>
   obtain ⟨c, q, rfl, hc⟩ := cont_head t ht
   refine no_tail nm ((c :: q) ++ [62]) s ?_ fun b hb => ?_
   ·rw [List.cons_append, List.cons_append, List.cons_append, pre_pre, pre_false _ _ _ _ (fun e => head_not c hc 47 (by simp) e.symm)]
   ·rw [List.mem_append] at hb
    rcases hb with hb | hb
    ·exact (cont_not _ ht).2 b hb
    ·rw [List.mem_singleton.1 hb]; decide
 | emp t d ht hb =>
   obtain ⟨c, q, rfl, hc⟩ := cont_head t ht
   refine no_tail nm ((c :: q) ++ [47, 62]) s ?_ fun b hb => ?_
   ·rw [List.cons_append, List.cons_append, List.cons_append, pre_pre, pre_false _ _ _ _ (fun e => head_not c hc 47 (by simp) e.symm)]
   ·rw [List.mem_append] at hb
    rcases hb with hb | hb
    ·exact (cont_not _ ht).2 b hb
    ·simp at hb
     rcases hb with rfl | rfl <;> decide
 | cls t d ht hb =>
   refine no_tail nm (47 :: t ++ [62]) s ?_ fun b hb => ?_
   ·cases hp : List.isPrefixOf (60 :: 47 :: (nm ++ [62])) (60 :: (47 :: t ++ [62]) ++ s) with
    | false => rfl
    | true =>
      exfalso
      rw [List.cons_append, pre_pre, List.cons_append, List.cons_append, pre_pre, List.append_assoc] at hp
      have := pre_name nm t s hnm (fun b hb => name_not t ht 62 (by simp) b hb) hp
      rw [this, hb] at hbl
      cases hbl
   ·rw [List.mem_append, List.mem_cons] at hb
    rcases hb with (rfl | hb) | hb
    ·decide
    ·exact name_not t ht 60 (by simp) b hb
    ·rw [List.mem_singleton.1 hb]; decide
 | ch2 c hc => cases hf
 | esc e c he => cases hf
 | cont b hb => cases hf
 | ch3 c hc => cases hf
 | two c hc => cases hf
theorem idx_end (nm : List UInt8) (hnm : ∀ b ∈ nm, b ≠ 62) (hbl : blockL nm = true) (rest : List UInt8) : ∀ (ts : Els), (∀ e ∈ ts, ElOk 1 e.1 e.2) → Lib.index (rawE ts ++ (60 :: 47 :: (nm ++ [62]) ++ rest)) (60 :: 47 :: (nm ++ [62])) = ((rawE ts).length : Int)
 | [], _ => by
   show Lib.index (60 :: (47 :: (nm ++ [62]) ++ rest)) _ = 0
   rw [Lib.index, if_pos]
   rw [List.isPrefixOf_iff_prefix]
   exact ⟨rest, rfl⟩
 | (r, x) :: ts, h => by
   have ih := idx_end nm hnm hbl rest ts (fun e he => h e (by simp [he]))
   have e := idx_skip _ _ _ ih r (el_no nm hnm hbl r x _ (h (r, x) (by simp)))
   rw [show rawE ((r, x) :: ts) = r ++ rawE ts from rfl, List.append_assoc, e, List.length_append]
end Go.Proofs.YtfkojnofbpdjdaaGreatDoor

namespace Go.Proofs.YtfkojnofbpdjdaaGreatDoor
set_option maxRecDepth 100000
open Go.RowKit
theorem isBlock_yes (s : ByteArray) (w : World) (h : blockL s.data.toList = true) : Calls Tryz.prog 40 #[.string s] w fun e w' => e = .returned (.bool true) ∧ w = w' := by
 rw [← toList_eq_data] at h
 unfold blockL wP wH wLi wTd wTitle at h
 simp only [Bool.or_eq_true] at h
 rcases h with (((h | h) | h) | h) | h
 ·go_enter Tryz.func40, Tryz.ntmps40
  go_wp2
  go_ret
  exact ⟨rfl, rfl⟩
 ·have n1 : (s.toList == [112]) = false := by rw [eq_of_beq h]; decide
  go_enter Tryz.func40, Tryz.ntmps40
  go_wp2
  go_ret
  exact ⟨rfl, rfl⟩
 ·have n1 : (s.toList == [112]) = false := by rw [eq_of_beq h]; decide
  have n2 : (s.toList == [104]) = false := by rw [eq_of_beq h]; decide
  go_enter Tryz.func40, Tryz.ntmps40
  go_wp2
  go_ret
  exact ⟨rfl, rfl⟩
 ·have n1 : (s.toList == [112]) = false := by rw [eq_of_beq h]; decide
  have n2 : (s.toList == [104]) = false := by rw [eq_of_beq h]; decide
  have n3 : (s.toList == [108, 105]) = false := by rw [eq_of_beq h]; decide
  go_enter Tryz.func40, Tryz.ntmps40
  go_wp2
  go_ret
  exact ⟨rfl, rfl⟩
 ·have n1 : (s.toList == [112]) = false := by rw [eq_of_beq h]; decide
  have n2 : (s.toList == [104]) = false := by rw [eq_of_beq h]; decide
  have n3 : (s.toList == [108, 105]) = false := by rw [eq_of_beq h]; decide
  have n4 : (s.toList == [116, 100]) = false := by rw [eq_of_beq h]; decide
  go_enter Tryz.func40, Tryz.ntmps40
  go_wp2
  go_ret
  exact ⟨rfl, rfl⟩
def OutRet (n : Nat) (bl : ByteArray) (w : World) (e : Ending) (w' : World) : Prop :=
 e = .returned (.tuple #[.int .i64 n, .string bl, .bool true]) ∧ Below w.heap.size w w'
theorem at0 (s : ByteArray) (c : UInt8) (r : List UInt8) (h : s.data.toList = c :: r) (h0 : 0 < s.size) : s[0] = c := by
 have : s.data.toList[0]'(by rw [h]; simp) = c := by simp only [h]; rfl
 exact this
theorem out_byte (s : ByteArray) (c : UInt8) (r : List UInt8) (hs : s.data.toList = c :: r) (hc : c ≠ 60) (w : World) :
 Calls Tryz.prog 143 #[.string s] w (OutRet 1 ⟨#[]⟩ w) := by
 have hsz : 0 < s.size := by rw [Lib.size_eq, hs]; simp
 have hc0 := at0 s c r hs hsz
 have n0 : ((s[0].toNat : Int) == 60) = false := beq_u8f s[0] 60 (by rw [hc0]; exact hc)
 have HB := Lib.hid (Below.refl w.heap.size w)
 clear hs hc hc0
 go_enter Tryz.func143, Tryz.ntmps143
 go_wp2_with fail
 go_ret3
 exact ⟨rfl, HB.out⟩
theorem out_note (s : ByteArray) (r : List UInt8) (m : Int) (w : World) (hm : w.cell? ⟨0, 0, none⟩ = some (.int .i64 m)) (hs : s.data.toList = noteL ++ r) (hsz : s.size ≤ 1000000) :
 Calls Tryz.prog 143 #[.string s] w (OutRet 12 ⟨#[]⟩ w) := by
 have hz : 12 ≤ s.size := by rw [Lib.size_eq, hs, List.length_append]; show 12 ≤ 12 + _; omega
 have hz0 : 0 < s.size := by omega
 have hc0 := at0 s 60 _ (show s.data.toList = 60 :: ([33, 45, 45, 32, 60, 112, 62, 32, 45, 45, 62] ++ r) from hs) hz0
 have n0 : ((s[0].toNat : Int) == 60) = true := beq_u8t s[0] 60 hc0
 have CP := Lib.hid (pfx_any s (⟨#[60, 33, 45, 45]⟩ : ByteArray) true (by rw [hs]; exact pre_yes [60, 33, 45, 45] _))
 have hex : s.extract 4 s.size = ofL ([32, 60, 112, 62, 32, 45, 45, 62] ++ r) := ext_list _ _ _ _ (by
  rw [hs, Lib.size_eq, hs, List.take_length]
  show List.drop 4 (60 :: 33 :: 45 :: 45 :: ([32, 60, 112, 62, 32, 45, 45, 62] ++ r)) = (ofL ([32, 60, 112, 62, 32, 45, 45, 62] ++ r)).data.toList
  simp [ofL])
 have CI := Lib.hid (Tryz.strings_Index (ofL ([32, 60, 112, 62, 32, 45, 45, 62] ++ r)) (⟨#[45, 45, 62]⟩ : ByteArray) m w (by rw [← hex]; simp; omega) hm)
 rw [show Lib.index (ofL ([32, 60, 112, 62, 32, 45, 45, 62] ++ r)).data.toList (⟨#[45, 45, 62]⟩ : ByteArray).data.toList = 5 by
  show Lib.index ([32, 60, 112, 62, 32, 45, 45, 62] ++ r) [45, 45, 62] = 5
  simp [Lib.index, List.isPrefixOf]] at CI
 generalize ofL ([32, 60, 112, 62, 32, 45, 45, 62] ++ r) = u at hex CI
 have HB := Lib.hid (Below.refl w.heap.size w)
 have h4 : 4 ≤ s.size := by omega
 clear hs hm hc0
 go_enter Tryz.func143, Tryz.ntmps143
 go_wp2_with (first
  | (go_at_call 130; refine (CP.out _).mono ?_; rintro e w' ⟨rfl, rfl⟩)
  | (go_at_call 144; refine (CI.out).mono ?_; rintro e w' ⟨rfl, rfl⟩))
 go_ret3
 exact ⟨rfl, HB.out⟩
theorem out_tag (s t : ByteArray) (r : List UInt8) (k : Int) (n : Nat) (m : Int) (w : World) (hm : w.cell? ⟨0, 0, none⟩ = some (.int .i64 m)) (hs : s.data.toList = 60 :: r) (hnt : Lib.hasPrefix s.data.toList [60, 33, 45, 45] = false) (hts : t.size ≤ 1000000) (hn : n ≤ 1000000)
 (CT : Calls Tryz.prog 121 #[.string s] w (TagRet k t n w)) (hb : blockL (tagN t.data.toList) = false) :
 Calls Tryz.prog 143 #[.string s] w (OutRet n ⟨#[]⟩ w) := by
 have hsz : 0 < s.size := by rw [Lib.size_eq, hs]; simp
 have hc0 := at0 s 60 _ hs hsz
 have n0 : ((s[0].toNat : Int) == 60) = true := beq_u8t s[0] 60 hc0
 have CP := Lib.hid (pfx_any s (⟨#[60, 33, 45, 45]⟩ : ByteArray) false hnt)
 have CN := Lib.hid (fun w hm => name_mk t m w hts hm)
 have CB := Lib.hid (fun w => isBlock_no (ofL (tagN t.data.toList)) w (by simpa [ofL] using hb))
 have HT := Lib.hid CT
 have HM := Lib.hid hm
 have HB := Lib.hid (Below.refl w.heap.size w)
 clear hs hm hc0 hnt hb CT
 go_enter Tryz.func143, Tryz.ntmps143
 go_wp2_with (first
  | (go_at_call 130; refine (CP.out _).mono ?_; rintro e w' ⟨rfl, rfl⟩)
  | (go_at_call 121; refine (HT.out).mono ?_; rintro e w1 ⟨rfl, hb1⟩; have HB1 := Lib.hid hb1; have HS1 := Lib.hid hb1.size; clear hb1)
  | (go_at_call 41; refine (CN.out _ (by exact below_cell0 HM.out (by exact HB1.out.alloc HS1.out _))).mono ?_; rintro e w2 ⟨rfl, n1, rfl⟩)
  | (go_at_call 40; refine (CB.out _).mono ?_; rintro e w' ⟨rfl, rfl⟩))
 go_ret3
 exact ⟨rfl, below_drewN (HB1.out.alloc HS1.out _) _⟩
theorem out_blk (s t : ByteArray) (r : List UInt8) (n : Nat) (m : Int) (w : World) (hm : w.cell? ⟨0, 0, none⟩ = some (.int .i64 m)) (hs : s.data.toList = 60 :: r) (hnt : Lib.hasPrefix s.data.toList [60, 33, 45, 45] = false) (hts : t.size ≤ 1000000) (hn : n ≤ 1000000)
 (CT : Calls Tryz.prog 121 #[.string s] w (TagRet 2 t n w)) (hb : blockL (tagN t.data.toList) = true) :
 Calls Tryz.prog 143 #[.string s] w (OutRet n (ofL (tagN t.data.toList)) w) := by
 have hsz : 0 < s.size := by rw [Lib.size_eq, hs]; simp
 have hc0 := at0 s 60 _ hs hsz
 have n0 : ((s[0].toNat : Int) == 60) = true := beq_u8t s[0] 60 hc0
 have CP := Lib.hid (pfx_any s (⟨#[60, 33, 45, 45]⟩ : ByteArray) false hnt)
 have CN := Lib.hid (fun w hm => name_mk t m w hts hm)
 have CB := Lib.hid (fun w => isBlock_yes (ofL (tagN t.data.toList)) w (by simpa [ofL] using hb))
 have HT := Lib.hid CT
 have HM := Lib.hid hm
 have HB := Lib.hid (Below.refl w.heap.size w)
 clear hs hm hc0 hnt hb CT
 generalize ofL (tagN t.data.toList) = nm at CN CB ⊢
 go_enter Tryz.func143, Tryz.ntmps143
 go_wp2_with (first
  | (go_at_call 130; refine (CP.out _).mono ?_; rintro e w' ⟨rfl, rfl⟩)
  | (go_at_call 121; refine (HT.out).mono ?_; rintro e w1 ⟨rfl, hb1⟩; have HB1 := Lib.hid hb1; have HS1 := Lib.hid hb1.size; clear hb1)
  | (go_at_call 41; refine (CN.out _ (by exact below_cell0 HM.out (by exact HB1.out.alloc HS1.out _))).mono ?_; rintro e w2 ⟨rfl, n1, rfl⟩)
  | (go_at_call 40; refine (CB.out _).mono ?_; rintro e w' ⟨rfl, rfl⟩))
 go_region_with (go_at_call 41; refine (CN.out _ ?hcell).mono ?_; (case hcell => (refine below_cell0 HM.out ?_; repeat' (first | exact HB1.out.alloc HS1.out _ | refine below_drewN ?_ _ | refine Below.drew ?_))); rintro e w2 ⟨rfl, n2, rfl⟩)
 all_goals (
  go_wp2_with fail
  go_ret3
  refine ⟨rfl, ?_⟩
  repeat' (first | exact HB1.out.alloc HS1.out _ | refine below_drewN ?_ _ | refine Below.drew ?_))
end Go.Proofs.YtfkojnofbpdjdaaGreatDoor

namespace Go.Proofs.YtfkojnofbpdjdaaGreatDoor
set_option maxRecDepth 100000
open Go.RowKit
def outN : MK → Nat
 | .byte _ => 1
 | .note => 12
 | .tag t => t.length + 2
 | .blk t _ _ => t.length + 2
def outB : MK → ByteArray
 | .blk t _ _ => ofL (tagN t)
 | _ => ⟨#[]⟩
def rawM (ms : List MK) : List UInt8 := ms.flatMap rawMK
theorem rawM_app (a b : List MK) : rawM (a ++ b) = rawM a ++ rawM b := by simp [rawM]
def KeyOk : Nat → List MK → Prop
 | _, [] => True
 | k, .blk _ key _ :: ms => key = Lib.decDigits (k + 1) ∧ k < 99 ∧ KeyOk (k + 1) ms
 | k, _ :: ms => KeyOk k ms
def blkN : List MK → Nat
 | [] => 0
 | .blk _ _ _ :: ms => blkN ms + 1
 | _ :: ms => blkN ms
theorem blkN_app : ∀ (a b : List MK), blkN (a ++ b) = blkN a + blkN b
 | [], b => by simp [blkN]
 | x :: a, b => by
   have ih := blkN_app a b
   cases x <;> (simp only [List.cons_append, blkN]; omega)
theorem keyOk_drop : ∀ (a b : List MK) (k : Nat), KeyOk k (a ++ b) → KeyOk (k + blkN a) b
 | [], b, k, h => h
 | x :: a, b, k, h => by
   cases x with
   | byte c => exact keyOk_drop a b k h
   | note => exact keyOk_drop a b k h
   | tag t => exact keyOk_drop a b k h
   | blk t key ts =>
     have := keyOk_drop a b (k + 1) h.2.2
     rw [show k + blkN (.blk t key ts :: a) = k + 1 + blkN a by show k + (blkN a + 1) = _; omega]
     exact this
theorem size_ofL (l : List UInt8) : (ofL l).size = l.length := by rw [Lib.size_eq]; simp [ofL]
theorem tag_len (t : List UInt8) : (tagN t).length ≤ t.length := by
 obtain ⟨r, h⟩ := tagN_pre t
 have := congrArg List.length h
 rw [List.length_append] at this
 omega
theorem no_note (c : UInt8) (r : List UInt8) (h : c ≠ 33) : Lib.hasPrefix (60 :: c :: r) [60, 33, 45, 45] = false := by
 unfold Lib.hasPrefix
 rw [List.isPrefixOf, List.isPrefixOf]
 have : (33 == c) = false := by simpa using fun e : 33 = c => h e.symm
 simp [this]
theorem out_any (x : MK) (s : ByteArray) (r : List UInt8) (m : Int) (w : World) (hm : w.cell? ⟨0, 0, none⟩ = some (.int .i64 m)) (hx : MKok x) (hs : s.data.toList = rawMK x ++ r) (hsz : s.size ≤ 1000000) :
 Calls Tryz.prog 143 #[.string s] w (OutRet (outN x) (outB x) w) := by
 have hsl : s.size = (rawMK x).length + r.length := by rw [Lib.size_eq, hs, List.length_append]
 cases x with
 | byte c => exact out_byte s c r hs hx w
 | note => exact out_note s r m w hm hs hsz
 | tag t =>
   have hl : t.length + 2 ≤ 1000000 := by
    have : (rawMK (.tag t)).length = t.length + 2 := by simp [rawMK]
    omega
   rcases hx with ⟨hc, hb⟩ | ⟨u, rfl, hc, hb⟩
   ·obtain ⟨c, q, hq, hh⟩ := cont_head t hc
    have h1 : s.data.toList = 60 :: (ofL t).data.toList ++ 62 :: r := by rw [hs]; simp [rawMK, ofL]
    have CT := tag_opn s (ofL t) r m w hm h1 hsz (by simpa [ofL] using hc)
    rw [size_ofL] at CT
    exact out_tag s (ofL t) _ 2 (t.length + 2) m w hm h1 (by rw [h1]; simp only [ofL, hq]; exact no_note c _ (head_not c hh 33 (by simp))) (by rw [size_ofL]; omega) hl CT (by simpa [ofL] using hb)
   ·obtain ⟨c, q, hq, hh⟩ := cont_head u hc
    have h1 : s.data.toList = 60 :: (ofL u).data.toList ++ 47 :: 62 :: r := by rw [hs]; simp [rawMK, ofL]
    have CT := tag_emp s (ofL u) r m w hm h1 hsz (by simpa [ofL] using hc)
    rw [size_ofL] at CT
    have hul : (u ++ [47]).length = u.length + 1 := by simp
    have e : outN (.tag (u ++ [47])) = u.length + 3 := by show (u ++ [47]).length + 2 = _; omega
    rw [e]
    exact out_tag s (ofL u) _ 4 (u.length + 3) m w hm h1 (by rw [h1]; simp only [ofL, hq]; exact no_note c _ (head_not c hh 33 (by simp))) (by rw [size_ofL]; omega) (by omega) CT (by simpa [ofL] using hb)
 | blk t key ts =>
   have hl : t.length + 2 ≤ 1000000 := by
    have : t.length + 2 ≤ (rawMK (.blk t key ts)).length := by simp [rawMK]
    omega
   obtain ⟨hc, hb, _⟩ := hx
   obtain ⟨c, q, hq, hh⟩ := cont_head t hc
   have h1 : s.data.toList = 60 :: (ofL t).data.toList ++ 62 :: (rawE ts ++ endT t ++ r) := by rw [hs]; simp [rawMK, ofL]
   have CT := tag_opn s (ofL t) _ m w hm h1 hsz (by simpa [ofL] using hc)
   rw [size_ofL] at CT
   have := out_blk s (ofL t) _ (t.length + 2) m w hm h1 (by rw [h1]; simp only [ofL, hq]; exact no_note c _ (head_not c hh 33 (by simp))) (by rw [size_ofL]; omega) hl CT (by simpa [ofL] using hb)
   rw [show (ofL t).data.toList = t by simp [ofL]] at this
   exact this
/-! ### Where one stands in the document -/
theorem drop_all (a b : List UInt8) : (a ++ b).drop a.length = b := List.drop_left
theorem ext_rest (data : ByteArray) (a b : List UInt8) (h : data.data.toList = a ++ b) : data.extract a.length data.size = ofL b := ext_list _ _ _ _ (by
 rw [h, Lib.size_eq, h, List.take_length, drop_all]
 simp [ofL])
theorem ext_mid (data : ByteArray) (a b c : List UInt8) (n : Nat) (h : data.data.toList = a ++ b ++ c) (hn : a.length + b.length = n) : data.extract a.length n = ofL b := ext_list _ _ _ _ (by
 rw [mid_of h rfl hn]
 simp [ofL])
theorem stepMK_other (st : List Un × List UInt8) (x : MK) (h : ∀ t k ts, x ≠ .blk t k ts) : stepMK st x = (st.1, st.2 ++ rawMK x) := by
 cases x with
 | blk t k ts => exact absurd rfl (h t k ts)
 | byte c => rfl
 | note => rfl
 | tag t => rfl
theorem unsMK_snoc (ms : List MK) (x : MK) : unsMK (ms ++ [x]) = stepMK (unsMK ms) x := by
 unfold unsMK
 rw [List.foldl_append]
 rfl
theorem unsMK_len (ms : List MK) : (unsMK ms).1.length = blkN ms := by
 suffices h : ∀ (ms : List MK) (st : List Un × List UInt8), (ms.foldl stepMK st).1.length = st.1.length + blkN ms by
  have := h ms ([], [])
  unfold unsMK
  simpa using this
 intro ms
 induction ms with
 | nil => intro st; simp [blkN]
 | cons x ms ih =>
   intro st
   rw [List.foldl_cons, ih]
   cases x with
   | byte c => simp [stepMK, blkN]
   | note => simp [stepMK, blkN]
   | tag t => simp [stepMK, blkN]
   | blk t key ts => simp [stepMK, blkN]; omega
theorem rawM_split (ms : List MK) : rawM ms = rawD (unsMK ms).1 ++ (unsMK ms).2 := by
 have := unsMK_raw ms ([], [])
 rw [show rawD ([] : List Un) = [] from rfl, List.nil_append, List.nil_append] at this
 exact this.symm
end Go.Proofs.YtfkojnofbpdjdaaGreatDoor

namespace Go.Proofs.YtfkojnofbpdjdaaGreatDoor
set_option maxRecDepth 100000
open Go.RowKit
theorem list_any {B g : Nat} {data : ByteArray} {fr : Nat} {lv : Value} {ps : List Pt} {w : World} (h : PsB B g data fr lv ps w)
 (h1 : fr ≤ data.size) (hd : data.size ≤ 100000000) (hl : ps.length ≤ 1000000) :
 Calls Tryz.prog 147 #[.pointer (some ⟨g, 0, none⟩)] w (fun e w' => ∃ v, e = .returned v ∧ OwnE 52 ptC 3 w' B v (ps ++ [⟨false, ⟨#[]⟩, data.extract fr data.size⟩]) ∧ Below B w w') := by
 have hBg := Nat.le_trans h.lt (Nat.le_of_lt h.gsz)
 obtain ⟨q0, q1, q2, _⟩ := bx3 h.box
 obtain ⟨A0, c0, rfl⟩ := own_shape h.own
 have HA := Lib.hid (h.drew.alloc (.cells (([⟨false, ⟨#[]⟩, data.extract fr data.size⟩] : List Pt).flatMap ptC).toArray 52))
 have hz : B ≤ w.drew.heap.size := hBg
 have p2 : (w.alloc (.cells #[.bool false, .string ⟨#[]⟩, .string (data.extract fr data.size)] 52)).cell? ⟨g, 2, none⟩ = some (.slice A0 ps.length c0) := (bx3 HA.out.box).2.2.1
 clear h
 go_enter Tryz.func147, Tryz.ntmps147
 go_wp2_with fail
 go_region_law (first
  | (refine step_appE rfl (.tmp 6) (.tmp 17) 39 52 rfl Tryz.underlying39 _ ptC 3 40 pt_info rfl (by decide) ptC_three ptC_one B (.slice A0 ps.length c0) ps (by simp [Act.eval]) (by exact HA.out.own) (.slice (some ⟨w.drew.heap.size, 0, none⟩) 1 1) [⟨false, ⟨#[]⟩, data.extract fr data.size⟩] (by simp [Act.eval]) (by exact rdE_litP ptC 3 ptC_three _ _ rfl _ _ rfl _ _ rfl (by decide)) (by simp; omega) (by decide) (by simp; omega) ?_
     intro v7 w7 hown7 hbel7 hgr7 hat7
     obtain ⟨A7, c7, hv7⟩ := own_shape hown7
     rw [show (ps ++ [(⟨false, ⟨#[]⟩, data.extract fr data.size⟩ : Pt)]).length = ps.length + 1 by simp] at hv7
     subst hv7
     have HO7 := Lib.hid hown7
     have HB7 := Lib.hid (hbel7 B w (Nat.le_refl _) ((Below.refl B w).drew.alloc hz _))
     clear hown7 hbel7 hgr7 hat7))
 all_goals (
  go_wp2_with fail
  go_ret
  exact ⟨_, rfl, HO7.out, HB7.out⟩)
end Go.Proofs.YtfkojnofbpdjdaaGreatDoor

namespace Go.Proofs.YtfkojnofbpdjdaaGreatDoor
set_option maxRecDepth 100000
open Go.RowKit
def PtsRet (ps : List Pt) (w : World) (e : Ending) (w' : World) : Prop :=
 ∃ v, e = .returned (.tuple #[v, .int .i64 0, .int .i64 0]) ∧ OwnE 52 ptC 3 w' w.heap.size v ps ∧ Below w.heap.size w w'
theorem prsD_snoc (us : List Un) (u : Un) : prsD (us ++ [u]) = prsD us ++ [⟨false, ofL [], ofL u.sk⟩, ⟨true, ofL u.key, ofL (rawE u.ts)⟩] := by
 rw [prsD_app]
 rfl
theorem rawD_snoc (us : List Un) (u : Un) : rawD (us ++ [u]) = rawD us ++ (u.sk ++ rawE u.ts) := by
 rw [rawD_app]
 simp [rawD]
theorem toList_ofL (l : List UInt8) : (ofL l).toList = l := by
 rw [toList_eq_data]
 simp [ofL]
theorem keyOk_len : ∀ (ms : List MK) (k : Nat), KeyOk k ms → k ≤ 99 → k + blkN ms ≤ 99
 | [], k, _, h => h
 | x :: ms, k, hk, h => by
   cases x with
   | byte c => exact keyOk_len ms k hk h
   | note => exact keyOk_len ms k hk h
   | tag t => exact keyOk_len ms k hk h
   | blk t key ts =>
     have := keyOk_len ms (k + 1) hk.2.2 (by have := hk.2.1; omega)
     show k + (blkN ms + 1) ≤ 99
     omega
theorem out_len (x : MK) (h : ∀ t k ts, x ≠ .blk t k ts) : outN x = (rawMK x).length ∧ outB x = ⟨#[]⟩ := by
 cases x with
 | blk t k ts => exact absurd rfl (h t k ts)
 | byte c => exact ⟨rfl, rfl⟩
 | note => exact ⟨rfl, rfl⟩
 | tag t => exact ⟨by simp [outN, rawMK], rfl⟩
theorem blkN_snoc (dn : List MK) (x : MK) (h : ∀ t k ts, x ≠ .blk t k ts) : blkN (dn ++ [x]) = blkN dn := by
 rw [blkN_app]
 cases x with
 | blk t k ts => exact absurd rfl (h t k ts)
 | byte c => rfl
 | note => rfl
 | tag t => rfl
theorem mkSplit_any (data : ByteArray) (ms : List MK) (m : Int) (w : World) (hm : w.cell? ⟨0, 0, none⟩ = some (.int .i64 m)) (hd : data.data.toList = rawM ms) (hok : ∀ x ∈ ms, MKok x) (hk : KeyOk 0 ms) (hsz : data.size ≤ 65536) :
 Calls Tryz.prog 94 #[.string data] w (PtsRet (ptsD (unsMK ms).1 (unsMK ms).2) w) := by
 obtain ⟨R, HRR⟩ : ∃ R : Ending → World → Prop, Hid (R = PtsRet (ptsD (unsMK ms).1 (unsMK ms).2) w) := ⟨_, rfl⟩
 rw [← HRR.out]
 have CP := Lib.hid (fun w => newParts_any data w)
 have HD := Lib.hid hd
 have HOK := Lib.hid hok
 have HK := Lib.hid hk
 have HM := Lib.hid hm
 clear hd hok hk hm
 go_enter Tryz.func94, Tryz.ntmps94
 go_wp2_with (go_at_call 142; refine (CP.out _).mono ?_; rintro e w0 ⟨g, rfl, hp0, hb0⟩; have HP0 := Lib.hid hp0; have HB0 := Lib.hid hb0; clear hp0 hb0)
 go_loopg [3, 6] ms.length (fun gk av bv wr => ∃ dn td, Hid (ms = dn ++ td) ∧ av = .int .i64 ((rawM dn).length : Nat) ∧ bv = .int .i64 (blkN dn : Nat) ∧ (∃ lv, Hid (PsB w.heap.size g data (rawD (unsMK dn).1).length lv (prsD (unsMK dn).1) wr)) ∧ Hid (Below w.heap.size w wr) ∧ td.length ≤ gk)
 case atStart => exact ⟨[], ms, rfl, rfl, rfl, ⟨_, HP0.out⟩, HB0.out, Nat.le_refl _⟩
 case round =>
  obtain ⟨dn, td, HE, rfl, rfl, ⟨lv, HP⟩, HB, hgk⟩ := hrel
  clear HP0 HB0
  cases td with
  | nil =>
    have he : ms = dn := by have := HE.out; rwa [List.append_nil] at this
    subst he
    have hds : (rawM ms).length = data.size := by rw [Lib.size_eq, HD.out]
    have hpl := prsD_len (unsMK ms).1
    have hfr : (rawD (unsMK ms).1).length ≤ data.size := by
     rw [← hds, rawM_split, List.length_append]; omega
    have hbn : blkN ms ≤ 65536 := by have := keyOk_len ms 0 HK.out (by decide); omega
    rw [unsMK_len] at hpl
    have hex : data.extract (rawD (unsMK ms).1).length data.size = ofL (unsMK ms).2 := ext_rest _ _ _ (by rw [HD.out, rawM_split])
    have HC := Lib.hid (list_any HP.out hfr (by omega) (by omega))
    rw [hex, show (⟨#[]⟩ : ByteArray) = ofL [] from rfl, ← ptsD_eq] at HC
    clear hex hfr hpl hbn
    rw [hds]
    clear hds
    go_wp2_with (go_at_call 147; refine (HC.out).mono ?_; rintro e w1 ⟨v, rfl, ho, hb1⟩; have HO := Lib.hid ho; have HB1 := Lib.hid (HB.out.trans hb1); obtain ⟨A, c, rfl⟩ := own_shape ho; clear ho hb1)
    go_ret3
    rw [HRR.out]
    exact ⟨_, rfl, HO.out, HB1.out⟩
  | cons x td =>
    have hx := HOK.out x (by rw [HE.out]; simp)
    have hko := keyOk_drop dn (x :: td) 0 (by rw [← HE.out]; exact HK.out)
    have hdd : data.data.toList = rawM dn ++ (rawMK x ++ rawM td) := by rw [HD.out, HE.out, rawM_app]; rfl
    have hp : (rawM dn).length + (rawMK x).length + (rawM td).length = data.size := by rw [Lib.size_eq, hdd]; simp; omega
    have hr0 : 0 < (rawMK x).length := by cases x <;> simp [rawMK, noteL]
    have hex : data.extract (rawM dn).length data.size = ofL (rawMK x ++ rawM td) := ext_rest _ _ _ hdd
    have HO := Lib.hid (fun w hm => out_any x (ofL (rawMK x ++ rawM td)) (rawM td) m w hm hx (by simp [ofL]) (by rw [size_ofL, List.length_append]; omega))
    have hme : dn ++ [x] ++ td = dn ++ x :: td := by simp
    have hrs : rawM (dn ++ [x]) = rawM dn ++ rawMK x := by rw [rawM_app]; simp [rawM]
    by_cases hb : ∃ t k ts, x = .blk t k ts
    ·obtain ⟨t, key, ts, rfl⟩ := hb
     obtain ⟨hc, hbl, hraw⟩ := hx
     obtain ⟨hkey, hk99, _⟩ := hko
     have hrl : (rawMK (.blk t key ts)).length = (t.length + 2) + (rawE ts).length + (endT t).length := by simp [rawMK]; omega
     have hrd : (rawE ts).length ≤ 65536 := by omega
     have hpl2 : (rawM dn ++ (60 :: t ++ [62])).length = (rawM dn).length + (t.length + 2) := by simp
     have hX2 : data.extract ((rawM dn).length + (t.length + 2)) data.size = ofL (rawE ts ++ (endT t ++ rawM td)) := by
      have := ext_rest data (rawM dn ++ (60 :: t ++ [62])) (rawE ts ++ (endT t ++ rawM td)) (by rw [hdd]; simp [rawMK])
      rw [hpl2] at this
      exact this
     have hX3 : data.extract ((rawM dn).length + (t.length + 2)) ((rawM dn).length + (t.length + 2) + (rawE ts).length) = ofL (rawE ts) := by
      have := ext_mid data (rawM dn ++ (60 :: t ++ [62])) (rawE ts) (endT t ++ rawM td) ((rawM dn).length + (t.length + 2) + (rawE ts).length) (by rw [hdd]; simp [rawMK]) (by simp)
      rw [hpl2] at this
      exact this
     have hsp := rawM_split dn
     have hX4 : data.extract (rawD (unsMK dn).1).length ((rawM dn).length + (t.length + 2)) = ofL ((unsMK dn).2 ++ (60 :: t ++ [62])) :=
      ext_mid data (rawD (unsMK dn).1) ((unsMK dn).2 ++ (60 :: t ++ [62])) (rawE ts ++ (endT t ++ rawM td)) _ (by rw [hdd, hsp]; simp [rawMK]) (by rw [hsp]; simp; omega)
     have hfr : (rawD (unsMK dn).1).length ≤ (rawM dn).length + (t.length + 2) := by rw [hsp, List.length_append]; omega
     have hnm : ∀ b ∈ tagN t, b ≠ 62 := fun b hb => by
      obtain ⟨r, hr⟩ := tagN_pre t
      exact (cont_not _ hc).1 b (by rw [hr]; exact List.mem_append.2 (.inl hb))
     have hidx : Lib.index (ofL (rawE ts ++ (endT t ++ rawM td))).data.toList (ofL (endT t)).data.toList = ((rawE ts).length : Int) := by
      rw [show ∀ l, (ofL l).data.toList = l from fun l => by simp [ofL], show ∀ l, (ofL l).data.toList = l from fun l => by simp [ofL]]
      exact idx_end (tagN t) hnm hbl (rawM td) ts hraw.els
     have HI := Lib.hid (fun w hm => Tryz.strings_Index (ofL (rawE ts ++ (endT t ++ rawM td))) (ofL (endT t)) m w (by rw [size_ofL]; simp; omega) hm)
     rw [hidx] at HI
     have HDC := Lib.hid (fun w hm => mkDecode_any (ofL (rawE ts)) ts m w hm ⟨by simp [ofL], hraw.els, hraw.len, by rw [size_ofL]; omega⟩ hraw.num)
     have hbn := keyOk_len ms 0 HK.out (by decide)
     have HIT := Lib.hid (fun w => Tryz.strconv_Itoa_small (blkN dn + 1) (by omega) w)
     rw [show (⟨(Lib.decDigits (blkN dn + 1)).toArray⟩ : ByteArray) = ofL key by rw [hkey, Nat.zero_add]; rfl, show ((blkN dn + 1 : Nat) : Int) = (blkN dn : Int) + 1 from rfl] at HIT
     have hpl := prsD_len (unsMK dn).1
     rw [unsMK_len] at hpl
     have HU := Lib.hid (fun (lv : Value) (w' : World) (h : PsB w.heap.size g data (rawD (unsMK dn).1).length lv (prsD (unsMK dn).1) w') => unit_any ((rawM dn).length + (t.length + 2)) ((rawM dn).length + (t.length + 2) + (rawE ts).length) (ofL key) h hfr (by omega) (by omega) (by omega) (by omega))
     rw [hX4, hX3, show (⟨#[]⟩ : ByteArray) = ofL [] from rfl, ← prsD_snoc (unsMK dn).1 ⟨(unsMK dn).2 ++ (60 :: t ++ [62]), key, ts⟩, show (((rawM dn).length + (t.length + 2) + (rawE ts).length : Nat) : Int) = ((rawM dn).length : Int) + ((t.length + 2 : Nat) : Int) + ((rawE ts).length : Int) by omega, show (((rawM dn).length + (t.length + 2) : Nat) : Int) = ((rawM dn).length : Int) + ((t.length + 2 : Nat) : Int) by omega] at HU
     have HST : Hid (unsMK (dn ++ [.blk t key ts]) = ((unsMK dn).1 ++ [⟨(unsMK dn).2 ++ (60 :: t ++ [62]), key, ts⟩], endT t)) := by show _ = _; rw [unsMK_snoc]; rfl
     have HFR : Hid ((rawD (unsMK (dn ++ [.blk t key ts])).1).length = (rawM dn).length + (t.length + 2) + (rawE ts).length) := by
      show _ = _
      rw [HST.out, rawD_snoc, hsp]
      simp
      omega
     have HSUM : Hid (((rawM dn).length : Int) + ((t.length + 2 : Nat) : Int) + ((rawE ts).length : Int) + ((endT t).length : Int) = ((rawM (dn ++ [.blk t key ts])).length : Nat)) := by show _ = _; rw [hrs, List.length_append, hrl]; omega
     have HBN : Hid ((blkN dn : Int) + 1 = ((blkN (dn ++ [.blk t key ts]) : Nat) : Int)) := by show _ = _; rw [blkN_app]; rfl
     have HME : Hid (ms = dn ++ [.blk t key ts] ++ td) := by show _ = _; rw [hme]; exact HE.out
     have hnz : (ofL (tagN t)).toList.isEmpty = false := by
      rw [toList_ofL]
      cases htn : tagN t with
      | nil => rw [htn] at hbl; revert hbl; decide
      | cons c q => rfl
     have hpat : (⟨#[60, 47]⟩ : ByteArray) ++ ofL (tagN t) ++ (⟨#[62]⟩ : ByteArray) = ofL (endT t) := by
      apply ByteArray.ext
      apply Array.toList_inj.1
      simp [ofL, endT]
     have hel : (ofL (endT t)).size = (endT t).length := size_ofL _
     have hnms : (ofL (tagN t)).size ≤ 65536 := by rw [size_ofL]; have := tag_len t; omega
     have hps : ((rawM dn).length : Int) < (data.size : Int) := by omega
     have hps2 : (rawM dn).length ≤ data.size := by omega
     have hps3 : (rawM dn).length + (t.length + 2) ≤ data.size := by omega
     have hps4 : (rawM dn).length + (t.length + 2) + (rawE ts).length ≤ data.size := by omega
     have hps5 : (rawM dn).length + (t.length + 2) + (rawE ts).length + (endT t).length ≤ data.size := by omega
     have hgk2 : td.length + 1 ≤ gk := hgk
     have hbn2 : blkN dn ≤ 99 := by omega
     rw [show outN (.blk t key ts) = t.length + 2 from rfl, show outB (.blk t key ts) = ofL (tagN t) from rfl] at HO
     clear hrs hme hr0 hdd hkey hk99 hc hbl hraw hrl hrd hX4 hfr hnm hidx hbn hpl hsp hp hpl2
     generalize ofL (rawMK (.blk t key ts) ++ rawM td) = u1 at hex HO
     generalize ofL (rawE ts ++ (endT t ++ rawM td)) = u2 at hX2 HI
     generalize ofL (rawE ts) = u3 at hX3 HDC
     generalize ofL (tagN t) = nm at HO hnz hpat hnms
     generalize ofL (endT t) = pat at HI hpat hel
     generalize t.length + 2 = n at *
     generalize (rawE ts).length = l at *
     generalize (endT t).length = le at *
     go_wp2_with (first
      | (go_at_call 143; refine (HO.out _ (by exact below_cell0 HM.out HB.out)).mono ?_; rintro e w1 ⟨rfl, hb1⟩; have HP1 := Lib.hid (HP.out.below hb1); have HB1 := Lib.hid (HB.out.trans (hb1.mono HB.out.size)); clear hb1)
      | (go_at_call 144; refine (HI.out _ (by exact below_cell0 HM.out HB1.out)).mono ?_; rintro e w' ⟨rfl, rfl⟩)
      | (go_at_call 13; refine (HDC.out _ (by exact below_cell0 HM.out HB1.out)).mono ?_; rintro e w2 ⟨v2, rfl, ho2, hb2⟩; obtain ⟨A2, c2, rfl⟩ := own_shape ho2; have HP2 := Lib.hid (HP1.out.below hb2); have HB2 := Lib.hid (HB1.out.trans (hb2.mono HB1.out.size)); clear ho2 hb2)
      | (go_at_call 146; refine (HIT.out _).mono ?_; rintro e w' ⟨rfl, rfl⟩)
      | (go_at_call 145; refine (HU.out _ _ (by exact HP2.out)).mono ?_; rintro e w3 ⟨⟨v3, rfl⟩, lv3, hp3, hb3⟩; have HP3 := Lib.hid hp3; have HB3 := Lib.hid (HB2.out.trans hb3); clear hp3 hb3))
     rw [HSUM.out, HBN.out]
     go_roundg td.length
     case measure => omega
     case rel =>
      refine ⟨dn ++ [MK.blk t key ts], td, HME.out, rfl, rfl, ⟨lv3, ?_⟩, HB3.out, Nat.le_refl _⟩
      rw [HFR.out, HST.out]
      exact HP3.out
    ·have hnb : ∀ t k ts, x ≠ .blk t k ts := fun t k ts e => hb ⟨t, k, ts, e⟩
     obtain ⟨o1, o2⟩ := out_len x hnb
     rw [o1, o2] at HO
     have HBN := Lib.hid (blkN_snoc dn x hnb)
     have HST : Hid (unsMK (dn ++ [x]) = ((unsMK dn).1, (unsMK dn).2 ++ rawMK x)) := by show _ = _; rw [unsMK_snoc, stepMK_other _ _ hnb]
     have HSUM : Hid (((rawM dn).length : Int) + ((rawMK x).length : Int) = ((rawM (dn ++ [x])).length : Nat)) := by show _ = _; rw [hrs, List.length_append]; simp
     have HME : Hid (ms = dn ++ [x] ++ td) := by show _ = _; rw [hme]; exact HE.out
     have hps : ((rawM dn).length : Int) < (data.size : Int) := by omega
     have hps2 : (rawM dn).length ≤ data.size := by omega
     have hln : (rawMK x).length ≤ 65536 := by omega
     have hgk2 : td.length + 1 ≤ gk := hgk
     clear hrs hme hb hnb o1 o2 hr0 hko hx hdd
     generalize ofL (rawMK x ++ rawM td) = u at hex HO
     generalize (rawMK x).length = ln at hp hln HO HSUM
     go_wp2_with (go_at_call 143; refine (HO.out _ (by exact below_cell0 HM.out HB.out)).mono ?_; rintro e w1 ⟨rfl, hb1⟩; have HP1 := Lib.hid (HP.out.below hb1); have HB1 := Lib.hid (HB.out.trans (hb1.mono HB.out.size)); clear hb1)
     rw [HSUM.out]
     go_roundg td.length
     case measure => omega
     case rel =>
      refine ⟨dn ++ [x], td, HME.out, rfl, by rw [HBN.out], ⟨lv, ?_⟩, HB1.out, Nat.le_refl _⟩
      rw [HST.out]
      exact HP1.out
end Go.Proofs.YtfkojnofbpdjdaaGreatDoor

namespace Go.Proofs.YtfkojnofbpdjdaaGreatDoor
set_option maxRecDepth 100000
abbrev Prs := List (UInt8 × ByteArray)
def lk : Prs → UInt8 → Option ByteArray
 | [], _ => none
 | (b, r) :: ps, c => if b = c then some r else lk ps c
def repB (ps : Prs) (c : UInt8) : List UInt8 := match lk ps c with
 | none => [c]
 | some r => r.data.toList
def repL (ps : Prs) (l : List UInt8) : List UInt8 := l.flatMap (repB ps)
def dB (ps : Prs) (c : UInt8) : Nat := match lk ps c with
 | none => 0
 | some r => r.size - 1
def dL (ps : Prs) : List UInt8 → Nat
 | [] => 0
 | c :: l => dB ps c + dL ps l
def PrsOk (ps : Prs) : Prop := (∀ p ∈ ps, 2 ≤ p.2.size ∧ p.2.size ≤ 100) ∧ (ps.map (·.1)).Nodup
theorem lk_mem : ∀ (ps : Prs) (c : UInt8) (r : ByteArray), lk ps c = some r → (c, r) ∈ ps
 | [], _, _, h => by cases h
 | (b, q) :: ps, c, r, h => by
   rw [lk] at h
   split at h
   ·rename_i e
    injection h with h
    subst e h
    simp
   ·exact List.mem_cons_of_mem _ (lk_mem ps c r h)
theorem lk_none : ∀ (ps : Prs) (c : UInt8), c ∉ ps.map (·.1) → lk ps c = none
 | [], _, _ => rfl
 | (b, q) :: ps, c, h => by
   rw [List.map_cons, List.mem_cons, not_or] at h
   rw [lk, if_neg (fun e => h.1 e.symm)]
   exact lk_none ps c h.2
theorem lk_some : ∀ (ps : Prs) (c : UInt8), c ∈ ps.map (·.1) → ∃ r, lk ps c = some r
 | [], _, h => by simp at h
 | (b, q) :: ps, c, h => by
   rw [lk]
   split
   ·exact ⟨_, rfl⟩
   ·rename_i hne
    rw [List.map_cons, List.mem_cons] at h
    exact lk_some ps c (h.resolve_left fun e => hne e.symm)
theorem rep_len (ps : Prs) (h : ∀ p ∈ ps, 2 ≤ p.2.size) : ∀ l : List UInt8, (repL ps l).length = l.length + dL ps l
 | [] => rfl
 | c :: l => by
   have ih := rep_len ps h l
   rw [show repL ps (c :: l) = repB ps c ++ repL ps l from rfl, List.length_append, ih, List.length_cons, dL]
   unfold repB dB
   cases hk : lk ps c with
   | none => simp; omega
   | some r =>
     have := h _ (lk_mem ps c r hk)
     simp only at this ⊢
     rw [← Lib.size_eq]
     omega
theorem dL_app (ps : Prs) : ∀ a b : List UInt8, dL ps (a ++ b) = dL ps a + dL ps b
 | [], b => by simp [dL]
 | c :: a, b => by rw [List.cons_append, dL, dL, dL_app ps a b, Nat.add_assoc]
theorem repL_app (ps : Prs) (a b : List UInt8) : repL ps (a ++ b) = repL ps a ++ repL ps b := by simp [repL]
theorem rep_same (ps : Prs) : ∀ l : List UInt8, (∀ c ∈ l, lk ps c = none) → repL ps l = l
 | [], _ => rfl
 | c :: l, h => by
   rw [show repL ps (c :: l) = repB ps c ++ repL ps l from rfl, rep_same ps l fun d hd => h d (by simp [hd])]
   unfold repB
   rw [h c (by simp)]
   rfl
theorem dL_zero (ps : Prs) (hp : ∀ p ∈ ps, 2 ≤ p.2.size) : ∀ l : List UInt8, dL ps l = 0 → ∀ c ∈ l, lk ps c = none
 | [], _, c, hc => by simp at hc
 | d :: l, h, c, hc => by
   rw [dL] at h
   rcases List.mem_cons.1 hc with rfl | hc
   ·cases hk : lk ps c with
    | none => rfl
    | some r =>
      have := hp _ (lk_mem ps c r hk)
      unfold dB at h
      rw [hk] at h
      simp only at this h
      omega
   ·exact dL_zero ps hp l (by omega) c hc
def cntL (ps : Prs) (l : List UInt8) : List UInt8 → Nat
 | [] => 0
 | x :: ks => l.count x * dB ps x + cntL ps l ks
theorem cntL_app (ps : Prs) (l : List UInt8) : ∀ a b : List UInt8, cntL ps l (a ++ b) = cntL ps l a + cntL ps l b
 | [], b => by simp [cntL]
 | c :: a, b => by rw [List.cons_append, cntL, cntL, cntL_app ps l a b, Nat.add_assoc]
def hitL (ps : Prs) (c : UInt8) : List UInt8 → Nat
 | [] => 0
 | x :: ks => (if x = c then dB ps x else 0) + hitL ps c ks
theorem cntL_cons (ps : Prs) (c : UInt8) (l : List UInt8) : ∀ ks : List UInt8, cntL ps (c :: l) ks = cntL ps l ks + hitL ps c ks
 | [] => rfl
 | x :: ks => by
   rw [cntL, cntL, hitL, cntL_cons ps c l ks, List.count_cons]
   by_cases h : c = x
   ·subst h
    simp [Nat.add_mul]
    omega
   ·have : (c == x) = false := by simpa using h
    rw [this, if_neg (by decide), if_neg (fun e => h e.symm), Nat.add_zero]
    omega
theorem hitL_not (ps : Prs) (c : UInt8) : ∀ ks : List UInt8, c ∉ ks → hitL ps c ks = 0
 | [], _ => rfl
 | x :: ks, h => by
   rw [List.mem_cons, not_or] at h
   rw [hitL, if_neg (fun e => h.1 e.symm), hitL_not ps c ks h.2]
theorem hitL_in (ps : Prs) (c : UInt8) : ∀ ks : List UInt8, ks.Nodup → c ∈ ks → hitL ps c ks = dB ps c
 | [], _, h => by simp at h
 | x :: ks, hn, h => by
   obtain ⟨h1, h2⟩ := List.nodup_cons.1 hn
   rw [hitL]
   by_cases e : x = c
   ·subst e
    rw [if_pos rfl, hitL_not ps x ks h1, Nat.add_zero]
   ·rw [if_neg e, hitL_in ps c ks h2 ((List.mem_cons.1 h).resolve_left fun e2 => e e2.symm), Nat.zero_add]
theorem cntL_all (ps : Prs) (ks : List UInt8) (hn : ks.Nodup) (hk : ∀ c, c ∈ ks ↔ lk ps c ≠ none) : ∀ l : List UInt8, cntL ps l ks = dL ps l
 | [] => by
   have : ∀ ks : List UInt8, cntL ps [] ks = 0 := fun ks => by
    induction ks with
    | nil => rfl
    | cons x ks ih => rw [cntL, ih]; simp
   exact this ks
 | c :: l => by
   rw [cntL_cons, cntL_all ps ks hn hk l, dL]
   by_cases h : c ∈ ks
   ·rw [hitL_in ps c ks hn h]; omega
   ·rw [hitL_not ps c ks h]
    have : lk ps c = none := by
     cases e : lk ps c with
     | none => rfl
     | some r => exact absurd ((hk c).2 (by rw [e]; simp)) h
    unfold dB
    rw [this]
    simp
/-! ### The three formats -/
def prsM : Prs := [(60, ⟨#[38, 108, 116, 59]⟩), (38, ⟨#[38, 97, 109, 112, 59]⟩), (123, ⟨#[38, 108, 98, 59]⟩)]
def prsR : Prs := [(10, ⟨#[92, 110]⟩), (9, ⟨#[92, 116]⟩), (13, ⟨#[92, 114]⟩), (92, ⟨#[92, 92]⟩), (123, ⟨#[92, 123]⟩)]
def prsS : Prs := [(34, ⟨#[34, 34]⟩), (123, ⟨#[123, 123]⟩)]
theorem prsM_ok : PrsOk prsM := by unfold PrsOk prsM; decide
theorem prsR_ok : PrsOk prsR := by unfold PrsOk prsR; decide
theorem prsS_ok : PrsOk prsS := by unfold PrsOk prsS; decide
theorem repM (c : UInt8) : repB prsM c = encB 1 c := by
 unfold repB encB prsM
 rw [if_pos rfl]
 simp only [lk]
 by_cases h1 : c = 60
 ·subst h1; rfl
 ·rw [if_neg (fun e => h1 e.symm), if_neg h1]
  by_cases h2 : c = 38
  ·subst h2; rfl
  ·rw [if_neg (fun e => h2 e.symm), if_neg h2]
   by_cases h3 : c = 123
   ·subst h3; rfl
   ·rw [if_neg (fun e => h3 e.symm), if_neg h3]
theorem repR (c : UInt8) : repB prsR c = encB 2 c := by
 unfold repB encB prsR
 rw [if_neg (by decide), if_pos rfl]
 simp only [lk]
 by_cases h1 : c = 10
 ·subst h1; rfl
 ·rw [if_neg (fun e => h1 e.symm), if_neg h1]
  by_cases h2 : c = 9
  ·subst h2; rfl
  ·rw [if_neg (fun e => h2 e.symm), if_neg h2]
   by_cases h3 : c = 13
   ·subst h3; rfl
   ·rw [if_neg (fun e => h3 e.symm), if_neg h3]
    by_cases h4 : c = 92
    ·subst h4; rfl
    ·rw [if_neg (fun e => h4 e.symm), if_neg h4]
     by_cases h5 : c = 123
     ·subst h5; rfl
     ·rw [if_neg (fun e => h5 e.symm), if_neg h5]
theorem repS (c : UInt8) : repB prsS c = encB 3 c := by
 unfold repB encB prsS
 rw [if_neg (by decide), if_neg (by decide)]
 simp only [lk]
 by_cases h1 : c = 34
 ·subst h1; rfl
 ·rw [if_neg (fun e => h1 e.symm), if_neg h1]
  by_cases h2 : c = 123
  ·subst h2; rfl
  ·rw [if_neg (fun e => h2 e.symm), if_neg h2]
end Go.Proofs.YtfkojnofbpdjdaaGreatDoor

namespace Go.Proofs.YtfkojnofbpdjdaaGreatDoor
set_option maxRecDepth 100000
open Go.RowKit
theorem normal_at : ∀ (f : List Tk) (i : Nat) (x : Tk), Normal f → f[i]? = some x → x.k = 1 → x.t.size ≠ 0 ∧ x.d = 0
 | [], i, x, _, h, _ => by simp at h
 | y :: f, 0, x, hn, h, hk => by
   injection h with h
   subst h
   exact ⟨(hn.1 hk).1, (hn.1 hk).2.1⟩
 | y :: f, i + 1, x, hn, h, hk => normal_at f i x hn.2 h hk
theorem normal_prev : ∀ (f : List Tk) (i : Nat) (x y : Tk), Normal f → f[i]? = some y → f[i + 1]? = some x → x.k = 1 → y.k ≠ 1
 | [], i, x, y, _, h, _, _ => by simp at h
 | z :: f, 0, x, y, hn, h, h1, hk => by
   injection h with h
   subst h
   intro hz
   cases f with
   | nil => simp at h1
   | cons q f =>
     injection h1 with h1
     exact (hn.1 hz).2.2 q rfl (by rw [h1]; exact hk)
 | z :: f, i + 1, x, y, hn, h, h1, hk => normal_prev f i x y hn.2 h h1 hk
theorem iTag_yes (k : Int) (t : ByteArray) (d : Int) (w : World) (h : k = 2 ∨ k = 3 ∨ k = 4) :
 Calls Tryz.prog 76 #[.agg #[.int .i64 k, .string t, .int .i64 d]] w fun e w' => e = .returned (.bool true) ∧ Below w.heap.size w w' := by
 have HB := Lib.hid ((Below.refl w.heap.size w).alloc (Nat.le_refl _) (.cells #[.int .i64 k, .string t, .int .i64 d] 31))
 rcases h with rfl | rfl | rfl
 all_goals (
  go_enter Tryz.func76, Tryz.ntmps76
  go_wp2_with fail
  go_ret
  exact ⟨rfl, HB.out⟩)
theorem iTag_no (k : Int) (t : ByteArray) (d : Int) (w : World) (h : k = 1 ∨ k = 5) :
 Calls Tryz.prog 76 #[.agg #[.int .i64 k, .string t, .int .i64 d]] w fun e w' => e = .returned (.bool false) ∧ Below w.heap.size w w' := by
 have HB := Lib.hid ((Below.refl w.heap.size w).alloc (Nat.le_refl _) (.cells #[.int .i64 k, .string t, .int .i64 d] 31))
 rcases h with rfl | rfl
 all_goals (
  go_enter Tryz.func76, Tryz.ntmps76
  go_wp2_with fail
  go_ret
  exact ⟨rfl, HB.out⟩)
theorem wellFormed_any (f : List Tk) (v : Value) (i : Nat) (m : Int) (w : World) (hm : w.cell? ⟨0, 0, none⟩ = some (.int .i64 m)) (h1 : RdT w v f) (hi : i < f.length) (hfl : f.length ≤ 1000000) (hn : Normal f) (hw : WfI f[i]) (hs : f[i].t.size ≤ 1000000) :
 Calls Tryz.prog 75 #[v, .int .i64 i] w fun e w' => e = .returned (.bool true) ∧ Below w.heap.size w w' := by
 obtain ⟨A, c, rfl, _, _⟩ := h1.shape
 obtain ⟨b, o, rfl, hbl, q1, q2, q3⟩ := RdT.at_ h1 i hi
 have hx : f[i]? = some f[i] := List.getElem?_eq_getElem hi
 have hprev : ∀ j, i = j + 1 → f[i].k = 1 → ∃ kp : Int, w.cell? ⟨b, o + j * 3, none⟩ = some (.int .i64 kp) ∧ (kp != 1) = true := by
  intro j hj hk
  obtain ⟨b', o', hA, _, p1, _, _⟩ := RdT.at_ h1 j (by omega)
  injection hA with hA
  injection hA with e1 e2
  subst e1 e2
  refine ⟨_, p1, ?_⟩
  have := normal_prev f j f[i] f[j] hn (List.getElem?_eq_getElem (by omega)) (by rw [← hj]; exact hx) hk
  simpa using this
 have hat := normal_at f i f[i] hn hx
 generalize f[i] = x at q1 q2 q3 hw hs hprev hat
 obtain ⟨k, t, d⟩ := x
 simp only at q1 q2 q3 hs hprev hat
 have hii : (i : Int) < (f.length : Int) := by omega
 have hi0 : (0 : Int) ≤ (i : Int) := by omega
 have HB := Lib.hid ((Below.refl w.heap.size w).alloc (Nat.le_refl _) (.cells #[.int .i64 k, .string t, .int .i64 d] 31))
 have HM : Hid ((w.alloc (.cells #[.int .i64 k, .string t, .int .i64 d] 31)).cell? ⟨0, 0, none⟩ = some (.int .i64 m)) := by show _ = _; rw [World.cell?_alloc_past _ _ _ (size_pos hm)]; exact hm
 clear h1 hx hn hm
 generalize f.length = n at hi hfl hii
 rcases hw with hk | ⟨hk, hnm, hd⟩ | ⟨hk, hct, hd1, hd2⟩ | ⟨hk, hnm, hd1, hd2⟩
 ·have hk' : k = 1 := hk
  subst hk'
  obtain ⟨a1, a2⟩ := hat rfl
  subst a2
  have hne : (t.toList != []) = true := by
   rw [bne_iff_ne, toList_eq_data]
   intro h
   exact a1 (by rw [Lib.size_eq, h]; rfl)
  have hne2 : ¬ t.toList = [] := by simpa using hne
  clear hat a1
  cases i with
  | zero =>
    clear hprev
    rw [Nat.zero_mul, Nat.add_zero] at q1 q2 q3
    go_enter Tryz.func75, Tryz.ntmps75
    go_wp2_with fail
    go_ret
    exact ⟨ret_bool (by first | rfl | simp [hne2]), HB.out⟩
  | succ j =>
    obtain ⟨kp, p1, hkp⟩ := hprev j rfl rfl
    have hkp2 : ¬ kp = 1 := by simpa using hkp
    have hj3 : ¬ ((j + 1 : Nat) : Int) = 0 := by omega
    have hj1 : (((j + 1 : Nat) : Int) == 0) = false := by rw [beq_eq_false_iff_ne]; omega
    have hj2 : ((j + 1 : Nat) : Int) - 1 = (j : Int) := by omega
    have p1' : (w.alloc (.cells #[.int .i64 1, .string t, .int .i64 0] 31)).cell? ⟨b, o + j * 3, none⟩ = some (.int .i64 kp) := by rw [World.cell?_alloc_past _ _ _ hbl]; exact p1
    clear hprev
    go_enter Tryz.func75, Tryz.ntmps75
    go_wp2_with fail
    go_ret
    exact ⟨ret_bool (by first | rfl | exact hkp | simp [hkp, hne2]), HB.out⟩
 ·have hk' : k = 5 := hk
  have hd' : d = 0 := hd
  subst hk' hd'
  have CN := Lib.hid (fun w => isname_any t w (by unfold maxLen; omega))
  rw [show nameL t.data.toList = true from hnm] at CN
  clear hprev hat hnm
  go_enter Tryz.func75, Tryz.ntmps75
  go_wp2_with (go_at_call 114; refine (CN.out _).mono ?_; rintro e w' ⟨rfl, rfl⟩)
  go_ret
  exact ⟨rfl, HB.out⟩
 ·have hd1' : (1 : Int) ≤ d := hd1
  have hd2' : d ≤ 999 := hd2
  have CC := Lib.hid (fun w hm => isContent_any t m w hm hct)
  clear hprev hat hct
  rcases hk with hk | hk
  ·have hk' : k = 2 := hk
   subst hk'
   clear hk
   go_enter Tryz.func75, Tryz.ntmps75
   go_wp2_with (go_at_call 115; refine (CC.out _ HM.out).mono ?_; rintro e w' ⟨rfl, n1, rfl⟩)
   go_ret
   exact ⟨ret_bool (by simp [hd1', hd2']), below_drewN HB.out n1⟩
  ·have hk' : k = 4 := hk
   subst hk'
   clear hk
   go_enter Tryz.func75, Tryz.ntmps75
   go_wp2_with (go_at_call 115; refine (CC.out _ HM.out).mono ?_; rintro e w' ⟨rfl, n1, rfl⟩)
   go_ret
   exact ⟨ret_bool (by simp [hd1', hd2']), below_drewN HB.out n1⟩
 ·have hk' : k = 3 := hk
  subst hk'
  have hd1' : (1 : Int) ≤ d := hd1
  have hd2' : d ≤ 999 := hd2
  have CN := Lib.hid (fun w => isname_any t w (by unfold maxLen; omega))
  rw [show nameL t.data.toList = true from hnm] at CN
  clear hprev hat hnm hk
  go_enter Tryz.func75, Tryz.ntmps75
  go_wp2_with (go_at_call 114; refine (CN.out _).mono ?_; rintro e w' ⟨rfl, rfl⟩)
  go_ret
  exact ⟨ret_bool (by simp [hd1', hd2']), HB.out⟩
end Go.Proofs.YtfkojnofbpdjdaaGreatDoor

namespace Go.Proofs.YtfkojnofbpdjdaaGreatDoor
set_option maxRecDepth 100000
open Go.RowKit
theorem name_it (s : ByteArray) (m : Int) (w : World) (hs : s.size ≤ 1000000) (hm : w.cell? ⟨0, 0, none⟩ = some (.int .i64 m)) :
 Calls Tryz.prog 116 #[.string s] w fun e w' => e = .returned (.string (nameB s)) ∧ ∃ n, w' = w.drewN n := by
 have hcut := cut_name s.data.toList
 have HC := Lib.hid (Tryz.strings_Cut s (⟨#[32]⟩ : ByteArray) m w (by omega) hm)
 have HN : Hid ((⟨(Lib.cut s.data.toList [32]).1.toArray⟩ : ByteArray) = nameB s) := by
  show _ = _
  rw [hcut, ← nameB_list]
 rw [← HN.out]
 clear hcut HN
 generalize Lib.cut s.data.toList [32] = cc at HC ⊢
 go_enter Tryz.func116, Tryz.ntmps116
 go_wp2_with (go_at_call 80; refine (HC.out).mono ?_; rintro e w1 ⟨rfl, n1, rfl⟩)
 go_ret
 exact ⟨rfl, n1, rfl⟩
theorem fits_any (f : List Tk) (v : Value) (xk : Int) (xt : ByteArray) (xd m : Int) (w : World) (hm : w.cell? ⟨0, 0, none⟩ = some (.int .i64 m)) (h1 : RdT w v f) (hfl : f.length ≤ 1000000) (hx : TagI ⟨xk, xt, xd⟩) (hk : ∀ y ∈ f, y.k = 1 ∨ y.k = 5 ∨ y.k = 2 ∨ y.k = 3 ∨ y.k = 4) (hs : ∀ y ∈ f, y.t.size ≤ 1000000) (hfit : ∀ y ∈ f, FitI y ⟨xk, xt, xd⟩) :
 Calls Tryz.prog 77 #[v, .agg #[.int .i64 xk, .string xt, .int .i64 xd]] w fun e w' => e = .returned (.bool true) ∧ Below w.heap.size w w' := by
 obtain ⟨R, HRR⟩ : ∃ R : Ending → World → Prop, Hid (R = fun e w' => e = .returned (.bool true) ∧ Below w.heap.size w w') := ⟨_, rfl⟩
 rw [← HRR.out]
 obtain ⟨A, c, rfl, _, _⟩ := h1.shape
 have hm0 := size_pos hm
 have HX0 : Hid ((w.alloc (.cells #[.int .i64 xk, .string xt, .int .i64 xd] 31)).heap[w.heap.size]? = some (.cells #[.int .i64 xk, .string xt, .int .i64 xd] 31)) := Array.getElem?_push_size
 have HB0 := Lib.hid ((Below.refl w.heap.size w).alloc (Nat.le_refl _) (.cells #[.int .i64 xk, .string xt, .int .i64 xd] 31))
 have HM0 : Hid ((w.alloc (.cells #[.int .i64 xk, .string xt, .int .i64 xd] 31)).cell? ⟨0, 0, none⟩ = some (.int .i64 m)) := by show _ = _; rw [World.cell?_alloc_past _ _ _ hm0]; exact hm
 have H1 : Hid (RdT (w.alloc (.cells #[.int .i64 xk, .string xt, .int .i64 xd] 31)) (.slice A f.length c) f) := RdE.alloc h1 _
 have hz0 : w.heap.size < (w.alloc (.cells #[.int .i64 xk, .string xt, .int .i64 xd] 31)).heap.size := by simp
 have HK := Lib.hid hk
 have HSZ := Lib.hid hs
 have HF := Lib.hid hfit
 have HT := Lib.hid hx
 obtain ⟨p, hp⟩ : ∃ p, Hid (p = w.heap.size) := ⟨_, rfl⟩
 clear h1 hm hm0 hk hs hfit hx
 go_enter Tryz.func77, Tryz.ntmps77
 go_upto_region 1 with fail
 rw [← hp.out] at HX0 hz0 ⊢
 generalize w.alloc (.cells #[.int .i64 xk, .string xt, .int .i64 xd] 31) = w0 at HX0 HB0 HM0 H1 hz0 ⊢
 go_wp2_with fail
 go_loopg [9] f.length (fun gk iv wr => ∃ i : Nat, iv = .int .i64 i ∧ i ≤ f.length ∧ Hid (Below w0.heap.size w0 wr) ∧ f.length - i ≤ gk)
 case atStart => exact ⟨0, rfl, Nat.zero_le _, Below.refl _ _, Nat.le_refl _⟩
 case round =>
  obtain ⟨i, rfl, hi, HB, hgk⟩ := hrel
  by_cases hlt : i < f.length
  ·have hii : (i : Int) < (f.length : Int) := by omega
   have hi0 : (0 : Int) ≤ (i : Int) := by omega
   obtain ⟨b, o, hA, hbl, p0, p1, p2⟩ := RdT.at_ H1.out i hlt
   subst hA
   have hmem := List.getElem_mem hlt
   have hky := HK.out _ hmem
   have hsy := HSZ.out _ hmem
   have hfy := HF.out _ hmem
   clear hmem
   generalize f[i] = y at p0 p1 p2 hky hsy hfy
   obtain ⟨yk, yt, yd⟩ := y
   simp only at p0 p1 p2 hky hsy
   have q0 := (HB.out.cell (p := ⟨b, o + i * 3, none⟩) hbl).trans p0
   have q1 := (HB.out.cell (p := ⟨b, o + i * 3 + 1, none⟩) hbl).trans p1
   have q2 := (HB.out.cell (p := ⟨b, o + i * 3 + 2, none⟩) hbl).trans p2
   clear p0 p1 p2
   have hzr := HB.out.size
   have HY : Hid ((wr.alloc (.cells #[.int .i64 yk, .string yt, .int .i64 yd] 31)).heap[wr.heap.size]? = some (.cells #[.int .i64 yk, .string yt, .int .i64 yd] 31)) := Array.getElem?_push_size
   have HBA := Lib.hid (HB.out.alloc hzr (.cells #[.int .i64 yk, .string yt, .int .i64 yd] 31))
   have hza : wr.heap.size < (wr.alloc (.cells #[.int .i64 yk, .string yt, .int .i64 yd] 31)).heap.size := by simp
   obtain ⟨q, hq⟩ : ∃ q, Hid (q = wr.heap.size) := ⟨_, rfl⟩
   go_upto_region 4 with fail
   rw [← hq.out] at HY hza ⊢
   generalize wr.alloc (.cells #[.int .i64 yk, .string yt, .int .i64 yd] 31) = w1 at HY HBA hza ⊢
   obtain ⟨y0, y1, y2, _⟩ := bx3 HY.out
   by_cases htag : yk = 2 ∨ yk = 3 ∨ yk = 4
   ·by_cases hd : yd = xd
    ·obtain ⟨e1, e2, e3⟩ := hfy htag HT.out hd
     have e1' : xk = 3 := e1
     have e2' : yk = 2 := e2
     have e3' : nameB yt = xt := e3
     subst e1' e2' hd
     have HNM := Lib.hid (fun w hm => name_it yt m w hsy hm)
     rw [e3'] at HNM
     clear e1 e2 e3 hfy hky
     have CT := Lib.hid (iTag_yes 2 yt yd w1 htag)
     go_wp2_with (go_at_call 76; refine (CT.out).mono ?_; rintro e w2 ⟨rfl, hw2⟩; have HW2 := Lib.hid hw2; have hz2 := hw2.size; have HX2 : Hid (w2.heap[p]? = some (.cells #[.int .i64 3, .string xt, .int .i64 yd] 31)) := (hw2.block p (by have := HBA.out.size; omega)).trans ((HBA.out.block p hz0).trans HX0.out); have HY2 : Hid (w2.heap[q]? = some (.cells #[.int .i64 2, .string yt, .int .i64 yd] 31)) := (hw2.block q hza).trans HY.out; have x2 := (bx3 HX2.out).2.2.1; have z2 := (bx3 HY2.out).2.2.1; have HBW := Lib.hid (HBA.out.trans (hw2.mono (HBA.out.size))); clear hw2)
     obtain ⟨x0, x1, _⟩ := bx3 HX2.out
     obtain ⟨z0, z1, _⟩ := bx3 HY2.out
     have HM3 : Hid (w2.cell? ⟨0, 0, none⟩ = some (.int .i64 m)) := (HBW.out.cell (p := ⟨0, 0, none⟩) (size_pos HM0.out)).trans HM0.out
     clear y0 y1 y2 x2 z2 CT HY HBA HW2
     generalize w2 = w3 at HX2 HY2 x0 x1 z0 z1 HM3 HBW hz2 ⊢
     refine wp_region_at 16 #[false, false, false, false, false, false, false, false, false, false, false, false, false, false, false, false] rfl rfl (by kernel_rfl) ?_
     refine zzA 0 (.pointer (some ⟨p, 0, none⟩)) (some 23) rfl (fun _ => ex_fieldAddr 31 _ 0 (.pointer (some ⟨p, 0, none⟩)) _ rfl (by kernel_rfl) (by go_simp)) ?_
     simp only [Act.put, List.setIfInBounds_toArray, List.set_cons_zero, List.set_cons_succ]
     refine wpAny_only 1 (by kernel_rfl) rfl (by kernel_rfl) ?_
     refine wp_of_val (v := .int .i64 3) (ex_load 3 _ (.pointer (some ⟨p, 0, none⟩)) _ rfl (by kernel_rfl) (ldT_int (w := w3.drew) x0)) ?_
     simp only [Act.put, List.setIfInBounds_toArray, List.set_cons_zero, List.set_cons_succ]
     refine zzA 2 (.bool false) (some 25) rfl (fun _ => ex_binOp .neq 3 3 _ _ (.int .i64 3) (.int .i64 3) _ rfl (by kernel_rfl) (by kernel_rfl) (by go_simp)) ?_
     refine zzM 3 (.bool false) (some 26) rfl ?_
     refine zzA 4 (.pointer (some ⟨q, 0, none⟩)) (some 27) rfl (fun _ => ex_fieldAddr 31 _ 0 (.pointer (some ⟨q, 0, none⟩)) _ rfl (by kernel_rfl) (by go_simp)) ?_
     simp only [Act.put, List.setIfInBounds_toArray, List.set_cons_zero, List.set_cons_succ]
     refine wpAny_only 5 (by kernel_rfl) rfl (by kernel_rfl) ?_
     refine wp_of_val (v := .int .i64 2) (ex_load 3 _ (.pointer (some ⟨q, 0, none⟩)) _ rfl (by kernel_rfl) (ldT_int (w := w3.drew) z0)) ?_
     simp only [Act.put, List.setIfInBounds_toArray, List.set_cons_zero, List.set_cons_succ]
     refine zzA 6 (.bool false) (some 29) rfl (fun _ => ex_binOp .neq 3 3 _ _ (.int .i64 2) (.int .i64 2) _ rfl (by kernel_rfl) (by kernel_rfl) (by go_simp)) ?_
     refine zzA 7 (.bool false) (some 30) rfl (fun _ => ex_pick _ _ _ false (.bool true) (.bool false) rfl (by kernel_rfl) (by kernel_rfl) (by kernel_rfl)) ?_
     refine zzM 8 (.bool false) (some 31) rfl ?_
     refine zzA 9 (.pointer (some ⟨q, 1, none⟩)) (some 32) rfl (fun _ => ex_fieldAddr 31 _ 1 (.pointer (some ⟨q, 0, none⟩)) _ rfl (by kernel_rfl) (by go_simp)) ?_
     refine zzA 12 (.pointer (some ⟨p, 1, none⟩)) (some 35) rfl (fun _ => ex_fieldAddr 31 _ 1 (.pointer (some ⟨p, 0, none⟩)) _ rfl (by kernel_rfl) (by go_simp)) ?_
     simp only [Act.put, List.setIfInBounds_toArray, List.set_cons_zero, List.set_cons_succ]
     refine wpAny_two 10 13 (by kernel_rfl) rfl rfl (by kernel_rfl) (by kernel_rfl) ?_ ?_
     refine wp_of_val (v := .string yt) (ex_load 9 _ (.pointer (some ⟨q, 1, none⟩)) _ rfl (by kernel_rfl) (ldT_str (w := w3.drew) z1)) ?_
     simp only [Act.put, List.setIfInBounds_toArray, List.set_cons_zero, List.set_cons_succ]
     refine wpAny_two 11 13 (by kernel_rfl) rfl rfl (by kernel_rfl) (by kernel_rfl) ?_ ?_
     refine wp_of_call (ex_call1 (.tmp 33) _ (.string yt) rfl (by kernel_rfl) (enters_of Tryz.func116 (by kernel_rfl) rfl _ _)) (HNM.out _ (by exact HM3.out)) ?_
     rintro e w1 ⟨rfl, n1, rfl⟩
     refine ⟨.string xt, rfl, ?_⟩
     simp only [Act.put, List.setIfInBounds_toArray, List.set_cons_zero, List.set_cons_succ]
     refine wpAny_only 13 (by kernel_rfl) rfl (by kernel_rfl) ?_
     refine wp_of_val (v := .string xt) (ex_load 9 _ (.pointer (some ⟨p, 1, none⟩)) _ rfl (by kernel_rfl) (ldT_str (w := w3.drew.drewN n1) x1)) ?_
     simp only [Act.put, List.setIfInBounds_toArray, List.set_cons_zero, List.set_cons_succ]
     refine zzA 14 (.bool false) (some 37) rfl (fun _ => ex_binOp .neq 9 9 _ _ (.string xt) (.string xt) _ rfl (by kernel_rfl) (by kernel_rfl) (by go_simp)) ?_
     refine zzA 15 (.bool false) (some 38) rfl (fun _ => ex_pick _ _ _ false (.bool true) (.bool false) rfl (by kernel_rfl) (by kernel_rfl) (by kernel_rfl)) ?_
     refine wpAny_done (by kernel_rfl) ?_ _
     simp only [Act.put, List.setIfInBounds_toArray, List.set_cons_zero, List.set_cons_succ]
     have HN1 : Hid (∃ n, w3.drew.drewN n1 = w3.drewN n) := ⟨1 + n1, by simp⟩
     obtain ⟨n2, hn2⟩ := HN1.out
     rw [hn2]
     clear hn2 HN1
     rotate_left 1
     refine wp_of_val (v := .string xt) (ex_load 9 _ (.pointer (some ⟨p, 1, none⟩)) _ rfl (by kernel_rfl) (ldT_str (w := w3.drew) x1)) ?_
     simp only [Act.put, List.setIfInBounds_toArray, List.set_cons_zero, List.set_cons_succ]
     refine wpAny_only 11 (by kernel_rfl) rfl (by kernel_rfl) ?_
     refine wp_of_call (ex_call1 (.tmp 33) _ (.string yt) rfl (by kernel_rfl) (enters_of Tryz.func116 (by kernel_rfl) rfl _ _)) (HNM.out _ (by exact HM3.out)) ?_
     rintro e w1 ⟨rfl, n1, rfl⟩
     refine ⟨.string xt, rfl, ?_⟩
     simp only [Act.put, List.setIfInBounds_toArray, List.set_cons_zero, List.set_cons_succ]
     refine zzA 14 (.bool false) (some 37) rfl (fun _ => ex_binOp .neq 9 9 _ _ (.string xt) (.string xt) _ rfl (by kernel_rfl) (by kernel_rfl) (by go_simp)) ?_
     refine zzA 15 (.bool false) (some 38) rfl (fun _ => ex_pick _ _ _ false (.bool true) (.bool false) rfl (by kernel_rfl) (by kernel_rfl) (by kernel_rfl)) ?_
     refine wpAny_done (by kernel_rfl) ?_ _
     simp only [Act.put, List.setIfInBounds_toArray, List.set_cons_zero, List.set_cons_succ]
     have HN1 : Hid (∃ n, w3.drew.drewN n1 = w3.drewN n) := ⟨1 + n1, by simp⟩
     obtain ⟨n2, hn2⟩ := HN1.out
     rw [hn2]
     clear hn2 HN1
     rotate_left 1
     refine wp_of_val (v := .string xt) (ex_load 9 _ (.pointer (some ⟨p, 1, none⟩)) _ rfl (by kernel_rfl) (ldT_str (w := w3.drew) x1)) ?_
     simp only [Act.put, List.setIfInBounds_toArray, List.set_cons_zero, List.set_cons_succ]
     refine wpAny_only 10 (by kernel_rfl) rfl (by kernel_rfl) ?_
     refine wp_of_val (v := .string yt) (ex_load 9 _ (.pointer (some ⟨q, 1, none⟩)) _ rfl (by kernel_rfl) (ldT_str (w := w3.drew) z1)) ?_
     simp only [Act.put, List.setIfInBounds_toArray, List.set_cons_zero, List.set_cons_succ]
     refine wpAny_only 11 (by kernel_rfl) rfl (by kernel_rfl) ?_
     refine wp_of_call (ex_call1 (.tmp 33) _ (.string yt) rfl (by kernel_rfl) (enters_of Tryz.func116 (by kernel_rfl) rfl _ _)) (HNM.out _ (by exact HM3.out)) ?_
     rintro e w1 ⟨rfl, n1, rfl⟩
     refine ⟨.string xt, rfl, ?_⟩
     simp only [Act.put, List.setIfInBounds_toArray, List.set_cons_zero, List.set_cons_succ]
     refine zzA 14 (.bool false) (some 37) rfl (fun _ => ex_binOp .neq 9 9 _ _ (.string xt) (.string xt) _ rfl (by kernel_rfl) (by kernel_rfl) (by go_simp)) ?_
     refine zzA 15 (.bool false) (some 38) rfl (fun _ => ex_pick _ _ _ false (.bool true) (.bool false) rfl (by kernel_rfl) (by kernel_rfl) (by kernel_rfl)) ?_
     refine wpAny_done (by kernel_rfl) ?_ _
     simp only [Act.put, List.setIfInBounds_toArray, List.set_cons_zero, List.set_cons_succ]
     have HN1 : Hid (∃ n, w3.drew.drewN n1 = w3.drewN n) := ⟨1 + n1, by simp⟩
     obtain ⟨n2, hn2⟩ := HN1.out
     rw [hn2]
     clear hn2 HN1
     all_goals (
      have HBW2 := Lib.hid (below_drewN HBW.out n2)
      clear HBW HM3 x0 x1 z0 z1 HX2 HY2
      generalize w3.drewN n2 = w4 at HBW2 ⊢
      go_wp2_with fail
      go_roundg (f.length - (i + 1))
      case measure => omega
      case rel => exact ⟨i + 1, by go_num, hlt, HBW2.out, by omega⟩)
    ·have hne : (yd != xd) = true := by simpa using hd
     clear hfy
     have CT := Lib.hid (iTag_yes yk yt yd w1 htag)
     go_wp2_with (go_at_call 76; refine (CT.out).mono ?_; rintro e w2 ⟨rfl, hw2⟩; have HW2 := Lib.hid hw2; have hz2 := hw2.size; have HX2 : Hid (w2.heap[p]? = some (.cells #[.int .i64 xk, .string xt, .int .i64 xd] 31)) := (hw2.block p (by have := HBA.out.size; omega)).trans ((HBA.out.block p hz0).trans HX0.out); have HY2 : Hid (w2.heap[q]? = some (.cells #[.int .i64 yk, .string yt, .int .i64 yd] 31)) := (hw2.block q hza).trans HY.out; have x2 := (bx3 HX2.out).2.2.1; have z2 := (bx3 HY2.out).2.2.1; have HBW := Lib.hid (HBA.out.trans (hw2.mono (HBA.out.size))); clear hw2)
     go_roundg (f.length - (i + 1))
     case measure => omega
     case rel => exact ⟨i + 1, by go_num, hlt, HBW.out, by omega⟩
   ·have CT := Lib.hid (iTag_no yk yt yd w1 (by omega))
    go_wp2_with (go_at_call 76; refine (CT.out).mono ?_; rintro e w2 ⟨rfl, hw2⟩; have HW2 := Lib.hid hw2; clear hw2)
    go_roundg (f.length - (i + 1))
    case measure => omega
    case rel => exact ⟨i + 1, by go_num, hlt, HBA.out.trans (HW2.out.mono HBA.out.size), by omega⟩
  ·obtain rfl : i = f.length := by omega
   go_wp2_with fail
   first | go_ret | skip
   rw [HRR.out]
   exact ⟨rfl, HB0.out.trans (HB.out.mono HB0.out.size)⟩
end Go.Proofs.YtfkojnofbpdjdaaGreatDoor

namespace Go.Proofs.YtfkojnofbpdjdaaGreatDoor
set_option maxRecDepth 100000
open Go.RowKit
theorem validate_any (f : List Tk) (v : Value) (m : Int) (w : World) (hm : w.cell? ⟨0, 0, none⟩ = some (.int .i64 m)) (h1 : RdT w v f) (hv : ValF f) (hs : ∀ y ∈ f, y.t.size ≤ 1000000) :
 Calls Tryz.prog 37 #[v] w fun e w' => e = .returned (.int .i64 0) ∧ Below w.heap.size w w' := by
 obtain ⟨R, HRR⟩ : ∃ R : Ending → World → Prop, Hid (R = fun e w' => e = .returned (.int .i64 0) ∧ Below w.heap.size w w') := ⟨_, rfl⟩
 rw [← HRR.out]
 obtain ⟨A, c, rfl, hcap, _⟩ := h1.shape
 have hl1 := hv.len
 have hl2 := hv.pos
 have CL := Lib.hid (ilength_any f _ w h1 (by omega) (by omega))
 generalize lenI f = ln at hl2 CL
 have H1 := Lib.hid h1
 have HV := Lib.hid hv
 have HM := Lib.hid hm
 have HSZ := Lib.hid hs
 have t1 : ¬ (512 : Int) < (f.length : Int) := by omega
 have t2 : ¬ (1024 : Int) < (ln : Int) := by omega
 clear h1 hv hm hs
 go_enter Tryz.func37, Tryz.ntmps37
 go_wp2_with (go_at_call 62; refine (CL.out).mono ?_; rintro e w0 ⟨rfl, hw0⟩; have HB0 := Lib.hid hw0; clear hw0)
 go_loopg [15] f.length (fun gk iv wr => ∃ i : Nat, iv = .int .i64 i ∧ i ≤ f.length ∧ Hid (Below w.heap.size w wr) ∧ f.length - i ≤ gk)
 case atStart => exact ⟨0, rfl, Nat.zero_le _, HB0.out, Nat.le_refl _⟩
 case round =>
  obtain ⟨i, rfl, hi, HB, hgk⟩ := hrel
  by_cases hlt : i < f.length
  ·have hii : (i : Int) < (f.length : Int) := by omega
   have hi0 : (0 : Int) ≤ (i : Int) := by omega
   obtain ⟨b, o, hA, hbl, p0, p1, p2⟩ := RdT.at_ H1.out i hlt
   subst hA
   have hmem := List.getElem_mem hlt
   have hwf := HV.out.wf _ hmem
   have hsx := HSZ.out _ hmem
   have hzr := HB.out.size
   have HMX : Hid (∀ wx, Below w.heap.size w wx → wx.cell? ⟨0, 0, none⟩ = some (.int .i64 m)) := fun wx h => below_cell0 HM.out h
   have CW := Lib.hid (fun wx (h : Below w.heap.size w wx) => wellFormed_any f _ i m wx (HMX.out wx h) (RdE.below H1.out h (Nat.le_refl _)) hlt (by omega) HV.out.nrm hwf hsx)
   have hfit : ∀ y ∈ f.take i, FitI y f[i] := by
    intro y hy
    obtain ⟨j, hj, rfl⟩ := List.mem_iff_getElem.1 hy
    rw [List.length_take] at hj
    rw [List.getElem_take]
    exact (List.pairwise_iff_getElem.1 HV.out.fit) j i (by omega) hlt (by omega)
   have CF : Hid (TagI f[i] → ∀ wx, Below w.heap.size w wx → Calls Tryz.prog 77 #[.slice (some ⟨b, o, none⟩) i c, .agg #[.int .i64 f[i].k, .string f[i].t, .int .i64 f[i].d]] wx fun e w' => e = .returned (.bool true) ∧ Below wx.heap.size wx w') := fun ht wx h =>
    fits_any (f.take i) _ f[i].k f[i].t f[i].d m wx (HMX.out wx h) (by
     have := RdE.take (RdE.below H1.out h (Nat.le_refl _)) i (Nat.le_of_lt hlt)
     exact this) (by rw [List.length_take]; omega) ht (fun y hy => by
     rcases HV.out.wf y (List.mem_of_mem_take hy) with h | ⟨h, _⟩ | ⟨h, _⟩ | ⟨h, _⟩
     ·exact .inl h
     ·exact .inr (.inl h)
     ·omega
     ·omega) (fun y hy => HSZ.out y (List.mem_of_mem_take hy)) hfit
   clear hfit hmem hsx
   have q0 := (HB.out.cell (p := ⟨b, o + i * 3, none⟩) hbl).trans p0
   have q1 := (HB.out.cell (p := ⟨b, o + i * 3 + 1, none⟩) hbl).trans p1
   have q2 := (HB.out.cell (p := ⟨b, o + i * 3 + 2, none⟩) hbl).trans p2
   generalize f[i] = x at p0 p1 p2 q0 q1 q2 hwf CF
   obtain ⟨xk, xt, xd⟩ := x
   simp only at p0 p1 p2 q0 q1 q2 CF
   clear p0 p1 p2
   have HY : Hid ((wr.alloc (.cells #[.int .i64 xk, .string xt, .int .i64 xd] 31)).heap[wr.heap.size]? = some (.cells #[.int .i64 xk, .string xt, .int .i64 xd] 31)) := Array.getElem?_push_size
   have HBA := Lib.hid (HB.out.alloc hzr (.cells #[.int .i64 xk, .string xt, .int .i64 xd] 31))
   have hza : wr.heap.size < (wr.alloc (.cells #[.int .i64 xk, .string xt, .int .i64 xd] 31)).heap.size := by simp
   obtain ⟨q, hq⟩ : ∃ q, Hid (q = wr.heap.size) := ⟨_, rfl⟩
   go_upto_region 6 with fail
   rw [← hq.out] at HY hza ⊢
   generalize wr.alloc (.cells #[.int .i64 xk, .string xt, .int .i64 xd] 31) = w1 at HY HBA hza ⊢
   go_wp2_with (go_at_call 75; refine (CW.out _ HBA.out).mono ?_; rintro e w2 ⟨rfl, hw2⟩; have HBW := Lib.hid (HBA.out.trans (hw2.mono HBA.out.size)); have HY2 : Hid (w2.heap[q]? = some (.cells #[.int .i64 xk, .string xt, .int .i64 xd] 31)) := (hw2.block q hza).trans HY.out; have hq2 : q < w2.heap.size := Nat.lt_of_lt_of_le hza hw2.size; clear hw2)
   obtain ⟨y0, y1, y2, _⟩ := bx3 HY2.out
   have hci : (i : Int) ≤ (c : Int) := by omega
   by_cases htag : xk = 2 ∨ xk = 3 ∨ xk = 4
   ·have CT := Lib.hid (iTag_yes xk xt xd w2.drew htag)
    have CF := Lib.hid (CF.out htag)
    refine wp_region_at 10 #[false, false, false, false, false, false, false, false, false, false] rfl rfl (by kernel_rfl) ?_
    refine wpAny_only 0 (by kernel_rfl) rfl (by kernel_rfl) ?_
    refine wp_of_val (v := .agg #[.int .i64 xk, .string xt, .int .i64 xd]) (ex_load 31 _ (.pointer (some ⟨q, 0, none⟩)) _ rfl (by kernel_rfl) (ldT_item (w := w2.drew) y0 y1 y2)) ?_
    simp only [Act.put, List.setIfInBounds_toArray, List.set_cons_zero, List.set_cons_succ]
    refine wpAny_only 1 (by kernel_rfl) rfl (by kernel_rfl) ?_
    refine wp_of_call (ex_call1 (.tmp 24) _ (.agg #[.int .i64 xk, .string xt, .int .i64 xd]) rfl (by kernel_rfl) (enters_of Tryz.func76 (by kernel_rfl) rfl _ _)) (CT.out) ?_
    rintro e w5 ⟨rfl, hw5⟩
    have HBW5 := Lib.hid ((Below.drew HBW.out).trans (hw5.mono HBW.out.size))
    have HY5 : Hid (w5.heap[q]? = some (.cells #[.int .i64 xk, .string xt, .int .i64 xd] 31)) := (hw5.block q hq2).trans HY2.out
    obtain ⟨z0, z1, z2, _⟩ := bx3 HY5.out
    refine ⟨.bool true, rfl, ?_⟩
    simp only [Act.put, List.setIfInBounds_toArray, List.set_cons_zero, List.set_cons_succ]
    refine zzM 2 (.bool true) (some 26) rfl ?_
    refine zzM 3 (.slice (some ⟨b, o, none⟩) f.length c) (some 27) rfl ?_
    refine zzM 4 (.int .i64 (i : Int)) (some 28) rfl ?_
    refine zzA 5 (.slice (some ⟨b, o, none⟩) i c) (some 29) rfl (fun _ => ex_slice 24 _ _ _ (.slice (some ⟨b, o, none⟩) f.length c) _ none (some (.int .i64 (i : Int))) rfl (by kernel_rfl) (by kernel_rfl) (by kernel_rfl) (by go_simp)) ?_
    simp only [Act.put, List.setIfInBounds_toArray, List.set_cons_zero, List.set_cons_succ]
    refine wpAny_only 6 (by kernel_rfl) rfl (by kernel_rfl) ?_
    refine wp_of_val (v := .agg #[.int .i64 xk, .string xt, .int .i64 xd]) (ex_load 31 _ (.pointer (some ⟨q, 0, none⟩)) _ rfl (by kernel_rfl) (ldT_item z0 z1 z2)) ?_
    simp only [Act.put, List.setIfInBounds_toArray, List.set_cons_zero, List.set_cons_succ]
    refine wpAny_only 7 (by kernel_rfl) rfl (by kernel_rfl) ?_
    refine wp_of_call (ex_call2 (.tmp 29) (.tmp 30) _ (.slice (some ⟨b, o, none⟩) i c) (.agg #[.int .i64 xk, .string xt, .int .i64 xd]) rfl (by kernel_rfl) (by kernel_rfl) (enters_of Tryz.func77 (by kernel_rfl) rfl _ _)) (CF.out _ HBW5.out) ?_
    rintro e w6 ⟨rfl, hw6⟩
    have HBW6 := Lib.hid (HBW5.out.trans (hw6.mono HBW5.out.size))
    refine ⟨.bool true, rfl, ?_⟩
    simp only [Act.put, List.setIfInBounds_toArray, List.set_cons_zero, List.set_cons_succ]
    refine zzA 8 (.bool false) (some 32) rfl (fun _ => ex_unOp .not 4 _ (.bool true) _ rfl (by kernel_rfl) (by go_simp)) ?_
    refine zzA 9 (.bool false) (some 33) rfl (fun _ => ex_pick _ _ _ true (.bool false) (.bool false) rfl (by kernel_rfl) (by kernel_rfl) (by kernel_rfl)) ?_
    refine wpAny_done (by kernel_rfl) ?_ _
    simp only [Act.put, List.setIfInBounds_toArray, List.set_cons_zero, List.set_cons_succ]
    go_wp2_with fail
    go_roundg (f.length - (i + 1))
    case measure => omega
    case rel => exact ⟨i + 1, by go_num, hlt, HBW6.out, by omega⟩
   ·have hk15 : xk = 1 ∨ xk = 5 := by
     rcases hwf with h | ⟨h, _⟩ | ⟨h, _⟩ | ⟨h, _⟩
     ·exact .inl h
     ·exact .inr h
     ·exact absurd (by rcases h with h | h; exact .inl h; exact .inr (.inr h)) htag
     ·exact absurd (.inr (.inl h)) htag
    have CT := Lib.hid (iTag_no xk xt xd w2.drew hk15)
    clear hk15 hwf CF
    refine wp_region_at 10 #[false, false, false, false, false, false, false, false, false, false] rfl rfl (by kernel_rfl) ?_
    refine wpAny_only 0 (by kernel_rfl) rfl (by kernel_rfl) ?_
    refine wp_of_val (v := .agg #[.int .i64 xk, .string xt, .int .i64 xd]) (ex_load 31 _ (.pointer (some ⟨q, 0, none⟩)) _ rfl (by kernel_rfl) (ldT_item (w := w2.drew) y0 y1 y2)) ?_
    simp only [Act.put, List.setIfInBounds_toArray, List.set_cons_zero, List.set_cons_succ]
    refine wpAny_only 1 (by kernel_rfl) rfl (by kernel_rfl) ?_
    refine wp_of_call (ex_call1 (.tmp 24) _ (.agg #[.int .i64 xk, .string xt, .int .i64 xd]) rfl (by kernel_rfl) (enters_of Tryz.func76 (by kernel_rfl) rfl _ _)) (CT.out) ?_
    rintro e w5 ⟨rfl, hw5⟩
    have HBW5 := Lib.hid ((Below.drew HBW.out).trans (hw5.mono HBW.out.size))
    refine ⟨.bool false, rfl, ?_⟩
    simp only [Act.put, List.setIfInBounds_toArray, List.set_cons_zero, List.set_cons_succ]
    refine zzM 2 (.bool false) (some 26) rfl ?_
    refine zzS 3 (some 27) rfl ?_
    refine zzS 4 (some 28) rfl ?_
    refine zzS 5 (some 29) rfl ?_
    refine zzS 6 (some 30) rfl ?_
    refine zzS 7 (some 31) rfl ?_
    refine zzS 8 (some 32) rfl ?_
    refine zzA 9 (.bool false) (some 33) rfl (fun _ => ex_pick _ _ _ false (undef) (.bool false) rfl (by kernel_rfl) (by kernel_rfl) (by kernel_rfl)) ?_
    refine wpAny_done (by kernel_rfl) ?_ _
    simp only [Act.put, List.setIfInBounds_toArray, List.set_cons_zero, List.set_cons_succ]
    go_wp2_with fail
    go_roundg (f.length - (i + 1))
    case measure => omega
    case rel => exact ⟨i + 1, by go_num, hlt, HBW5.out, by omega⟩
  ·obtain rfl : i = f.length := by omega
   go_wp2_with fail
   first | go_ret | skip
   rw [HRR.out]
   exact ⟨rfl, HB.out⟩
end Go.Proofs.YtfkojnofbpdjdaaGreatDoor

namespace Go.Proofs.YtfkojnofbpdjdaaGreatDoor
set_option maxRecDepth 100000
open Go.RowKit
def strV (s : ByteArray) : List Value := [.string s]
def BytesAt (w : World) (v : Value) (r : ByteArray) : Prop := ∃ (g c : Nat) (cur : Array Value) (fr : Nat × Nat), v = .slice (some ⟨g, 0, none⟩) r.size c ∧ r.size ≤ c ∧ w.heap[g]? = some (.cells cur 5 fr) ∧ ∀ (j : Nat) (u : Value), (Go.Lib.strCells r)[j]? = some u → cur[j]? = some u
theorem BytesAt.keep {w w' : World} {v : Value} {r : ByteArray} (h : BytesAt w v r) (hk : ∀ (g : Nat) (cur : Array Value) (fr : Nat × Nat), w.heap[g]? = some (.cells cur 5 fr) → w'.heap[g]? = w.heap[g]?) : BytesAt w' v r := by
 obtain ⟨g, c, cur, fr, hv, hc, hg, hx⟩ := h
 exact ⟨g, c, cur, fr, hv, hc, (hk g cur fr hg).trans hg, hx⟩
structure BsIn (w : World) (Q : Nat) (ps : Prs) (ks : List UInt8) (cs : List Value) (tv : Value) : Prop where
 box : w.heap[Q]? = some (.cells cs.toArray 239)
 len : cs.length = 257
 at_ : ∀ b : UInt8, ∃ v, cs[b.toNat]? = some v ∧ (lk ps b = none → v = .slice none 0 0) ∧ (∀ r, lk ps b = some r → BytesAt w v r)
 tov : cs[256]? = some tv
 tos : RdE strV 1 w tv (ks.map fun b => (⟨#[b]⟩ : ByteArray))
theorem BsIn.below {w w' : World} {Q : Nat} {ps : Prs} {ks : List UInt8} {cs : List Value} {tv : Value} (h : BsIn w Q ps ks cs tv) (hb : Below w.heap.size w w') : BsIn w' Q ps ks cs tv := by
 refine ⟨(hb.block Q (Array.getElem?_eq_some_iff.1 h.box).1).trans h.box, h.len, fun b => ?_, h.tov, RdE.below h.tos hb (Nat.le_refl _)⟩
 obtain ⟨v, h1, h2, h3⟩ := h.at_ b
 exact ⟨v, h1, h2, fun r hr => (h3 r hr).keep fun g cur fr hg => hb.block g (Array.getElem?_eq_some_iff.1 hg).1⟩
theorem BsIn.cell {w : World} {Q : Nat} {ps : Prs} {ks : List UInt8} {cs : List Value} {tv : Value} (h : BsIn w Q ps ks cs tv) (b : UInt8) : (lk ps b = none ∧ w.cell? ⟨Q, b.toNat, none⟩ = some (.slice none 0 0)) ∨ ∃ r g c, lk ps b = some r ∧ r.size ≤ c ∧ w.cell? ⟨Q, b.toNat, none⟩ = some (.slice (some ⟨g, 0, none⟩) r.size c) ∧ g < w.heap.size ∧ ∀ j u, (Go.Lib.strCells r)[j]? = some u → w.cell? ⟨g, j, none⟩ = some u := by
 obtain ⟨v, h1, h2, h3⟩ := h.at_ b
 have hc := box_cell h.box b.toNat h1
 cases hk : lk ps b with
 | none => rw [h2 hk] at hc; exact .inl ⟨rfl, hc⟩
 | some r =>
   obtain ⟨g, c, cur, fr, rfl, hcap, hg, hx⟩ := h3 r hk
   refine .inr ⟨r, g, c, rfl, hcap, hc, (Array.getElem?_eq_some_iff.1 hg).1, fun j u hj => ?_⟩
   rw [World.cell?, hg]
   exact hx j u hj
theorem dL_le (ps : Prs) (h : ∀ p ∈ ps, p.2.size ≤ 100) : ∀ l : List UInt8, dL ps l ≤ 100 * l.length
 | [] => Nat.le_refl _
 | c :: l => by
   have ih := dL_le ps h l
   rw [dL, List.length_cons]
   have : dB ps c ≤ 100 := by
    unfold dB
    cases hk : lk ps c with
    | none => simp
    | some r =>
      have := h _ (lk_mem ps c r hk)
      simp only at this ⊢
      omega
   omega
def bv (c : UInt8) : Value := .int .u8 (c.toNat : Int)
def bufC (l : List UInt8) (N : Nat) : List Value := l.map bv ++ List.replicate (N - l.length) (.int .u8 0)
theorem bufC_len (l : List UInt8) (N : Nat) (h : l.length ≤ N) : (bufC l N).length = N := by
 unfold bufC
 rw [List.length_append, List.length_map, List.length_replicate]
 omega
theorem bufC_app (l m : List UInt8) (N : Nat) (h : l.length + m.length ≤ N) : bufC l N = l.map bv ++ (List.replicate m.length (.int .u8 0) ++ List.replicate (N - (l ++ m).length) (.int .u8 0)) := by
 unfold bufC
 rw [List.replicate_append_replicate, List.length_append]
 congr 2
 omega
theorem buf_splice (l m : List UInt8) (N : Nat) (h : l.length + m.length ≤ N) : splice (bufC l N) l.length (m.map bv) = bufC (l ++ m) N := by
 unfold splice
 rw [bufC_app l m N h, List.length_map]
 have e1 : l.length = (l.map bv).length := by simp
 have e2 : l.length + m.length = (l.map bv ++ List.replicate m.length (Value.int .u8 0)).length := by simp
 rw [show (l.map bv ++ (List.replicate m.length (Value.int .u8 0) ++ List.replicate (N - (l ++ m).length) (Value.int .u8 0))).take l.length = l.map bv by
  conv => lhs; rw [e1]
  exact List.take_left]
 rw [← List.append_assoc (l.map bv) (m.map bv), ← List.append_assoc (l.map bv), show ((l.map bv ++ List.replicate m.length (Value.int .u8 0)) ++ List.replicate (N - (l ++ m).length) (Value.int .u8 0)).drop (l.length + m.length) = List.replicate (N - (l ++ m).length) (Value.int .u8 0) by
  conv => lhs; rw [e2]
  exact List.drop_left]
 unfold bufC
 rw [List.map_append]
theorem buf_set (l : List UInt8) (c : UInt8) (N : Nat) (h : l.length < N) : (bufC l N).set l.length (bv c) = bufC (l ++ [c]) N := by
 rw [bufC_app l [c] N (by simp; omega)]
 unfold bufC
 have e1 : l.length = (l.map bv).length := by simp
 conv => lhs; rw [e1]
 rw [List.set_append_right _ _ (by simp)]
 simp
theorem buf_zero (N : Nat) : madeCells #[.int .u8 0] (N * 1) = (bufC [] N).toArray := by
 unfold bufC madeCells
 apply Array.ext
 ·simp
 ·intro i h1 h2
  simp [Nat.mod_one]
theorem buf_at (l : List UInt8) (N j : Nat) (hj : j = l.length) (h : j < N) : (bufC l N)[j]? = some (.int .u8 0) := by
 subst hj
 rw [bufC_app l [0] N (by simp; omega), List.getElem?_append_right (by simp)]
 simp
theorem u8_size : (Tryz.prog.info? 5).map (·.size) = some 1 := by kernel_rfl
theorem u8_info2 : (Tryz.prog.info? 5).map (fun i => (i.zero, i.size, i.bytes)) = some (some (.int .u8 0), 1, 1) := by kernel_rfl
theorem run_make_u8 (n : Nat) (hn : n ≤ 100000000) (w : World) : (Instr.makeSlice 89 (.int .i64 (n : Int)) (.int .i64 (n : Int))).run Tryz.prog w = .ok (.slice (some ⟨w.heap.size, 0, none⟩) n n) (w.alloc (.cells (bufC [] n).toArray 5)) := by
 obtain ⟨i, hi, hz, hs, hb⟩ := info_parts u8_info2
 have h := run_make (P := Tryz.prog) w 89 5 i _ Tryz.underlying89 hi hz .i64 .i64 (n : Int) (n : Int) (by omega) (Int.le_refl _) (by rw [hb]; omega) (by omega)
 rw [hs] at h
 rw [← buf_zero]
 exact h
theorem repL_take_le (ps : Prs) (l : List UInt8) (i : Nat) : (repL ps (l.take i)).length ≤ (repL ps l).length := by
 conv => rhs; rw [← List.take_append_drop i l, repL_app, List.length_append]
 omega
theorem bsReplace_any (Q : Nat) (ps : Prs) (ks : List UInt8) (cs : List Value) (tv : Value) (s : ByteArray) (w : World) (h : BsIn w Q ps ks cs tv) (hp : PrsOk ps) (hkn : ks.Nodup) (hkm : ∀ c, c ∈ ks ↔ lk ps c ≠ none) (hkl : ks.length ≤ 10) (hs : s.size ≤ 100000) :
 Calls Tryz.prog 266 #[.pointer (some ⟨Q, 0, none⟩), .string s] w fun e w' => e = .returned (.string (ofL (repL ps s.data.toList))) ∧ Below w.heap.size w w' := by
 obtain ⟨R, HRR⟩ : ∃ R : Ending → World → Prop, Hid (R = fun e w' => e = .returned (.string (ofL (repL ps s.data.toList))) ∧ Below w.heap.size w w') := ⟨_, rfl⟩
 rw [← HRR.out]
 obtain ⟨A, c, rfl, hcap, _⟩ := h.tos.shape
 rw [List.length_map] at hcap
 have hto : w.cell? ⟨Q, 256, none⟩ = some (.slice A ks.length c) := by
  have := box_cell h.box 256 h.tov
  rwa [List.length_map] at this
 have HT : Hid (RdE strV 1 w (.slice A ks.length c) (ks.map fun b => (⟨#[b]⟩ : ByteArray))) := by
  have := h.tos
  rwa [List.length_map] at this
 have H := Lib.hid h
 have HP := Lib.hid hp
 have HKN := Lib.hid hkn
 have HKM := Lib.hid hkm
 have hkl8 : ((ks.length : Int) * 8) ≤ 80 := by omega
 clear h hp hkn hkm
 go_enter Tryz.func266, Tryz.ntmps266
 go_upto_if 26 with fail
 go_cut [5, 6] (fun nv av wx => ∃ (b : Bool), nv = .int .i64 (s.size + dL ps s.data.toList : Nat) ∧ av = .bool b ∧ Hid (b = false → dL ps s.data.toList = 0) ∧ Hid (b = true → 1 ≤ dL ps s.data.toList) ∧ Hid (Below w.heap.size w wx))
 case first =>
  have hcnt : ∀ x, (s.data.toList.count x) ≤ s.size := fun x => by rw [Lib.size_eq]; exact List.count_le_length
  by_cases hbig : (ks.length : Int) * 8 ≤ (s.size : Int)
  ·have HEND : Hid (cntL ps s.data.toList ks = dL ps s.data.toList) := cntL_all ps ks HKN.out HKM.out _
   go_wp2_with fail
   rw [show decide ((ks.length : Int) * 8 ≤ (s.size : Int)) = true by simpa using hbig]
   go_loopg [5, 6, 32] ks.length (fun gk nv av iv wr => ∃ (i N : Nat) (b : Bool), iv = .int .i64 i ∧ nv = .int .i64 (N : Nat) ∧ av = .bool b ∧ i ≤ ks.length ∧ Hid (N = s.size + cntL ps s.data.toList (ks.take i)) ∧ N ≤ s.size + i * 10000000 ∧ Hid (b = false → cntL ps s.data.toList (ks.take i) = 0) ∧ Hid (b = true → 1 ≤ cntL ps s.data.toList (ks.take i)) ∧ Hid (Below w.heap.size w wr) ∧ ks.length - i ≤ gk)
   case atStart => exact ⟨0, s.size, false, rfl, rfl, rfl, Nat.zero_le _, rfl, by omega, fun _ => rfl, (fun h => by cases h), Below.refl _ _, Nat.le_refl _⟩
   case round =>
    obtain ⟨i, N, b, rfl, rfl, rfl, hi, HN, hNb, HZ, HZ2, HW, hgk⟩ := hrel
    have HT := Lib.hid (RdE.below HT.out HW.out (Nat.le_refl _))
    have H := Lib.hid (H.out.below HW.out)
    have hto : wr.cell? ⟨Q, 256, none⟩ = some (.slice A ks.length c) := by
     have := box_cell H.out.box 256 H.out.tov
     rwa [List.length_map] at this
    by_cases hlt : i < ks.length
    ·have hii : (i : Int) < (ks.length : Int) := by omega
     have hi0 : (0 : Int) ≤ (i : Int) := by omega
     obtain ⟨bb, oo, hA, hbl, hcell⟩ := HT.out.cells (by simp; omega)
     have q0 := hcell i (⟨#[ks[i]]⟩ : ByteArray) 0 (.string (⟨#[ks[i]]⟩ : ByteArray)) (by simp [List.getElem?_eq_getElem hlt]) rfl
     rw [show oo + (i * 1 + 0) = oo + i by omega] at q0
     subst hA
     have hmem : lk ps ks[i] ≠ none := (HKM.out _).1 (List.getElem_mem hlt)
     have hst : ks.take (i + 1) = ks.take i ++ [ks[i]] := List.take_succ_eq_append_getElem hlt
     have hct := hcnt ks[i]
     have hC := Tryz.strings_Count_one s ks[i] wr
     have hbv : ∀ (z : UInt8) h, ((⟨#[z]⟩ : ByteArray)[0]'h).toNat = z.toNat := fun _ _ => rfl
     have hb256 := UInt8.toNat_lt ks[i]
     have hcntL : cntL ps s.data.toList (ks.take (i + 1)) = cntL ps s.data.toList (ks.take i) + s.data.toList.count ks[i] * dB ps ks[i] := by
      rw [hst, cntL_app]
      rfl
     have HCL := Lib.hid hcntL
     have HC := Lib.hid hC
     have hce := H.out.cell ks[i]
     have hps : ∀ r, lk ps ks[i] = some r → 2 ≤ r.size ∧ r.size ≤ 100 := fun r hr => HP.out.1 _ (lk_mem ps _ r hr)
     have hdB : ∀ r, lk ps ks[i] = some r → dB ps ks[i] = r.size - 1 := fun r hr => by unfold dB; rw [hr]
     clear hC hcntL hst hcell
     generalize ks[i] = x at q0 hmem hct hbv hb256 HCL HC hce hps hdB
     rcases hce with ⟨hn, _⟩ | ⟨r, g, c2, hr, hc2, hcl, hg, _⟩
     ·exact absurd hn hmem
     ·obtain ⟨hr2, hr100⟩ := hps r hr
      rw [hdB r hr] at HCL
      clear hps hdB hmem hr
      change Hid (Calls _ _ _ wr fun e w' => e = .returned (.int .i64 ((s.data.toList.count x : Nat) : Int)) ∧ w' = wr) at HC
      generalize s.data.toList.count x = k at hct HCL HC
      by_cases hk0 : k = 0
      ·subst hk0
       rw [Nat.zero_mul, Nat.add_zero] at HCL
       have HN1 : Hid (N = s.size + cntL ps s.data.toList (ks.take (i + 1))) := by show _ = _; rw [HCL.out]; exact HN.out
       have hNb1 : N ≤ s.size + (i + 1) * 10000000 := Nat.le_trans hNb (Nat.add_le_add_left (Nat.mul_le_mul_right _ (Nat.le_succ i)) _)
       have HZ1 : Hid (b = false → cntL ps s.data.toList (ks.take (i + 1)) = 0) := fun hb => by rw [HCL.out]; exact HZ.out hb
       have HZ3 : Hid (b = true → 1 ≤ cntL ps s.data.toList (ks.take (i + 1))) := fun hb => by rw [HCL.out]; exact HZ2.out hb
       go_wp2_with (go_at_call 268; refine (HC.out).mono ?_; rintro e w' ⟨rfl, rfl⟩)
       go_roundg (ks.length - (i + 1))
       case measure => omega
       case rel => exact ⟨i + 1, N, b, by go_num, rfl, rfl, hlt, HN1.out, hNb1, HZ1.out, HZ3.out, HW.out, by omega⟩
      ·have hkn0 : ((k : Int) != 0) = true := by simpa using hk0
       have hkn1 : ¬ (k : Int) = 0 := by omega
       obtain ⟨p, hpe⟩ : ∃ p, Hid (p = k * (r.size - 1)) := ⟨_, rfl⟩
       have hpb : p ≤ 10000000 := by
        rw [hpe.out]
        calc k * (r.size - 1) ≤ 100000 * 100 := Nat.mul_le_mul (by omega) (by omega)
         _ = 10000000 := by decide
       have hpp : 1 ≤ p := by
        rw [hpe.out]
        exact Nat.mul_pos (by omega) (by omega)
       have hmul : (k : Int) * ((r.size : Int) - 1) = (p : Int) := by
        rw [hpe.out, Int.natCast_mul, Int.natCast_sub (by omega)]
        rfl
       rw [← hpe.out] at HCL
       have hNp : (i : Nat) * 10000000 ≤ 100000000 := by omega
       have HN1 : Hid (N + p = s.size + cntL ps s.data.toList (ks.take (i + 1))) := by show _ = _; rw [HCL.out, HN.out]; omega
       go_wp2_with (go_at_call 268; refine (HC.out).mono ?_; rintro e w' ⟨rfl, rfl⟩)
       go_region
       all_goals (
        go_wp2_with fail
        go_roundg (ks.length - (i + 1))
        case measure => omega
        case rel => exact ⟨i + 1, N + p, true, by go_num, by go_num, rfl, hlt, HN1.out, by omega, (fun hb => by cases hb), (fun _ => by rw [HCL.out]; omega), HW.out.drew, by omega⟩)
    ·obtain rfl : i = ks.length := by omega
     rw [List.take_length, HEND.out] at HN HZ HZ2
     have hN := HN.out
     go_wp2_with fail
     go_meet
     exact ⟨b, by rw [hN], rfl, HZ.out, HZ2.out, HW.out⟩
  ·have HSZ := Lib.hid (Lib.size_eq s)
   go_wp2_with fail
   rw [show decide ((ks.length : Int) * 8 ≤ (s.size : Int)) = false by simpa using hbig]
   go_loopg [5, 6, 10] s.size (fun gk nv av iv wr => ∃ (i N : Nat) (b : Bool), iv = .int .i64 i ∧ nv = .int .i64 (N : Nat) ∧ av = .bool b ∧ i ≤ s.size ∧ Hid (N = s.size + dL ps (s.data.toList.take i)) ∧ N ≤ s.size + i * 100 ∧ Hid (b = false → dL ps (s.data.toList.take i) = 0) ∧ Hid (b = true → 1 ≤ dL ps (s.data.toList.take i)) ∧ Hid (Below w.heap.size w wr) ∧ s.size - i ≤ gk)
   case atStart => exact ⟨0, s.size, false, rfl, rfl, rfl, Nat.zero_le _, rfl, by omega, fun _ => rfl, (fun h => by cases h), Below.refl _ _, Nat.le_refl _⟩
   case round =>
    obtain ⟨i, N, b, rfl, rfl, rfl, hi, HN, hNb, HZ, HZ2, HW, hgk⟩ := hrel
    have H := Lib.hid (H.out.below HW.out)
    by_cases hlt : i < s.size
    ·have hii : (i : Int) < (s.size : Int) := by omega
     have hi0 : (0 : Int) ≤ (i : Int) := by omega
     have hst : s.data.toList.take (i + 1) = s.data.toList.take i ++ [s[i]] := by
      rw [List.take_succ_eq_append_getElem (by rw [← HSZ.out]; exact hlt)]
      rfl
     have HDL : Hid (dL ps (s.data.toList.take (i + 1)) = dL ps (s.data.toList.take i) + dB ps s[i]) := by
      show _ = _
      rw [hst, dL_app]
      rfl
     have hce := H.out.cell s[i]
     have hps : ∀ r, lk ps s[i] = some r → 2 ≤ r.size ∧ r.size ≤ 100 := fun r hr => HP.out.1 _ (lk_mem ps _ r hr)
     have hdB : ∀ r, lk ps s[i] = some r → dB ps s[i] = r.size - 1 := fun r hr => by unfold dB; rw [hr]
     have hb256 := UInt8.toNat_lt s[i]
     clear hst
     rcases hce with ⟨hn, hcl⟩ | ⟨r, g, c2, hr, hc2, hcl, hg, _⟩
     ·have hd0 : dB ps s[i] = 0 := by unfold dB; rw [hn]
      rw [hd0, Nat.add_zero] at HDL
      have HN1 : Hid (N = s.size + dL ps (s.data.toList.take (i + 1))) := by show _ = _; rw [HDL.out]; exact HN.out
      have HZ1 : Hid (b = false → dL ps (s.data.toList.take (i + 1)) = 0) := fun hb => by rw [HDL.out]; exact HZ.out hb
      have HZ3 : Hid (b = true → 1 ≤ dL ps (s.data.toList.take (i + 1))) := fun hb => by rw [HDL.out]; exact HZ2.out hb
      clear hps hdB hn hd0
      go_wp2_with fail
      go_roundg (s.size - (i + 1))
      case measure => omega
      case rel => exact ⟨i + 1, N, b, by go_num, rfl, rfl, hlt, HN1.out, by omega, HZ1.out, HZ3.out, HW.out, by omega⟩
     ·obtain ⟨hr2, hr100⟩ := hps r hr
      rw [hdB r hr] at HDL
      clear hps hdB hr
      have hri : ((r.size : Int) - 1) = ((r.size - 1 : Nat) : Int) := by omega
      have HN1 : Hid (N + (r.size - 1) = s.size + dL ps (s.data.toList.take (i + 1))) := by show _ = _; rw [HDL.out, HN.out]; omega
      go_wp2_with fail
      first | (go_region; all_goals go_wp2_with fail) | skip
      all_goals (
       go_roundg (s.size - (i + 1))
       case measure => omega
       case rel => exact ⟨i + 1, N + (r.size - 1), true, by go_num, by first | go_num | (congr 1; omega), rfl, hlt, HN1.out, by omega, (fun hb => by cases hb), (fun _ => by rw [HDL.out]; omega), (by first | exact HW.out | exact HW.out.drew), by omega⟩)
    ·obtain rfl : i = s.size := by omega
     rw [show s.data.toList.take s.size = s.data.toList by rw [HSZ.out]; exact List.take_length] at HN HZ HZ2
     have hN := HN.out
     go_wp2_with fail
     go_meet
     exact ⟨b, by rw [hN], rfl, HZ.out, HZ2.out, HW.out⟩
 case rest =>
  obtain ⟨b, rfl, rfl, HZ, HZ2, HW⟩ := hcut
  have hlen := rep_len ps (fun p hp => (HP.out.1 p hp).1) s.data.toList
  rw [← Lib.size_eq] at hlen
  have hdl := dL_le ps (fun p hp => (HP.out.1 p hp).2) s.data.toList
  rw [← Lib.size_eq] at hdl
  cases b with
  | false =>
    have hsame : repL ps s.data.toList = s.data.toList := rep_same ps _ (dL_zero ps (fun p hp => (HP.out.1 p hp).1) _ (HZ.out rfl))
    have HE : Hid (ofL (repL ps s.data.toList) = s) := by show _ = _; rw [hsame]; exact ofL_of s
    clear hlen hdl hsame
    go_wp2_with fail
    first | go_ret | skip
    rw [HRR.out]
    exact ⟨by rw [HE.out], HW.out⟩
  | true =>
    have hd1 := HZ2.out rfl
    obtain ⟨N, HNE⟩ : ∃ N, Hid (N = s.size + dL ps s.data.toList) := ⟨_, rfl⟩
    have HNL : Hid ((repL ps s.data.toList).length = N) := by show _ = _; rw [HNE.out]; exact hlen
    have hN1 : 1 ≤ N := by rw [HNE.out]; omega
    have hNm : N ≤ 100000000 := by rw [HNE.out]; omega
    rw [← HNE.out]
    have hmk := run_make_u8 N hNm
    have hzc := HW.out.size
    have HG0 : Hid ((wc.alloc (.cells (bufC [] N).toArray 5)).heap[wc.heap.size]? = some (.cells (bufC [] N).toArray 5)) := Array.getElem?_push_size
    have HWA := Lib.hid (HW.out.alloc hzc (.cells (bufC [] N).toArray 5))
    have HHS := Lib.hid (Lib.size_eq s)
    clear HZ HZ2 hd1 hlen hdl
    obtain ⟨G, hG⟩ : ∃ G, Hid (G = wc.heap.size) := ⟨_, rfl⟩
    go_upto_region 22 with fail
    rw [← hG.out] at HG0 hzc ⊢
    generalize wc.alloc (.cells (bufC [] N).toArray 5) = w1 at HG0 HWA ⊢
    clear hmk HW hG
    go_wp2_with fail
    go_loopg [13, 14] s.size (fun gk jv iv wr => ∃ i, iv = .int .i64 (i : Nat) ∧ jv = .int .i64 ((repL ps (s.data.toList.take i)).length : Nat) ∧ i ≤ s.size ∧ Hid (wr.heap[G]? = some (.cells (bufC (repL ps (s.data.toList.take i)) N).toArray 5)) ∧ Hid (Below w.heap.size w wr) ∧ s.size - i ≤ gk)
    case atStart => exact ⟨0, rfl, rfl, Nat.zero_le _, HG0.out, HWA.out, Nat.le_refl _⟩
    case round =>
     clear HG0 HWA
     obtain ⟨i, rfl, rfl, hi, HG, HW, hgk⟩ := hrel
     by_cases hlt : i < s.size
     ·have hii : (i : Int) < (s.size : Int) := by omega
      have hi0 : (0 : Int) ≤ (i : Int) := by omega
      have H := Lib.hid (H.out.below HW.out)
      have hst : s.data.toList.take (i + 1) = s.data.toList.take i ++ [s[i]] := by
       rw [List.take_succ_eq_append_getElem (by rw [← HHS.out]; exact hlt)]
       rfl
      have HRL : Hid (repL ps (s.data.toList.take (i + 1)) = repL ps (s.data.toList.take i) ++ repB ps s[i]) := by
       show _ = _
       rw [hst, repL_app]
       simp [repL]
      have hle := repL_take_le ps s.data.toList (i + 1)
      rw [HRL.out, HNL.out, List.length_append] at hle
      have hce := H.out.cell s[i]
      have hrbN : lk ps s[i] = none → repB ps s[i] = [s[i]] := fun hq => by unfold repB; rw [hq]
      have hrbS : ∀ r, lk ps s[i] = some r → repB ps s[i] = r.data.toList := fun r hq => by unfold repB; rw [hq]
      have hps : ∀ r, lk ps s[i] = some r → 2 ≤ r.size ∧ r.size ≤ 100 := fun r hr => HP.out.1 _ (lk_mem ps _ r hr)
      have hb256 := UInt8.toNat_lt s[i]
      clear hst
      obtain ⟨pre, hpre⟩ : ∃ pre, Hid (pre = repL ps (s.data.toList.take i)) := ⟨_, rfl⟩
      rw [← hpre.out] at HRL hle HG ⊢
      rcases hce with ⟨hn, hcl⟩ | ⟨r, g, c2, hr, hc2, hcl, hgl, hgc⟩
      ·rw [hrbN hn] at HRL hle
       simp only [List.length_singleton] at hle
       clear hrbN hrbS hps hn
       have hj1 : (0 : Int) ≤ (pre.length : Int) := by omega
       have hj2 : (pre.length : Int) < (N : Int) := by omega
       have p0 : wr.cell? ⟨G, pre.length, none⟩ = some (.int .u8 0) := box_cell HG.out pre.length (buf_at pre N _ rfl (by omega))
       have f0 := frozen_rowM HG.out pre.length
       have HG1 : Hid ((wr.setCell ⟨G, pre.length, none⟩ (.int .u8 (s[i].toNat : Int))).heap[G]? = some (.cells (bufC (repL ps (s.data.toList.take (i + 1))) N).toArray 5)) := by
        show _ = _
        rw [set_row HG.out, HRL.out, ← buf_set pre s[i] N (by omega), List.setIfInBounds_toArray]
        rfl
       have HL1 : Hid (((pre.length : Int) + 1) = (((repL ps (s.data.toList.take (i + 1))).length : Nat) : Int)) := by
        show _ = _
        rw [HRL.out, List.length_append]
        simp
       have HW1 := Lib.hid (HW.out.setCell (p := ⟨G, pre.length, none⟩) hzc (.int .u8 (s[i].toNat : Int)))
       generalize pre.length = pl at p0 f0 hj1 hj2 HG1 HL1 HW1 ⊢
       go_wp2_with fail
       rw [HL1.out]
       go_roundg (s.size - (i + 1))
       case measure => omega
       case rel => exact ⟨i + 1, by go_num, rfl, hlt, HG1.out, HW1.out, by omega⟩
      ·obtain ⟨hr2, hr100⟩ := hps r hr
       rw [hrbS r hr] at HRL hle
       simp only [← Lib.size_eq] at hle
       clear hrbN hrbS hps hr
       have hj1 : (0 : Int) ≤ (pre.length : Int) := by omega
       have hj2 : (pre.length : Int) ≤ (N : Int) := by omega
       have hj3 : pre.length < N := by omega
       have hb256i : (s[i].toNat : Int) < 256 := by omega
       have hjN : ¬ N < pre.length := by omega
       have hj4 : ¬ N = pre.length := by omega
       have hsp := buf_splice pre r.data.toList N (by rw [← Lib.size_eq]; exact hle)
       have HSP := Lib.hid hsp
       have HL1 : Hid (((pre.length : Int) + (r.size : Int)) = (((repL ps (s.data.toList.take (i + 1))).length : Nat) : Int)) := by
        show _ = _
        rw [HRL.out, List.length_append, ← Lib.size_eq]
        simp
       have hGlt : wr.drew.heap[G]? = some (.cells (bufC pre N).toArray 5) := HG.out
       have HGC : Hid (∀ (j : Nat) (v : Value), (r.data.toList.map bv)[j]? = some v → wr.drew.cell? ((⟨g, 0, none⟩ : Addr).add j) = some v) := fun j v hj => by
        have := hgc j v hj
        have e : (⟨g, 0, none⟩ : Addr).add j = ⟨g, j, none⟩ := by cases j <;> simp [Addr.add]
        rw [e]
        exact this
       have HHR := Lib.hid (Lib.size_eq r)
       have HPL : Hid ((bufC pre N).length = N) := bufC_len pre N (by omega)
       clear hsp
       go_wp2_with fail
       go_region_law (refine step_copy_splice rfl (.tmp 105) (.tmp 111) 89 89 rfl 5 Tryz.underlying89 u8_size (some ⟨G, pre.length, none⟩) (some ⟨g, 0, none⟩) (N - pre.length) (N - pre.length) r.size c2 (by simp [Act.eval]) (by simp [Act.eval]) G pre.length (bufC pre N) 5 hGlt (r.data.toList.map bv) (by rw [List.length_map, ← HHR.out]; exact (Nat.min_eq_left (by omega)).symm) (fun _ => ⟨rfl, _, rfl, HGC.out⟩) (by rw [List.length_map, ← HHR.out, HPL.out]; exact hle) (fun v hv => by obtain ⟨b, _, rfl⟩ := List.mem_map.1 hv; rfl) w.heap.size w (by exact HW.out.drew) hzc ?_; intro w4 hg4 hb4)
       all_goals (
        have HG1 : Hid (w4.heap[G]? = some (.cells (bufC (repL ps (s.data.toList.take (i + 1))) N).toArray 5)) := by
         show _ = _
         rw [hg4.out, HSP.out, HRL.out]
        have HW4 := Lib.hid hb4
        have HLW : Hid (IntKind.i64.wrap ((pre.length : Int) + (r.size : Int)) = (((repL ps (s.data.toList.take (i + 1))).length : Nat) : Int)) := by
         show _ = _
         rw [IntKind.wrap_i64, ← HL1.out]
         omega
        clear hg4 hb4 hGlt hcl hgc
        go_wp2_with fail
        first | rw [HLW.out] | rw [HL1.out] | skip
        go_roundg (s.size - (i + 1))
        case measure => omega
        case rel => exact ⟨i + 1, by go_num, by first | rfl | (rw [← HL1.out]), hlt, HG1.out, HW4.out, by omega⟩)
     ·obtain rfl : i = s.size := by omega
      rw [show s.data.toList.take s.size = s.data.toList by rw [HHS.out]; exact List.take_length] at HG ⊢
      have hS : (ofL (repL ps s.data.toList)).size = N := by rw [Lib.size_eq, ← HNL.out]; simp [ofL]
      have hsc : Go.Lib.strCells (ofL (repL ps s.data.toList)) = bufC (repL ps s.data.toList) N := by
       unfold Go.Lib.strCells bufC
       rw [HNL.out, Nat.sub_self]
       simp [ofL, bv]
      have hown : wr.ownsRow w.heap.size 5 1 (.slice (some ⟨G, 0, none⟩) N N) N (Go.Lib.strCells (ofL (repL ps s.data.toList))) := by
       rw [hsc]
       refine ⟨by rw [bufC_len _ _ (by rw [HNL.out]; exact Nat.le_refl _)]; omega, .inr ⟨G, N, _, rfl, hzc, HG.out, Nat.le_refl _, by unfold maxLen; omega, ?_, ?_⟩⟩
       ·rw [List.size_toArray, bufC_len _ _ (by rw [HNL.out]; exact Nat.le_refl _), Nat.mul_one]
       ·rw [Nat.mul_one]
        exact List.take_of_length_le (by rw [bufC_len _ _ (by rw [HNL.out]; exact Nat.le_refl _)]; exact Nat.le_refl _)
      have hcv := run_string_own (w := wr) (ofL (repL ps s.data.toList)) 89 9 Tryz.underlying89 Tryz.underlying5 Tryz.underlying9 hown hS.symm (by omega)
      clear hown hsc hS
      generalize ofL (repL ps s.data.toList) = res at hcv HRR
      go_wp2_with fail
      first | go_ret | skip
      rw [HRR.out]
      exact ⟨rfl, HW.out⟩
end Go.Proofs.YtfkojnofbpdjdaaGreatDoor

namespace Go.Proofs.YtfkojnofbpdjdaaGreatDoor
set_option maxRecDepth 100000
open Go.RowKit
def zB : Array Value := Array.replicate 257 (.slice none 0 0)
theorem zB_zero (w : World) : (zeroValue 239).run Tryz.prog w = .ok (.agg zB) w := by
 kernel_rfl
theorem zB_info : (Tryz.prog.info? 239).map (·.size) = some 257 := by kernel_rfl
theorem built_B (A : Option Addr) (n c : Nat) : Tryz.prog.built 239 [(1, .slice A n c)] = some (zB.setIfInBounds 256 (.slice A n c)) := by
 kernel_rfl
theorem alloc_B {o : Oper} {a : Act} {w : World} (ho : o.op = .alloc 239) : (execOp a.eval o).run Tryz.prog w = .ok (.value (.pointer (some ⟨w.heap.size, 0, none⟩))) (w.alloc (.cells zB 239)) := by
 have h : (Instr.alloc 239 true (.tuple #[])).run Tryz.prog w = .ok (.pointer (some ⟨w.heap.size, 0, none⟩)) (w.alloc (.cells zB 239)) := by
  unfold Instr.alloc
  rw [Sem.run_bind, zB_zero, Result.andThen_ok]
  simp [newVar, Value.cells, newRow]
 unfold execOp
 simp only [ho, Sem.run_bind, h, Result.andThen_ok, Sem.run_pure]
structure BsB (B : Nat) (w : World) (Q : Nat) (ps : Prs) (ks : List UInt8) (cs : List Value) (tv : Value) : Prop where
 box : w.heap[Q]? = some (.cells cs.toArray 239)
 len : cs.length = 257
 at_ : ∀ b : UInt8, ∃ v, cs[b.toNat]? = some v ∧ (lk ps b = none → v = .slice none 0 0) ∧ (∀ r, lk ps b = some r → BytesAt w v r)
 tov : cs[256]? = some tv
 own : OwnE 9 strV 1 w B tv (ks.map fun b => (⟨#[b]⟩ : ByteArray))
section
variable {B : Nat} {w w' : World} {Q : Nat} {ps : Prs} {ks ks' : List UInt8} {cs : List Value} {tv tv' : Value}
theorem BsB.lt (h : BsB B w Q ps ks cs tv) : Q < w.heap.size := (Array.getElem?_eq_some_iff.1 h.box).1
theorem BsB.bsIn (h : BsB B w Q ps ks cs tv) : BsIn w Q ps ks cs tv := ⟨h.box, h.len, h.at_, h.tov, OwnE.rd (fun _ => rfl) h.own⟩
theorem BsB.below (h : BsB B w Q ps ks cs tv) (hb : Below w.heap.size w w') : BsB B w' Q ps ks cs tv := by
 refine ⟨(hb.block Q h.lt).trans h.box, h.len, fun b => ?_, h.tov, (Mod.of_below hb).own h.own fun _ _ hf => hf⟩
 obtain ⟨v, h1, h2, h3⟩ := h.at_ b
 exact ⟨v, h1, h2, fun r hr => (h3 r hr).keep fun g cur fr hg => hb.block g (Array.getElem?_eq_some_iff.1 hg).1⟩
theorem BsB.push (h : BsB B w Q ps ks cs tv) (ho : OwnE 9 strV 1 w' B tv' (ks'.map fun b => (⟨#[b]⟩ : ByteArray))) (hg : w.grownBy w' tv.ownBlock) :
 BsB B (w'.setCell ⟨Q, 256, none⟩ tv') Q ps ks' (cs.set 256 tv') tv' := by
 have hbox : w'.heap[Q]? = some (.cells cs.toArray 239) := (hg.block Q h.lt (fun e => own_apart h.own h.box (by decide) Q e.symm rfl)).trans h.box
 have hlen := h.len
 have hs := Mod.set w' Q 256 tv'
 refine ⟨by rw [set_row hbox]; simp, by simp [hlen], fun b => ?_, by simp [hlen], hs.own ho fun k hk e => own_apart ho hbox (by decide) k hk e⟩
 obtain ⟨v, h1, h2, h3⟩ := h.at_ b
 have hb := UInt8.toNat_lt b
 refine ⟨v, by rw [List.getElem?_set_ne (by omega)]; exact h1, h2, fun r hr => (h3 r hr).keep fun g cur fr hgc => ?_⟩
 have hgl := (Array.getElem?_eq_some_iff.1 hgc).1
 refine (Below.heap_setCell _ _ _ _ (by intro e; rw [show g = Q from e, h.box] at hgc; injection hgc with hgc; injection hgc with _ e2 _; revert e2; decide)).trans (hg.block g hgl fun e => ?_)
 obtain ⟨cur', hc'⟩ := own_row_at h.own e.symm
 rw [hc'] at hgc
 injection hgc with hgc
 injection hgc with _ e2 _
 revert e2
 decide
theorem BsB.put (h : BsB B w Q ps ks cs tv) (b : UInt8) (r : ByteArray) (v : Value) (hv : BytesAt w v r) : BsB B (w.setCell ⟨Q, b.toNat, none⟩ v) Q ((b, r) :: ps) ks (cs.set b.toNat v) tv := by
 have hlen := h.len
 have hb := UInt8.toNat_lt b
 have hs := Mod.set w Q b.toNat v
 have hk : ∀ (g : Nat) (cur : Array Value) (fr : Nat × Nat), w.heap[g]? = some (.cells cur 5 fr) → (w.setCell ⟨Q, b.toNat, none⟩ v).heap[g]? = w.heap[g]? := fun g cur fr hgc =>
  Below.heap_setCell _ _ _ _ (by intro e; rw [show g = Q from e, h.box] at hgc; injection hgc with hgc; injection hgc with _ e2 _; revert e2; decide)
 refine ⟨by rw [set_row h.box]; simp, by simp [hlen], fun d => ?_, by rw [List.getElem?_set_ne (by omega)]; exact h.tov, hs.own h.own fun k hk e => own_apart h.own h.box (by decide) k hk e⟩
 by_cases hd : b = d
 ·subst hd
  refine ⟨v, by rw [List.getElem?_set_self (by omega)], fun hn => ?_, fun r' hr => ?_⟩
  ·rw [lk, if_pos rfl] at hn
   cases hn
  ·rw [lk, if_pos rfl] at hr
   injection hr with hr
   subst hr
   exact hv.keep hk
 ·obtain ⟨v', h1, h2, h3⟩ := h.at_ d
  refine ⟨v', by rw [List.getElem?_set_ne (fun e => hd (UInt8.toNat_inj.1 e))]; exact h1, fun hn => ?_, fun r' hr => ?_⟩
  ·rw [lk, if_neg hd] at hn
   exact h2 hn
  ·rw [lk, if_neg hd] at hr
   exact (h3 r' hr).keep hk
end
theorem zB_all (A : Option Addr) (n c : Nat) : (zB.setIfInBounds 256 (.slice A n c)).all (·.oneCell') = true := by kernel_rfl
theorem zB_size (A : Option Addr) (n c : Nat) : (zB.setIfInBounds 256 (.slice A n c)).size = 257 := by
 rw [Array.size_setIfInBounds]
 unfold zB
 rw [Array.size_replicate]
theorem mod_setRow (w : World) (g : Nat) (cs : Array Value) : Mod (fun k => k = g) w (w.setRow g cs) :=
 ⟨rfl, rfl, rfl, by simp [World.setRow], fun k _ hn => setRow_other w g k cs hn⟩
theorem BsB.start {B : Nat} {w : World} {A : Option Addr} {c : Nat} (ho : OwnE 9 strV 1 w B (.slice A 0 c) ([] : List ByteArray)) :
 BsB B ((w.alloc (.cells zB 239)).setRow w.heap.size (zB.setIfInBounds 256 (.slice A 0 c))) w.heap.size [] [] (zB.setIfInBounds 256 (.slice A 0 c)).toList (.slice A 0 c) := by
 have hl : zB.size = 257 := by unfold zB; rw [Array.size_replicate]
 have hh := heap_alloc_new w (.cells zB 239)
 refine ⟨?_, by rw [Array.length_toList, Array.size_setIfInBounds, hl], fun b => ?_, ?_, (mod_setRow _ _ _).own (World.ownsRow.alloc ho _) fun k hk e => ?_⟩
 ·rw [Array.toArray_toList]
  exact setRow_heap _ _ _ _ _ _ hh
 ·have hb := UInt8.toNat_lt b
  refine ⟨.slice none 0 0, ?_, fun _ => rfl, fun r hr => by cases hr⟩
  rw [Array.getElem?_toList, Array.getElem?_setIfInBounds_ne (by omega)]
  unfold zB
  rw [Array.getElem?_replicate, if_pos (by omega)]
 ·rw [Array.getElem?_toList, Array.getElem?_setIfInBounds_self_of_lt (by rw [hl]; decide)]
 ·have := (ho.lt k hk).2
  omega
theorem bytes_conv (w : World) (r : ByteArray) (h : r.size ≤ grownCap w r.size 0 5) : BytesAt (w.drew.alloc (.cells (bytesRow r (grownCap w r.size 0 5)) 5 ((bytesRow r (grownCap w r.size 0 5)).size, (bytesRow r (grownCap w r.size 0 5)).size + 1))) (.slice (some ⟨w.heap.size, 0, none⟩) r.size (grownCap w r.size 0 5)) r := by
 refine ⟨w.heap.size, _, _, _, rfl, h, heap_alloc_new w.drew _, fun j u hj => ?_⟩
 unfold bytesRow
 have hl : j < (Go.Lib.strCells r).length := (List.getElem?_eq_some_iff.1 hj).1
 have hl2 : (Go.Lib.strCells r).length = r.data.size := by unfold Go.Lib.strCells; simp
 rw [Array.getElem?_append_left (by rw [Array.size_map]; omega), Array.getElem?_map]
 unfold Go.Lib.strCells at hj
 rw [List.getElem?_map] at hj
 rw [← Array.getElem?_toList]
 exact hj
def flatP (ps : Prs) : List ByteArray := ps.flatMap fun p => [(⟨#[p.1]⟩ : ByteArray), p.2]
theorem flatP_len : ∀ ps : Prs, (flatP ps).length = 2 * ps.length
 | [] => rfl
 | p :: ps => by
   rw [show flatP (p :: ps) = [(⟨#[p.1]⟩ : ByteArray), p.2] ++ flatP ps from rfl, List.length_append, flatP_len ps, List.length_cons, List.length_cons, List.length_cons]
   simp
   omega
theorem flatP_at : ∀ (ps : Prs) (j : Nat) (h : j < ps.length), (flatP ps)[2 * j]? = some (⟨#[ps[j].1]⟩ : ByteArray) ∧ (flatP ps)[2 * j + 1]? = some ps[j].2
 | p :: ps, 0, _ => ⟨rfl, rfl⟩
 | p :: ps, j + 1, h => by
   obtain ⟨h1, h2⟩ := flatP_at ps j (by simpa using h)
   rw [show flatP (p :: ps) = (⟨#[p.1]⟩ : ByteArray) :: p.2 :: flatP ps from rfl, show 2 * (j + 1) = 2 * j + 1 + 1 by omega]
   exact ⟨by rw [List.getElem?_cons_succ, List.getElem?_cons_succ]; exact h1, by rw [List.getElem?_cons_succ, List.getElem?_cons_succ]; exact h2⟩
end Go.Proofs.YtfkojnofbpdjdaaGreatDoor

namespace Go.Proofs.YtfkojnofbpdjdaaGreatDoor
set_option maxRecDepth 100000
open Go.RowKit
theorem str_info : (Tryz.prog.info? 9).map (fun i => (i.zero, i.size, i.bytes)) = some (some (.string ⟨#[]⟩), 1, 16) := by kernel_rfl
theorem nil_eq (w : World) : (binOp .eql 89 (.slice none 0 0) (.slice none 0 0)).run Tryz.prog w = .ok (.bool true) w := by
 kernel_rfl
theorem conv_one (w : World) (c : UInt8) : (convert 89 9 (.slice (some ⟨w.heap.size, 0, none⟩) 1 1)).run Tryz.prog (w.alloc (.cells #[.int .u8 (c.toNat : Int)] 5)) = .ok (.string (⟨#[c]⟩ : ByteArray)) (w.alloc (.cells #[.int .u8 (c.toNat : Int)] 5)) :=
 run_string_own (base := w.heap.size) (⟨#[c]⟩ : ByteArray) 89 9 Tryz.underlying89 Tryz.underlying5 Tryz.underlying9 ⟨rfl, .inr ⟨w.heap.size, 1, _, rfl, Nat.le_refl _, heap_alloc_new w _, Nat.le_refl _, by unfold maxLen; decide, rfl, rfl⟩⟩ rfl (by decide)
theorem strV_flat : ∀ kp : List UInt8, ((kp.map fun b => (⟨#[b]⟩ : ByteArray)).flatMap strV) = kp.map fun b => Value.string (⟨#[b]⟩ : ByteArray)
 | [] => rfl
 | x :: l => by rw [List.map_cons, List.flatMap_cons, strV_flat l]; rfl
theorem own_snoc_str {w : World} {B : Nat} {v : Value} {kp : List UInt8} {c : UInt8} (h : w.ownsRow B 9 1 v (kp.length + 1) ((kp.map fun b => Value.string (⟨#[b]⟩ : ByteArray)) ++ [.string (⟨#[c]⟩ : ByteArray)])) : OwnE 9 strV 1 w B v ((kp ++ [c]).map fun b => (⟨#[b]⟩ : ByteArray)) := by
 unfold OwnE
 rw [strV_flat, List.length_map, List.length_append, List.map_append]
 exact h
theorem BsB.grQ {B : Nat} {w w' : World} {Q : Nat} {ps : Prs} {ks : List UInt8} {cs : List Value} {tv : Value} (h : BsB B w Q ps ks cs tv) (hg : w.grownBy w' tv.ownBlock) : w'.heap[Q]? = some (.cells cs.toArray 239) := (hg.block Q h.lt (fun e => own_apart h.own h.box (by decide) Q e.symm rfl)).trans h.box
def BuiltRet (ps : Prs) (w : World) (e : Ending) (w' : World) : Prop :=
 ∃ Q cs tv, e = .returned (.iface 240 (.pointer (some ⟨Q, 0, none⟩))) ∧ BsB w.heap.size w' Q ps (ps.map (·.1)).reverse cs tv ∧ Below w.heap.size w w'
theorem build_any (R : Nat) (ps : Prs) (d0 d1 d2 ov : Value) (w : World) (hbox : w.heap[R]? = some (.cells #[d0, d1, d2, .nilIface, ov] 161)) (hl : RdE strV 1 w ov (flatP ps)) (h2 : 2 ≤ ps.length) (h10 : ps.length ≤ 10) (hp : PrsOk ps) :
 Calls Tryz.prog 119 #[.pointer (some ⟨R, 0, none⟩)] w (BuiltRet ps w) := by
 obtain ⟨RR, HRR⟩ : ∃ RR : Ending → World → Prop, Hid (RR = BuiltRet ps w) := ⟨_, rfl⟩
 rw [← HRR.out]
 obtain ⟨A, c, rfl, hcap, _⟩ := hl.shape
 have q4 : w.cell? ⟨R, 4, none⟩ = some (.slice A (2 * ps.length) c) := by
  rw [← flatP_len]
  exact box_cell (l := [d0, d1, d2, .nilIface, .slice A (flatP ps).length c]) hbox 4 rfl
 rw [flatP_len] at hcap hl
 obtain ⟨b, o, rfl, hbl, hcell⟩ := hl.cells (by rw [flatP_len]; omega)
 have HC0 : Hid (∀ (j : Nat) (p : UInt8 × ByteArray), ps[j]? = some p → w.cell? ⟨b, o + 2 * j, none⟩ = some (.string (⟨#[p.1]⟩ : ByteArray)) ∧ w.cell? ⟨b, o + (2 * j + 1), none⟩ = some (.string p.2)) := fun j p h => by
  obtain ⟨hlt, rfl⟩ := List.getElem?_eq_some_iff.1 h
  obtain ⟨h1, h3⟩ := flatP_at ps j hlt
  have a1 := hcell _ _ 0 _ h1 rfl
  have a2 := hcell _ _ 0 _ h3 rfl
  rw [Nat.mul_one, Nat.add_zero] at a1 a2
  exact ⟨a1, a2⟩
 have HP := Lib.hid hp
 clear hl hcell hbox
 have hn2 : ((2 * ps.length : Nat) : Int) == 2 → False := fun h => by rw [beq_iff_eq] at h; omega
 have hn3 : (((2 * ps.length : Nat) : Int) == 2) = false := by rw [beq_eq_false_iff_ne]; omega
 have hn4 : ¬ ((2 * ps.length : Nat) : Int) = 2 := by omega
 clear hn2
 generalize hnn : ps.length = n at *
 have HNN := Lib.hid hnn
 clear hnn
 obtain ⟨n2, HN2⟩ : ∃ n2, Hid (n2 = 2 * n) := ⟨_, rfl⟩
 rw [← HN2.out] at hcap q4 hn3 hn4
 have hn2a : n2 ≤ 20 := by have := HN2.out; omega
 have hn2b : 4 ≤ n2 := by have := HN2.out; omega
 obtain ⟨wo, HWO⟩ : ∃ wo, Hid (wo = w) := ⟨w, rfl⟩
 go_enter Tryz.func119, Tryz.ntmps119
 go_wp2_with fail
 go_loopg [4, 5] n (fun gk av iv wr => ∃ (j : Nat) (bb : Bool), av = .bool bb ∧ iv = .int .i64 ((2 * j : Nat) : Int) ∧ j ≤ n ∧ Hid (0 < j → bb = false) ∧ Hid (wr = wo) ∧ n - j ≤ gk)
 case atStart => exact ⟨0, true, rfl, rfl, Nat.zero_le _, (fun h => absurd h (by decide)), HWO.out.symm, Nat.le_refl _⟩
 case round =>
  obtain ⟨j, bb, rfl, rfl, hj, HBB, HW, hgk⟩ := hrel
  have hww : w = wr := (HW.out.trans HWO.out).symm
  subst hww
  by_cases hlt : j < n
  ·obtain ⟨p, hpj⟩ : ∃ p, ps[j]? = some p := by rw [← HNN.out] at hlt; exact ⟨_, List.getElem?_eq_getElem hlt⟩
   obtain ⟨q0, q1⟩ := HC0.out j p hpj
   have hps := (HP.out.1 p (List.mem_of_getElem? hpj)).1
   clear hpj
   obtain ⟨pc, pr⟩ := p
   simp only at q0 q1 hps
   obtain ⟨i2, HI2⟩ : ∃ i2, Hid (i2 = 2 * j) := ⟨_, rfl⟩
   have hi : (i2 : Int) < (n2 : Int) := by have := HI2.out; have := HN2.out; omega
   have hi0 : (0 : Int) ≤ (i2 : Int) := by omega
   have hi2 : (i2 : Int) + 1 < (n2 : Int) := by have := HI2.out; have := HN2.out; omega
   have hpz : ((pr.size : Int) != 1) = true := by rw [bne_iff_ne]; omega
   have hpz2 : ¬ (pr.size : Int) = 1 := by omega
   have hE : Hid ((i2 : Int) + 2 = ((2 * (j + 1) : Nat) : Int)) := by show _ = _; have := HI2.out; omega
   rw [← HI2.out] at q0 q1 ⊢
   go_wp2_with fail
   rw [hE.out]
   go_roundg (n - (j + 1))
   case measure => omega
   case rel => exact ⟨j + 1, false, rfl, rfl, hlt, fun _ => rfl, HW.out, by omega⟩
  ·obtain rfl : j = n := by omega
   have hbb := HBB.out (by omega)
   subst hbb
   rw [← HN2.out]
   obtain ⟨ti, hti, htz, hts, htb⟩ := info_parts str_info
   have hq1 : (n2 : Int) / 2 = (j : Int) := by have := HN2.out; omega
   have hq2 : (n2 : Int).tdiv 2 = (j : Int) := by rw [Int.tdiv_eq_ediv_of_nonneg (by omega)]; exact hq1
   clear q4 hn3 hn4
   go_wp2_with (at_make; go_loud (refine wpList_make_own _ rfl _ _ 79 rfl w.heap.size 9 ti _ 1 Tryz.underlying79 hti htz hts _ _ _ j rfl rfl (by first | rfl | exact hq1 | exact hq2) (by rw [htb]; omega) (by unfold maxLen; omega) (Nat.le_refl _) ?_); intro w5 hown5 hgr5; have HO5 := Lib.hid hown5; have HG5 := Lib.hid hgr5; clear hown5 hgr5; go_loud (refine wpList_buildTo rfl 239 _ rfl (some 95) rfl (zB.setIfInBounds 256 (.slice (some ⟨w.heap.size, 0, none⟩) 0 j)) (by simp only [List.map_toArray, List.map_cons, List.map_nil]; exact built_B (some ⟨w.heap.size, 0, none⟩) 0 j) ?_); refine Go.Great.wpList_allocTo rfl (some 11) rfl (.pointer (some ⟨w5.heap.size, 0, none⟩)) (.cells zB 239) (alloc_B rfl) ?_; refine wpList_store_rowTo rfl 239 _ _ rfl rfl w5.heap.size (zB.setIfInBounds 256 (.slice (some ⟨w.heap.size, 0, none⟩) 0 j)) rfl rfl 239 zB (heap_alloc_new w5 _) (by rw [zB_size]; exact zB_info) (by rw [zB_size]; unfold zB; rw [Array.size_replicate]) (zB_all _ _ _) ?_)
   have HS0 := Lib.hid (BsB.start HO5.out)
   have HW5 := Lib.hid ((Below.refl w.heap.size w).grown HG5.out (Nat.le_refl _) (fun k hk => by cases hk))
   have hz5 := HG5.out.size
   have HWQ := Lib.hid ((HW5.out.alloc hz5 (.cells zB 239)).trans ((mod_setRow (w5.alloc (.cells zB 239)) w5.heap.size (zB.setIfInBounds 256 (.slice (some ⟨w.heap.size, 0, none⟩) 0 j))).below (fun k hk => by rw [hk]; exact hz5) (by simp; omega)))
   obtain ⟨Q, hQ⟩ : ∃ Q, Hid (Q = w5.heap.size) := ⟨_, rfl⟩
   rw [← hQ.out] at HS0 HWQ hz5 ⊢
   generalize (w5.alloc (.cells zB 239)).setRow Q (zB.setIfInBounds 256 (.slice (some ⟨w.heap.size, 0, none⟩) 0 j)) = w6 at HS0 HWQ ⊢
   rw [show (n2 : Int) - 2 = 2 * (j : Int) - 2 by have := HN2.out; omega]
   clear HO5 HG5 HW5 hq1 hq2 hti htz hts htb hQ HBB HW hgk hj
   go_loopg [12] (j + 1) (fun gk iv wz => ∃ (q : Nat) (cs : List Value) (tv : Value), iv = .int .i64 (2 * (q : Int) - 2) ∧ q ≤ j ∧ Hid (BsB w.heap.size wz Q (ps.drop q) (((ps.drop q).map (·.1)).reverse) cs tv) ∧ Hid (Below w.heap.size w wz) ∧ q ≤ gk)
   case atStart =>
    have HS1 : Hid (BsB w.heap.size w6 Q (ps.drop j) (((ps.drop j).map (·.1)).reverse) (zB.setIfInBounds 256 (.slice (some ⟨w.heap.size, 0, none⟩) 0 j)).toList (.slice (some ⟨w.heap.size, 0, none⟩) 0 j)) := by
     show BsB _ _ _ _ _ _ _
     rw [List.drop_eq_nil_of_le (by rw [HNN.out]; exact Nat.le_refl _)]
     exact HS0.out
    exact ⟨j, _, _, rfl, Nat.le_refl _, HS1.out, HWQ.out, Nat.le_succ _⟩
   case round =>
    clear HS0 HWQ
    obtain ⟨q, cs, tv, rfl, hq, HS, HW, hgk⟩ := hrel
    cases q with
    | zero =>
      rw [List.drop_zero] at HS
      have hm1 : (2 * ((0 : Nat) : Int) - 2) = -2 := by decide
      rw [hm1]
      go_wp2_with fail
      first | go_ret | skip
      rw [HRR.out]
      exact ⟨Q, cs, tv, rfl, HS.out, HW.out⟩
    | succ q =>
      obtain ⟨I2, HI2⟩ : ∃ I2, Hid (I2 = 2 * q) := ⟨_, rfl⟩
      rw [show 2 * ((q + 1 : Nat) : Int) - 2 = ((2 * q : Nat) : Int) by omega, ← HI2.out]
      have hqp : q < ps.length := by rw [HNN.out]; omega
      obtain ⟨p, hpq⟩ : ∃ p, ps[q]? = some p := ⟨_, List.getElem?_eq_getElem hqp⟩
      have hdq : ps.drop q = p :: ps.drop (q + 1) := by
       rw [List.drop_eq_getElem_cons hqp]
       congr 1
       rw [List.getElem?_eq_getElem hqp] at hpq
       exact Option.some.inj hpq
      obtain ⟨p0, p1⟩ := HC0.out q p hpq
      have hnd := HP.out.2
      have hno : lk (ps.drop (q + 1)) p.1 = none := by
       refine lk_none _ _ fun hm => ?_
       rw [← List.take_append_drop q ps, List.map_append, hdq, List.map_cons] at hnd
       exact (List.nodup_cons.1 (List.nodup_append.1 hnd).2.1).1 hm
      have hps := HP.out.1 p (List.mem_of_getElem? hpq)
      have HDQ := Lib.hid hdq
      clear hdq hnd hpq
      obtain ⟨pc, pr⟩ := p
      simp only at p0 p1 hno hps
      have q0 := (HW.out.cell (p := ⟨b, o + 2 * q, none⟩) hbl).trans p0
      have q1 := (HW.out.cell (p := ⟨b, o + (2 * q + 1), none⟩) hbl).trans p1
      rw [← HI2.out] at q0 q1
      have hi : (I2 : Int) < (n2 : Int) := by have := HI2.out; have := HN2.out; omega
      have hi0 : (0 : Int) ≤ (I2 : Int) := by omega
      have hi2 : (I2 : Int) + 1 < (n2 : Int) := by have := HI2.out; have := HN2.out; omega
      have hbv : ∀ (z : UInt8) h, ((⟨#[z]⟩ : ByteArray)[0]'h).toNat = z.toNat := fun _ _ => rfl
      have hb256 := UInt8.toNat_lt pc
      have hcell : wr.cell? ⟨Q, pc.toNat, none⟩ = some (.slice none 0 0) := by
       rcases HS.out.bsIn.cell pc with ⟨_, h⟩ | ⟨r, _, _, h, _⟩
       ·exact h
       ·rw [hno] at h; cases h
      obtain ⟨kp, HKP⟩ : ∃ kp, Hid (kp = ((ps.drop (q + 1)).map (·.1)).reverse) := ⟨_, rfl⟩
      rw [← HKP.out] at HS
      have hkl : kp.length ≤ 10 := by
       rw [HKP.out, List.length_reverse, List.length_map, List.length_drop, HNN.out]
       omega
      obtain ⟨A', c', hv'⟩ := own_shape HS.out.own
      rw [List.length_map] at hv'
      subst hv'
      have htv := box_cell HS.out.box 256 HS.out.tov
      have HOW : Hid (wr.ownsRow w.heap.size 9 1 (.slice A' kp.length c') kp.length (kp.map fun b => Value.string (⟨#[b]⟩ : ByteArray))) := by
       have h := HS.out.own
       unfold OwnE at h
       rw [List.length_map] at h
       rw [strV_flat] at h
       exact h
      clear p0 p1
      have hnil := nil_eq wr
      go_upto_region 33 with fail
      have hcv := conv_one wr pc
      have HSA := Lib.hid ((HS.out.below ((Below.refl _ wr).alloc (Nat.le_refl _) (.cells #[.int .u8 (pc.toNat : Int)] 5))).below ((Below.refl _ _).alloc (Nat.le_refl _) (.cells #[.string (⟨#[pc]⟩ : ByteArray)] 9)))
      have hzw := HW.out.size
      go_upto_region 34 with (at_builtin; go_loud (refine wpList_app1 rfl (.tmp 119) (.tmp 123) 79 9 rfl Tryz.underlying79 _ 1 16 str_info rfl (by decide) w.heap.size _ kp.length _ rfl (by exact (HOW.out.alloc _).alloc _) ⟨wr.heap.size + 1, 0, none⟩ 1 [.string (⟨#[pc]⟩ : ByteArray)] rfl rfl (by exact cells_at _ _ (by simp) _ _) (by intro u hu; rw [List.mem_singleton.1 hu]; rfl) (by omega) (by decide) (by simp; omega) ?_); intro g8 cap8 w8 hown8 hg8 hbel8 hgr8; have HB8 := Lib.hid (HSA.out.push (own_snoc_str hown8) hgr8); have y0 := HSA.out.grQ hgr8; have z1 := box_cell y0 256 HSA.out.tov; have y1 := frozen_rowM y0 256; have HW8 := Lib.hid (Below.setCell (p := ⟨Q, 256, none⟩) (Below.grown ((HW.out.alloc hzw (.cells #[.int .u8 (pc.toNat : Int)] 5)).alloc (by simp; omega) (.cells #[.string (⟨#[pc]⟩ : ByteArray)] 9)) hgr8 (by simp; omega) (fun k hk => (HOW.out.lt k hk).1)) hz5 (.slice (some ⟨g8, 0, none⟩) (kp.length + 1) cap8)); clear y0 hbel8 hown8 hgr8)
      obtain ⟨tv8, htv8⟩ : ∃ tv8, Hid (tv8 = Value.slice (some ⟨g8, 0, none⟩) (kp.length + 1) cap8) := ⟨_, rfl⟩
      rw [← htv8.out] at HB8 HW8 ⊢
      clear y1 z1 HSA HOW HS hcell htv q0 q1 hcv hnil HW
      generalize w8.setCell ⟨Q, 256, none⟩ tv8 = w9 at HB8 HW8 ⊢
      have hcv2 := run_bytes_of_string (P := Tryz.prog) w9 9 89 5 pr Tryz.underlying9 Tryz.underlying89 Tryz.underlying5
      have HBC := Lib.hid (bytes_conv w9 pr (grownCap_ge w9 pr.size 0 5))
      have hz9 := HW8.out.size
      generalize grownCap w9 pr.size 0 5 = gc at hcv2 HBC
      obtain ⟨Ob, hOb⟩ : ∃ Ob, Hid (Ob = Obj.cells (bytesRow pr gc) 5 ((bytesRow pr gc).size, (bytesRow pr gc).size + 1)) := ⟨_, rfl⟩
      rw [← hOb.out] at hcv2 HBC
      have hbA := ((Below.refl w9.heap.size w9).drew).alloc (by exact Nat.le_refl _) Ob
      have HBA := Lib.hid (HB8.out.below hbA)
      have HWA := Lib.hid ((HW8.out.drew).alloc (by exact hz9) Ob)
      have hcell : (w9.drew.alloc Ob).cell? ⟨Q, pc.toNat, none⟩ = some (.slice none 0 0) := by
       rcases HBA.out.bsIn.cell pc with ⟨_, h⟩ | ⟨r, _, _, h, _⟩
       ·exact h
       ·rw [hno] at h; cases h
      have hfr := frozen_rowM HBA.out.box pc.toNat
      have hzA : w9.drew.heap.size = w9.heap.size := rfl
      clear hbA HB8 HW8
      have hcell2 : (w9.alloc Ob).cell? ⟨Q, pc.toNat, none⟩ = some (.slice none 0 0) := hcell
      have hfr2 : (w9.alloc Ob).frozen? ⟨Q, pc.toNat, none⟩ = false := hfr
      have hi3 : (I2 : Int) - 2 = 2 * (q : Int) - 2 := by have := HI2.out; omega
      have HI3 := Lib.hid hi3
      clear hi3
      go_wp2_with fail
      rw [HI3.out]
      go_roundg q
      case measure => omega
      case rel =>
       have HF := HBA.out.put pc pr _ HBC.out
       rw [← HDQ.out] at HF
       have hks : kp ++ [pc] = ((ps.drop q).map (·.1)).reverse := by
        rw [HDQ.out, List.map_cons, List.reverse_cons, ← HKP.out]
       rw [hks] at HF
       exact ⟨q, _, _, rfl, by omega, HF, HWA.out.setCell (p := ⟨Q, pc.toNat, none⟩) hz5 _, Nat.le_refl _⟩
end Go.Proofs.YtfkojnofbpdjdaaGreatDoor

namespace Go.Proofs.YtfkojnofbpdjdaaGreatDoor
set_option maxRecDepth 100000
open Go.RowKit
theorem once_disable (w : World) : (callFunc 204 #[]).run Tryz.prog w = .ok (.value (.tuple #[])) w := run_call_mark0 Tryz.func204 (by kernel_rfl) (by kernel_rfl) (by kernel_rfl) .disable (by kernel_rfl) w
theorem once_enable (w : World) : (callFunc 206 #[]).run Tryz.prog w = .ok (.value (.tuple #[])) w := run_call_mark0 Tryz.func206 (by kernel_rfl) (by kernel_rfl) (by kernel_rfl) .enable (by kernel_rfl) w
theorem once_acquire (a : Addr) (w : World) : (callFunc 207 #[.pointer (some a)]).run Tryz.prog w = .ok (.value (.tuple #[])) w := run_call_marked Tryz.func207 (by kernel_rfl) (by kernel_rfl) (by kernel_rfl) .acquire (by kernel_rfl) a w
theorem once_releaseMerge (a : Addr) (w : World) : (callFunc 209 #[.pointer (some a)]).run Tryz.prog w = .ok (.value (.tuple #[])) w := run_call_marked Tryz.func209 (by kernel_rfl) (by kernel_rfl) (by kernel_rfl) .releaseMerge (by kernel_rfl) a w
theorem once_store (a : Addr) (x : Value) (u : FrameMode) (w : World) (hc : w.cell? a = some x) (hz : w.frozen? a = false) :
 CallsD Tryz.prog 160 #[.pointer (some a), .bool true] u w fun e u' w' => u' = u ∧ (e = .returned (.tuple #[]) ∧ w' = w.drew.setCell a (.int .u32 1)) := by
 have hc' : w.drew.cell? a = some x := by go_simp
 have hz' : w.drew.frozen? a = false := by go_simp
 have hst := run_call_store (P := Tryz.prog) Tryz.func183 (by kernel_rfl) (by kernel_rfl) (by kernel_rfl) (by kernel_rfl) (k := .u32) (y := 1) hc' hz'
 go_enter_d Tryz.func160, Tryz.ntmps160
 go_wp2
 go_region_calls
 all_goals (go_end0; exact ⟨rfl, rfl⟩)
theorem once_unlock (a : Addr) (u : FrameMode) (w : World) (hc : w.cell? a = some (.int .i32 1)) (hz : w.frozen? a = false) :
 CallsD Tryz.prog 159 #[.pointer (some a)] u w fun e u' w' => u' = u ∧ (e = .returned (.tuple #[]) ∧ w' = w.setCell a (.int .i32 0)) := by
 have hd := once_disable
 have he := once_enable
 have hr := once_releaseMerge
 have hadd := run_call_add (P := Tryz.prog) Tryz.func210 (by kernel_rfl) (by kernel_rfl) (by kernel_rfl) .i32 (by kernel_rfl) (y := -1) (s := 0) hc hz (by simp [go_sem]; rfl)
 have hcv := run_convert_to_unsafe (P := Tryz.prog) (src := 281) (dst := 203) Tryz.underlying281 Tryz.underlying203 (by kernel_rfl) hc
 go_enter_d Tryz.func159, Tryz.ntmps159
 go_wp2
 go_end0
 go_wp2
 go_end0
 exact ⟨rfl, rfl⟩
theorem once_lock (a : Addr) (w : World) (hc : w.cell? a = some (.int .i32 0)) (hz : w.frozen? a = false) :
 Calls Tryz.prog 158 #[.pointer (some a)] w fun e w' => e = .returned (.tuple #[]) ∧ w' = w.setCell a (.int .i32 1) := by
 have hd := once_disable
 have he := once_enable
 have ha := once_acquire
 have hcas := run_call_cas_hit (P := Tryz.prog) Tryz.func205 (by kernel_rfl) (by kernel_rfl) (by kernel_rfl) .i32 (by kernel_rfl) (y := 1) hc hz
 have hc' : (w.setCell a (.int .i32 1)).cell? a = some (.int .i32 1) := World.cell?_setCell_same w a _ hc
 have hcv := run_convert_to_unsafe (P := Tryz.prog) (src := 281) (dst := 203) Tryz.underlying281 Tryz.underlying203 (by kernel_rfl) hc'
 go_enter Tryz.func158, Tryz.ntmps158
 go_wp2
 first | go_end0 | (simp only [Exit.inBlock, Exit.then]; refine bodyPost_ret (results_none rfl _ _ _) rfl ?_) | refine bodyPost_ret (results_none rfl _ _ _) rfl ?_
 go_wp2
 go_end0
 exact ⟨rfl, rfl⟩
end Go.Proofs.YtfkojnofbpdjdaaGreatDoor

namespace Go.Proofs.YtfkojnofbpdjdaaGreatDoor
set_option maxRecDepth 100000
open Go.RowKit
theorem BsB.mod {B R : Nat} {w w' : World} {Q : Nat} {ps : Prs} {ks : List UInt8} {cs : List Value} {tv : Value} (h : BsB B w Q ps ks cs tv) (hm : Mod (fun k => k = R) w w') (hR : R < B) {c : Array Value} (hr : w.heap[R]? = some (.cells c 161)) : BsB B w' Q ps ks cs tv := by
 refine ⟨(hm.block Q h.lt fun e => ?_).trans h.box, h.len, fun b => ?_, h.tov, hm.own h.own fun k hk e => by have := (h.own.lt k hk).1; omega⟩
 ·have := h.box
  rw [show Q = R from e, hr] at this
  injection this with this
  injection this with _ e2 _
  revert e2
  decide
 ·obtain ⟨v, h1, h2, h3⟩ := h.at_ b
  refine ⟨v, h1, h2, fun r hx => (h3 r hx).keep fun g cur fr hg => hm.block g (Array.getElem?_eq_some_iff.1 hg).1 fun e => ?_⟩
  rw [show g = R from e, hr] at hg
  injection hg with hg
  injection hg with _ e2 _
  revert e2
  decide
theorem own_modR {B R : Nat} {w w' : World} {v : Value} {l : List ByteArray} (h : OwnE 9 strV 1 w B v l) (hm : Mod (fun k => k = R) w w') {c : Array Value} (hr : w.heap[R]? = some (.cells c 161)) : OwnE 9 strV 1 w' B v l :=
 hm.own h fun k hk e => own_apart h hr (by decide) k hk e
def rpC (d0 d1 z x ov : Value) : Obj := .cells #[d0, d1, z, x, ov] 161
def ifB (Q : Nat) : Value := .iface 240 (.pointer (some ⟨Q, 0, none⟩))
def RpB (w : World) (R : Nat) (ps : Prs) (d0 d1 : Value) : Prop := ∃ z Q cs tv B, R < B ∧ w.heap[R]? = some (rpC d0 d1 z (ifB Q) (.slice none 0 0)) ∧ BsB B w Q ps (ps.map (·.1)).reverse cs tv
def RpF (w : World) (R : Nat) (ps : Prs) (d0 d1 : Value) : Prop := ∃ z ov B, w.heap[R]? = some (rpC d0 d1 z .nilIface ov) ∧ OwnE 9 strV 1 w B ov (flatP ps)
def RpIn (w : World) (R : Nat) (ps : Prs) : Prop := RpF w R ps (.int .u32 0) (.int .i32 0) ∨ RpB w R ps (.int .u32 1) (.int .i32 0)
theorem RpF.lt {w : World} {R : Nat} {ps : Prs} {d0 d1 : Value} (h : RpF w R ps d0 d1) : R < w.heap.size := by
 obtain ⟨_, _, _, h, _⟩ := h
 exact (Array.getElem?_eq_some_iff.1 h).1
theorem RpB.lt {w : World} {R : Nat} {ps : Prs} {d0 d1 : Value} (h : RpB w R ps d0 d1) : R < w.heap.size := by
 obtain ⟨_, _, _, _, _, _, h, _⟩ := h
 exact (Array.getElem?_eq_some_iff.1 h).1
theorem RpF.below {w w' : World} {R : Nat} {ps : Prs} {d0 d1 : Value} (h : RpF w R ps d0 d1) (hb : Below w.heap.size w w') : RpF w' R ps d0 d1 := by
 have hl := h.lt
 obtain ⟨z, ov, B, h1, h2⟩ := h
 exact ⟨z, ov, B, (hb.block R hl).trans h1, (Mod.of_below hb).own h2 fun _ _ hf => hf⟩
theorem RpB.below {w w' : World} {R : Nat} {ps : Prs} {d0 d1 : Value} (h : RpB w R ps d0 d1) (hb : Below w.heap.size w w') : RpB w' R ps d0 d1 := by
 have hl := h.lt
 obtain ⟨z, Q, cs, tv, B, h0, h1, h2⟩ := h
 exact ⟨z, Q, cs, tv, B, h0, (hb.block R hl).trans h1, h2.below hb⟩
theorem RpIn.below {w w' : World} {R : Nat} {ps : Prs} (h : RpIn w R ps) (hb : Below w.heap.size w w') : RpIn w' R ps := h.imp (fun h => h.below hb) (fun h => h.below hb)
theorem RpF.set {w : World} {R : Nat} {ps : Prs} {d0 d1 : Value} (h : RpF w R ps d0 d1) (v : Value) : RpF (w.setCell ⟨R, 1, none⟩ v) R ps d0 v := by
 obtain ⟨z, ov, B, h1, h2⟩ := h
 exact ⟨z, ov, B, by rw [set_row h1]; rfl, own_modR h2 (Mod.set w R 1 v) h1⟩
theorem RpB.set0 {w : World} {R : Nat} {ps : Prs} {d0 d1 : Value} (h : RpB w R ps d0 d1) (v : Value) : RpB (w.setCell ⟨R, 0, none⟩ v) R ps v d1 := by
 obtain ⟨z, Q, cs, tv, B, h0, h1, h2⟩ := h
 exact ⟨z, Q, cs, tv, B, h0, by rw [set_row h1]; rfl, h2.mod (Mod.set w R 0 v) h0 h1⟩
theorem RpB.set1 {w : World} {R : Nat} {ps : Prs} {d0 d1 : Value} (h : RpB w R ps d0 d1) (v : Value) : RpB (w.setCell ⟨R, 1, none⟩ v) R ps d0 v := by
 obtain ⟨z, Q, cs, tv, B, h0, h1, h2⟩ := h
 exact ⟨z, Q, cs, tv, B, h0, by rw [set_row h1]; rfl, h2.mod (Mod.set w R 1 v) h0 h1⟩
theorem buildOnce_any (R : Nat) (ps : Prs) (d0 d1 : Value) (w : World) (h : RpF w R ps d0 d1) (h2 : 2 ≤ ps.length) (h10 : ps.length ≤ 10) (hp : PrsOk ps) :
 Calls Tryz.prog 79 #[.pointer (some ⟨R, 0, none⟩)] w (fun e w' => e = .returned (.tuple #[]) ∧ RpB w' R ps d0 d1 ∧ Mod (fun k => k = R) w w') := by
 have hl := h.lt
 obtain ⟨z, ov, B, h1, ho⟩ := h
 have HC := Lib.hid (build_any R ps d0 d1 z ov w h1 (OwnE.rd (fun _ => rfl) ho) h2 h10 hp)
 have H1 := Lib.hid h1
 clear h1 ho h2 h10 hp
 go_enter Tryz.func79, Tryz.ntmps79
 go_wp2_with fail
 refine (HC.out).mono ?_
 rintro e w1 ⟨Q, cs, tv, rfl, hbs, hw1⟩
 have HBS := Lib.hid hbs
 have HW1 := Lib.hid hw1
 have HR1 : Hid (w1.heap[R]? = some (.cells [d0, d1, z, .nilIface, ov].toArray 161)) := (hw1.block R hl).trans H1.out
 have q3 := box_cell HR1.out 3 rfl
 have f3 := frozen_rowM HR1.out 3
 have HR2 : Hid ((w1.setCell ⟨R, 3, none⟩ (ifB Q)).heap[R]? = some (.cells [d0, d1, z, ifB Q, ov].toArray 161)) := by
  show _ = _
  rw [set_row HR1.out]
  rfl
 have q4 := box_cell HR2.out 4 rfl
 have f4 := frozen_rowM HR2.out 4
 unfold ifB at q4 f4
 clear hbs hw1
 go_wp2_with fail
 refine bodyPost_end (results_none rfl _ _ _) rfl ?_
 have hm1 := Mod.set w1 R 3 (ifB Q)
 have hm2 := Mod.set (w1.setCell ⟨R, 3, none⟩ (ifB Q)) R 4 (.slice none 0 0)
 refine ⟨rfl, ⟨z, Q, cs, tv, w.heap.size, hl, ?_, ?_⟩, ?_⟩
 ·show ((w1.setCell ⟨R, 3, none⟩ (ifB Q)).setCell ⟨R, 4, none⟩ (.slice none 0 0)).heap[R]? = _
  rw [set_row HR2.out]
  rfl
 ·exact (HBS.out.mod hm1 hl HR1.out).mod hm2 hl HR2.out
 ·exact (((Mod.of_below HW1.out).weak (T := fun k => k = R) fun _ hf _ => hf.elim).trans hm1 fun i hi _ => hi).trans hm2 fun i hi _ => hi
end Go.Proofs.YtfkojnofbpdjdaaGreatDoor

namespace Go.Proofs.YtfkojnofbpdjdaaGreatDoor
set_option maxRecDepth 100000
open Go.RowKit
theorem once_slow (R : Nat) (ps : Prs) (w : World) (h : RpF w R ps (.int .u32 0) (.int .i32 0)) (h2 : 2 ≤ ps.length) (h10 : ps.length ≤ 10) (hp : PrsOk ps) :
 Calls Tryz.prog 118 #[.pointer (some ⟨R, 0, none⟩), .func (.func 79) #[.pointer (some ⟨R, 0, none⟩)] #[]] w fun e w' => e = .returned (.tuple #[]) ∧ RpB w' R ps (.int .u32 1) (.int .i32 0) ∧ Mod (fun k => k = R) w w' := by
 have hm0 := Mod.set w R 1 (.int .i32 1)
 have hF1 := h.set (.int .i32 1)
 have HC := Lib.hid (buildOnce_any R ps (.int .u32 0) (.int .i32 1) _ hF1 h2 h10 hp)
 obtain ⟨z1, ov1, B1, hr1, _⟩ := hF1
 obtain ⟨z, ov, B, hr, ho⟩ := h
 have c0 := box_cell (l := [.int .u32 0, .int .i32 1, z1, .nilIface, ov1]) hr1 0 rfl
 have k1 := box_cell (l := [.int .u32 0, .int .i32 0, z, .nilIface, ov]) hr 1 rfl
 have f1 := frozen_rowM hr 1
 have hl := run_call_load (P := Tryz.prog) Tryz.func157 (by kernel_rfl) (by kernel_rfl) (by kernel_rfl) .u32 (by kernel_rfl) (w := w.setCell ⟨R, 1, none⟩ (.int .i32 1)) (a := ⟨R, 0, none⟩) (x := 0) c0
 have hnot : ∀ (x : Bool) (w : World), (Op.unary .not (.bool x)).run Tryz.prog w = .ok (.bool (!x)) w := fun _ _ => rfl
 have HM0 := Lib.hid hm0
 clear hm0 hr hr1 ho
 go_enter_defers Tryz.func118, Tryz.ntmps118
 go_wp2_with (first
  | (go_at_call 158; refine (once_lock ⟨R, 1, none⟩ _ k1 f1).mono ?_; rintro e w' ⟨rfl, rfl⟩)
  | (go_at_call 117; go_in)
  | (go_at_call 79; refine (HC.out).mono ?_; rintro e w2 ⟨rfl, hb2, hm2⟩; have HB2 := Lib.hid hb2; have HM2 := Lib.hid hm2; clear hb2 hm2))
 have hb := HB2.out
 obtain ⟨z2, Q, cs, tv, B2, hRB, hr2, hbs⟩ := hb
 have e0 := box_cell (l := [.int .u32 0, .int .i32 1, z2, ifB Q, .slice none 0 0]) hr2 0 rfl
 have g0 := frozen_rowM hr2 0
 have HS := Lib.hid ((HB2.out.below ((Below.refl _ w2).drew)).set0 (.int .u32 1))
 have hs := HS.out
 obtain ⟨z3, Q3, cs3, tv3, B3, _, hr3, _⟩ := hs
 have e1 := box_cell (l := [.int .u32 1, .int .i32 1, z3, ifB Q3, .slice none 0 0]) hr3 1 rfl
 have g1 := frozen_rowM hr3 1
 refine leaves_cons (f := 160) (args := #[.pointer (some ⟨R, 0, none⟩), .bool true]) (by simp) (by simp [go_sem]) ?_
 refine (once_store ⟨R, 0, none⟩ _ .returning _ e0 g0).mono ?_
 rintro e u' w'' ⟨rfl, rfl, rfl⟩
 refine leaves_cons (f := 159) (args := #[.pointer (some ⟨R, 1, none⟩)]) (by simp [settle]) (by simp [go_sem]) ?_
 refine (once_unlock ⟨R, 1, none⟩ _ _ (by exact e1) (by exact g1)).mono ?_
 rintro e u' w'' ⟨rfl, rfl, rfl⟩
 have hfin : RpB ((w2.drew.setCell ⟨R, 0, none⟩ (.int .u32 1)).setCell ⟨R, 1, none⟩ (.int .i32 0)) R ps (.int .u32 1) (.int .i32 0) := HS.out.set1 (.int .i32 0)
 have hmod : Mod (fun k => k = R) w ((w2.drew.setCell ⟨R, 0, none⟩ (.int .u32 1)).setCell ⟨R, 1, none⟩ (.int .i32 0)) :=
  ((((HM0.out.trans HM2.out fun i hi _ => hi).drew).trans (Mod.set w2.drew R 0 (.int .u32 1)) fun i hi _ => hi).trans (Mod.set _ R 1 (.int .i32 0)) fun i hi _ => hi)
 simp [Leaves, settle, results, Tryz.results118]
 exact ⟨hfin, hmod⟩
theorem once_do (R : Nat) (ps : Prs) (w : World) (h : RpIn w R ps) (h2 : 2 ≤ ps.length) (h10 : ps.length ≤ 10) (hp : PrsOk ps) :
 Calls Tryz.prog 78 #[.pointer (some ⟨R, 0, none⟩), .func (.func 79) #[.pointer (some ⟨R, 0, none⟩)] #[]] w fun e w' => e = .returned (.tuple #[]) ∧ RpB w' R ps (.int .u32 1) (.int .i32 0) ∧ Mod (fun k => k = R) w w' := by
 have hnot : ∀ (x : Bool) (w : World), (Op.unary .not (.bool x)).run Tryz.prog w = .ok (.bool (!x)) w := fun _ _ => rfl
 rcases h with h | h
 ·have HC := Lib.hid (once_slow R ps w h h2 h10 hp)
  obtain ⟨z, ov, B, hr, _⟩ := h
  have c0 := box_cell (l := [.int .u32 0, .int .i32 0, z, .nilIface, ov]) hr 0 rfl
  have hl := run_call_load (P := Tryz.prog) Tryz.func157 (by kernel_rfl) (by kernel_rfl) (by kernel_rfl) .u32 (by kernel_rfl) (w := w) (a := ⟨R, 0, none⟩) (x := 0) c0
  clear hr
  go_enter Tryz.func78, Tryz.ntmps78
  go_wp2_with (first
   | (go_at_call 117; go_in)
   | (go_at_call 118; refine (HC.out).mono ?_; rintro e w2 ⟨rfl, hb2, hm2⟩; have HB2 := Lib.hid hb2; have HM2 := Lib.hid hm2; clear hb2 hm2))
  go_end0
  exact ⟨rfl, HB2.out, HM2.out⟩
 ·have H := Lib.hid h
  obtain ⟨z, Q, cs, tv, B, _, hr, _⟩ := h
  have c0 := box_cell (l := [.int .u32 1, .int .i32 0, z, ifB Q, .slice none 0 0]) hr 0 rfl
  have hl := run_call_load (P := Tryz.prog) Tryz.func157 (by kernel_rfl) (by kernel_rfl) (by kernel_rfl) .u32 (by kernel_rfl) (w := w) (a := ⟨R, 0, none⟩) (x := 1) c0
  clear hr
  go_enter Tryz.func78, Tryz.ntmps78
  go_wp2_with (go_at_call 117; go_in)
  go_end0
  exact ⟨rfl, H.out, Mod.refl _ _⟩
theorem replace_any (R : Nat) (ps : Prs) (s : ByteArray) (w : World) (h : RpIn w R ps) (h2 : 2 ≤ ps.length) (h10 : ps.length ≤ 10) (hp : PrsOk ps) (hs : s.size ≤ 100000) :
 Calls Tryz.prog 39 #[.pointer (some ⟨R, 0, none⟩), .string s] w fun e w' => e = .returned (.string (ofL (repL ps s.data.toList))) ∧ RpIn w' R ps ∧ Mod (fun k => k = R) w w' := by
 have HC := Lib.hid (once_do R ps w h h2 h10 hp)
 have hmf : ∀ (fn : Fn) (first cap : Array Value) (w : World), (Instr.makeFunc fn first cap).run Tryz.prog w = .ok (.func fn first cap) w := fun _ _ _ _ => rfl
 have HP := Lib.hid hp
 clear h hp
 go_enter Tryz.func39, Tryz.ntmps39
 go_wp2_with fail
 refine (HC.out).mono ?_
 rintro e w1 ⟨rfl, hb1, hm1⟩
 have HB1 := Lib.hid hb1
 have HM1 := Lib.hid hm1
 obtain ⟨z, Q, cs, tv, B, hRB, hr, hbs⟩ := hb1
 have q3 := box_cell (l := [.int .u32 1, .int .i32 0, z, ifB Q, .slice none 0 0]) hr 3 rfl
 unfold ifB at q3
 have HR := Lib.hid (bsReplace_any Q ps _ cs tv s w1 hbs.bsIn HP.out (List.pairwise_reverse.2 (HP.out.2.imp fun h => Ne.symm h)) (fun c => by
  rw [List.mem_reverse]
  constructor
  ·intro hm hn
   obtain ⟨r, hr⟩ := lk_some ps c hm
   rw [hr] at hn
   cases hn
  ·intro hn
   cases hk : lk ps c with
   | none => exact absurd hk hn
   | some r => exact List.mem_map.2 ⟨_, lk_mem ps c r hk, rfl⟩) (by rw [List.length_reverse, List.length_map]; exact h10) hs)
 clear hr hbs hm1
 obtain ⟨res, HRES⟩ : ∃ res, Hid (res = ofL (repL ps s.data.toList)) := ⟨_, rfl⟩
 rw [← HRES.out] at HR
 have hmt : ∀ w : World, (method 444 240 (.pointer (some ⟨Q, 0, none⟩)) "Replace").run Tryz.prog w = .ok (266, .pointer (some ⟨Q, 0, none⟩)) w := fun _ => by kernel_rfl
 go_wp2_with (go_at_call 266; refine (HR.out).mono ?_; rintro e w2 ⟨rfl, hb2⟩; have HB2 := Lib.hid hb2; clear hb2)
 go_ret
 exact ⟨by rw [HRES.out]; rfl, .inr (HB1.out.below HB2.out), HM1.out.trans ((Mod.of_below HB2.out).weak (T := fun k => k = R) fun _ hf _ => hf.elim) fun i hi _ => hi⟩
def NewRet (ps : Prs) (w : World) (e : Ending) (w' : World) : Prop := ∃ R, e = .returned (.pointer (some ⟨R, 0, none⟩)) ∧ w.heap.size ≤ R ∧ RpIn w' R ps ∧ Below w.heap.size w w'
theorem newReplacer_any (ps : Prs) (v : Value) (w : World) (h : RdE strV 1 w v (flatP ps)) (h10 : ps.length ≤ 10) (h1 : 1 ≤ ps.length) :
 Calls Tryz.prog 38 #[v] w (NewRet ps w) := by
 obtain ⟨A, c, rfl, hcap, _⟩ := h.shape
 have hev : (((flatP ps).length : Int)) % 2 = 0 := by rw [flatP_len]; omega
 have hev2 : (((flatP ps).length : Int)).tmod 2 = 0 := by rw [Int.tmod_eq_emod_of_nonneg (by omega)]; exact hev
 have hfl : (flatP ps).length ≤ 20 := by rw [flatP_len]; omega
 have H := Lib.hid h
 clear h
 generalize hn : (flatP ps).length = n at *
 have HN := Lib.hid hn
 clear hn
 go_enter Tryz.func38, Tryz.ntmps38
 have HNIL : Hid (w.ownsRow w.heap.size 9 1 (.slice none 0 0) ([] : List ByteArray).length (([] : List ByteArray).flatMap strV)) := World.ownsRow_nil _ _ _ _
 go_wp2_with (at_builtin; refine wpList_appE rfl (.const (.slice none 0 0)) (.tmp 8) 79 9 rfl Tryz.underlying79 _ strV 1 16 str_info rfl (by decide) (fun _ => rfl) (fun x u hu => by rw [List.mem_singleton.1 hu]; rfl) w.heap.size (.slice none 0 0) [] rfl HNIL.out (.slice A n c) (flatP ps) rfl H.out (by rw [HN.out]; simp; omega) (by decide) (Nat.le_refl _) ?_; intro v5 w5 hown5 hbel5 hgr5; obtain ⟨A5, c5, hv5⟩ := own_shape hown5; rw [List.nil_append, HN.out] at hv5; subst hv5; have HO5 := Lib.hid hown5; have HW5 := Lib.hid (hbel5 w.heap.size w (Nat.le_refl _) (Below.refl _ _)); clear hown5 hbel5 hgr5)
 have hz5 := HW5.out.size
 have HL := Lib.hid (HW5.out.alloc hz5 (rpC (.int .u32 0) (.int .i32 0) (.int .u32 0) .nilIface (.slice A5 n c5)))
 go_ret
 exact ⟨w5.heap.size, rfl, hz5, .inl ⟨_, _, w.heap.size, heap_alloc_new w5 _, World.ownsRow.alloc HO5.out _⟩, HL.out⟩
end Go.Proofs.YtfkojnofbpdjdaaGreatDoor

namespace Go.Proofs.YtfkojnofbpdjdaaGreatDoor
set_option maxRecDepth 100000
theorem ofL_app (a b : List UInt8) : ofL a ++ ofL b = ofL (a ++ b) := by
 apply ByteArray.ext
 apply Array.toList_inj.1
 simp [ofL]
theorem encB_len (fmt : Int) (c : UInt8) : (encB fmt c).length ≤ 5 := by
 unfold encB
 repeat' split
 all_goals simp
theorem encL_len (fmt : Int) : ∀ l : List UInt8, (l.flatMap (encB fmt)).length ≤ 5 * l.length
 | [] => Nat.le_refl _
 | c :: l => by
   have h1 := encB_len fmt c
   have h2 := encL_len fmt l
   rw [List.flatMap_cons, List.length_append, List.length_cons]
   omega
theorem encE_len (fmt : Int) (x : Tk) : (encE fmt x).length ≤ 5 * x.t.size + 3 := by
 have h := encL_len fmt x.t.data.toList
 rw [← Lib.size_eq] at h
 have hs := Lib.size_eq x.t
 unfold encE
 split
 ·omega
 ·split
  ·rw [List.length_append, List.length_cons, ← hs]; simp; omega
  ·split
   ·rw [List.length_append, List.length_cons, List.length_cons, ← hs]; simp; omega
   ·split
    ·rw [List.length_append, List.length_cons, ← hs]; simp; omega
    ·rw [List.length_append, List.length_cons, ← hs]; simp; omega
theorem wf_size (x : Tk) (h : WfI x) (h1 : x.k = 1 → x.t.size ≤ 1024) : x.t.size ≤ 1024 := by
 have hs := Lib.size_eq x.t
 have nm : nameL x.t.data.toList = true → x.t.size ≤ 1024 := fun hn => by
  obtain ⟨c, r, e, _, hl, _⟩ := name_head _ hn
  rw [hs, e, List.length_cons]
  omega
 have ct : contL x.t.data.toList = true → x.t.size ≤ 1024 := fun hc => by
  have := (cont_parts _ hc).1
  omega
 rcases h with h | ⟨_, h, _⟩ | ⟨_, h, _⟩ | ⟨_, h, _⟩
 ·exact h1 h
 ·exact nm h
 ·exact ct h
 ·exact nm h
theorem lenI_mem (f : List Tk) (x : Tk) (h : x ∈ f) (hk : x.k = 1) : x.t.size ≤ lenI f := by
 induction f with
 | nil => simp at h
 | cons y f ih =>
   show _ ≤ wdI y + lenI f
   rcases List.mem_cons.1 h with rfl | h
   ·unfold wdI
    rw [if_pos hk]
    omega
   ·have := ih h
    omega
theorem val_size (f : List Tk) (h : ValF f) : ∀ x ∈ f, x.t.size ≤ 1024 := fun x hx => wf_size x (h.wf x hx) fun hk => Nat.le_trans (lenI_mem f x hx hk) h.pos
theorem encF_take (fmt : Int) (f : List Tk) (i : Nat) (h : i < f.length) : encF fmt (f.take (i + 1)) = encF fmt (f.take i) ++ encE fmt f[i] := by
 rw [List.take_succ_eq_append_getElem h, encF_app]
 simp [encF]
theorem rep_enc (ps : Prs) (fmt : Int) (h : ∀ c, repB ps c = encB fmt c) (l : List UInt8) : repL ps l = l.flatMap (encB fmt) := by
 unfold repL
 congr 1
 funext c
 exact h c
end Go.Proofs.YtfkojnofbpdjdaaGreatDoor

namespace Go.Proofs.YtfkojnofbpdjdaaGreatDoor
set_option maxRecDepth 100000
open Go.RowKit
theorem rdE_lit (l : List ByteArray) (w : World) (t : TypeId) : RdE strV 1 (w.alloc (.cells (l.map Value.string).toArray t)) (.slice (some ⟨w.heap.size, 0, none⟩) l.length l.length) l := by
 refine ⟨some ⟨w.heap.size, 0, none⟩, l.length, rfl, Nat.le_refl _, (fun h => by cases h), fun _ => ⟨w.heap.size, 0, rfl, by simp, fun i x j u hi hj => ?_⟩⟩
 have hj0 : j = 0 := by
  have := (List.getElem?_eq_some_iff.1 hj).1
  simpa [strV] using this
 subst hj0
 have hu : u = .string x := by
  injection hj with hj
  exact hj.symm
 subst hu
 exact box_cell (heap_alloc_new w _) _ (by rw [List.getElem?_map]; simp [hi])
theorem shEncode_any (f : List Tk) (v : Value) (m : Int) (w : World) (hm : w.cell? ⟨0, 0, none⟩ = some (.int .i64 m)) (h1 : RdT w v f) (hv : ValF f) (hpl : ∀ x ∈ f, PlainOk x) :
 Calls Tryz.prog 12 #[v] w fun e w' => e = .returned (.tuple #[.string (ofL (encF 3 f)), .int .i64 0]) ∧ Below w.heap.size w w' := by
 obtain ⟨R, HRR⟩ : ∃ R : Ending → World → Prop, Hid (R = fun e w' => e = .returned (.tuple #[.string (ofL (encF 3 f)), .int .i64 0]) ∧ Below w.heap.size w w') := ⟨_, rfl⟩
 rw [← HRR.out]
 have hsz := val_size f hv
 have CV := Lib.hid (validate_any f v m w hm h1 hv (fun x hx => by have := hsz x hx; omega))
 have hl1 := hv.len
 have HV := Lib.hid hv
 have H1 := Lib.hid h1
 have HM := Lib.hid hm
 have HZ := Lib.hid hsz
 have HP := Lib.hid hpl
 obtain ⟨A, c, rfl, hcap, _⟩ := h1.shape
 clear h1 hv hm hsz hpl
 go_enter Tryz.func12, Tryz.ntmps12
 go_wp2_with (go_at_call 37; refine (CV.out).mono ?_; rintro e w0 ⟨rfl, hw0⟩; have HB0 := Lib.hid hw0; have hz0 := hw0.size; clear hw0)
 have HN := Lib.hid (newReplacer_any prsS _ _ (rdE_lit (flatP prsS) w0 9) (by decide) (by decide))
 have HBL := Lib.hid (HB0.out.alloc hz0 (.cells ((flatP prsS).map Value.string).toArray 9))
 refine (HN.out).mono ?_
 rintro e w3 ⟨Rp, rfl, hRp, hrp, hw3⟩
 have hRw : w.heap.size ≤ Rp := by simp at hRp; omega
 have HR3 := Lib.hid hrp
 have HB3 := Lib.hid (HBL.out.trans (hw3.mono (by simp; omega)))
 clear HN HBL hrp hw3 hRp hz0 HB0
 generalize w0.alloc _ = w00 at *
 go_wp2_with fail
 go_loopg [6, 18] f.length (fun gk sv iv wr => ∃ i : Nat, iv = .int .i64 i ∧ sv = .string (ofL (encF 3 (f.take i))) ∧ i ≤ f.length ∧ Hid ((ofL (encF 3 (f.take i))).size ≤ i * 6000) ∧ Hid (RpIn wr Rp prsS) ∧ Hid (Below w.heap.size w wr) ∧ f.length - i ≤ gk)
 case atStart => exact ⟨0, rfl, rfl, Nat.zero_le _, (by show _ ≤ _; rw [List.take_zero]; decide), HR3.out, HB3.out, Nat.le_refl _⟩
 case round =>
  clear HR3 HB3
  obtain ⟨i, rfl, rfl, hi, HSZ, HR, HB, hgk⟩ := hrel
  by_cases hlt : i < f.length
  ·have hii : (i : Int) < (f.length : Int) := by omega
   have hi0 : (0 : Int) ≤ (i : Int) := by omega
   obtain ⟨b, o, hA, hbl, p0, p1, p2⟩ := RdT.at_ H1.out i hlt
   subst hA
   have hmem := List.getElem_mem hlt
   have hwf := HV.out.wf _ hmem
   have hsx := HZ.out _ hmem
   have HNB := Lib.hid (HP.out _ hmem)
   have HTK := Lib.hid (encF_take 3 f i hlt)
   have hel := encE_len 3 f[i]
   have HSZ1 : Hid ((ofL (encF 3 (f.take (i + 1)))).size ≤ (i + 1) * 6000) := by
    show _ ≤ _
    have h := HSZ.out
    rw [Lib.size_eq] at h ⊢
    rw [ofL_list] at h ⊢
    rw [HTK.out, List.length_append]
    omega
   have q0 := (HB.out.cell (p := ⟨b, o + i * 3, none⟩) hbl).trans p0
   have q1 := (HB.out.cell (p := ⟨b, o + i * 3 + 1, none⟩) hbl).trans p1
   have q2 := (HB.out.cell (p := ⟨b, o + i * 3 + 2, none⟩) hbl).trans p2
   have hzr := HB.out.size
   obtain ⟨S, HS⟩ : ∃ S, Hid (S = ofL (encF 3 (f.take i))) := ⟨_, rfl⟩
   rw [← HS.out] at HSZ ⊢
   have hS : S.size ≤ 4000000 := by have := HSZ.out; omega
   clear hel hmem
   generalize f[i] = x at p0 p1 p2 q0 q1 q2 hwf hsx HTK HNB
   obtain ⟨xk, xt, xd⟩ := x
   simp only at p0 p1 p2 q0 q1 q2 hsx
   clear p0 p1 p2
   have HY : Hid ((wr.alloc (.cells #[.int .i64 xk, .string xt, .int .i64 xd] 31)).heap[wr.heap.size]? = some (.cells #[.int .i64 xk, .string xt, .int .i64 xd] 31)) := Array.getElem?_push_size
   have HB1 := Lib.hid (HB.out.alloc hzr (.cells #[.int .i64 xk, .string xt, .int .i64 xd] 31))
   have HR1 := Lib.hid (HR.out.below ((Below.refl _ wr).alloc (Nat.le_refl _) (.cells #[.int .i64 xk, .string xt, .int .i64 xd] 31)))
   obtain ⟨q, hq⟩ : ∃ q, Hid (q = wr.heap.size) := ⟨_, rfl⟩
   go_upto_region 9 with fail
   rw [← hq.out] at HY ⊢
   generalize wr.alloc (.cells #[.int .i64 xk, .string xt, .int .i64 xd] 31) = w1 at HY HB1 HR1 ⊢
   obtain ⟨y0, y1, y2, _⟩ := bx3 HY.out
   have HMQ := Lib.hid (below_cell0 HM.out HB1.out)
   rcases hwf with hk | ⟨hk, hnm, hd⟩ | ⟨hk, hct, hd1, hd2⟩ | ⟨hk, hnm, hd1, hd2⟩
   ·have hk' : xk = 1 := hk
    subst hk'
    have CR := Lib.hid (replace_any Rp prsS xt w1 HR1.out (by decide) (by decide) prsS_ok (by omega))
    have hrs : (ofL (repL prsS xt.data.toList)).size ≤ 6000 := by
     rw [rep_enc prsS 3 repS, Lib.size_eq, ofL_list]
     have := encL_len 3 xt.data.toList
     rw [← Lib.size_eq] at this
     omega
    have HE : Hid (S ++ ofL (repL prsS xt.data.toList) = ofL (encF 3 (f.take (i + 1)))) := by
     show _ = _
     rw [HTK.out, HS.out, ← ofL_app, rep_enc prsS 3 repS]
     rfl
    generalize ofL (repL prsS xt.data.toList) = res at CR hrs HE
    go_wp2_with (go_at_call 39; refine (CR.out).mono ?_; rintro e w2 ⟨rfl, hr2, hm2⟩; have HR2 := Lib.hid hr2; have HB2 := Lib.hid (HB1.out.trans (hm2.below (fun k hk => by rw [hk]; exact hRw) HB1.out.size)); clear hr2 hm2)
    rw [HE.out]
    go_roundg (f.length - (i + 1))
    case measure => omega
    case rel => exact ⟨i + 1, by go_num, rfl, hlt, HSZ1.out, HR2.out, HB2.out, by omega⟩
   ·have hk' : xk = 5 := hk
    subst hk'
    have HE : Hid (S ++ (((⟨#[123]⟩ : ByteArray) ++ xt) ++ (⟨#[125]⟩ : ByteArray)) = ofL (encF 3 (f.take (i + 1)))) := by
     show _ = _
     rw [HTK.out, HS.out, ← ofL_app]
     congr 1
     all_goals (
      apply ByteArray.ext
      apply Array.toList_inj.1
      simp [ofL, encE])
    go_wp2_with fail
    rw [HE.out]
    go_roundg (f.length - (i + 1))
    case measure => omega
    case rel => exact ⟨i + 1, by go_num, rfl, hlt, HSZ1.out, by first | exact HR1.out | exact HR1.out.below (below_drewN (Below.refl _ _) n2), by first | exact HB1.out | exact below_drewN HB1.out n2, by omega⟩
   ·exfalso
    rcases HNB.out with h | ⟨h, _⟩
    ·have h' : xk = 1 := h
     omega
    ·have h' : xk = 5 := h
     omega
   ·exfalso
    have hk' : xk = 3 := hk
    rcases HNB.out with h | ⟨h, _⟩
    ·have h' : xk = 1 := h
     omega
    ·have h' : xk = 5 := h
     omega
  ·obtain rfl : i = f.length := by omega
   rw [List.take_length] at HSZ ⊢
   generalize ofL (encF 3 f) = res at HSZ HRR
   go_wp2_with fail
   first | go_ret2 | skip
   rw [HRR.out]
   exact ⟨rfl, HB.out⟩
end Go.Proofs.YtfkojnofbpdjdaaGreatDoor
