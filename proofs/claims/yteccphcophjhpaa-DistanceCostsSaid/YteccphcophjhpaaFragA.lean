
/-
  Fragments that are made from numbers (tags, not nested).
-/
import Derived.Test.YteccphcophjhpaaMakeC
import Derived.Test.YteccphcophjhpaaMathFrag
import Derived.Test.YteccphcophjhpaaNormA
import Derived.Test.YteccphcophjhpaaMemB
import Derived.Deep.DeepCutAuto
import Derived.Deep.CutBlock
import Derived.Deep.RegionWith
namespace Go.Proofs.Yteccphcophjhpaa
open Go.RowKit

theorem RdT.one_at (w : World) (g : Nat) (hg : w.heap.size = g) (x : Tk) (t : TypeId) : RdT (w.alloc (.cells (tkC x).toArray t)) (.slice (some ⟨g, 0, none⟩) 1 1) [x] := by
  subst hg
  refine ⟨some ⟨w.heap.size, 0, none⟩, 1, rfl, by simp, (fun h => by cases h), fun _ => ⟨w.heap.size, 0, rfl, by simp, fun i y j u hi hj => ?_⟩⟩
  have hi0 : i = 0 := by
    have := (List.getElem?_eq_some_iff.1 hi).1
    simpa using this
  subst hi0
  simp at hi
  subst hi
  have := cells_new w (tkC x) t j u hj
  rw [Addr.add_lit] at this
  simpa using this
theorem Nums.keepg {w w' : World} {g : Nat} {L : List Int} {N : Nat} (h : Nums w g L N) (hk : ∀ k, k ≤ g → w'.heap[k]? = w.heap[k]?) : Nums w' g L N := by
  obtain ⟨v, W0, h1, h2, h3, h4, h5⟩ := h
  exact ⟨v, W0, (hk g (Nat.le_refl _)).trans h1, h2, h3, fun k hk' => (hk k (by omega)).trans (h4 k hk'), h5⟩
theorem box_facts {w : World} {b : Nat} {v0 v1 v2 : Value} {t : TypeId} (h : w.heap[b]? = some (.cells #[v0, v1, v2] t)) :
    w.cell? ⟨b, 0, none⟩ = some v0 ∧ w.cell? ⟨b, 1, none⟩ = some v1 ∧ w.cell? ⟨b, 2, none⟩ = some v2 ∧ w.frozen? ⟨b, 0, none⟩ = false ∧ w.frozen? ⟨b, 1, none⟩ = false ∧ w.frozen? ⟨b, 2, none⟩ = false :=
  ⟨by rw [cell_of_row _ _ 0 _ _ _ h]; rfl, by rw [cell_of_row _ _ 1 _ _ _ h]; rfl, by rw [cell_of_row _ _ 2 _ _ _ h]; rfl, frozen_of_row h 0, frozen_of_row h 1, frozen_of_row h 2⟩
theorem words_at {w w' : World} {g : Nat} {xs : List ByteArray} {t : TypeId} (z : Int) (h0 : 0 ≤ z) (hz : z < xs.length) (hg : g < w.heap.size) (hb : But g (w.alloc (.cells (xs.map Value.string).toArray t)) w') :
    w'.cell? ⟨w.heap.size, z.toNat, none⟩ = some (.string (xs.getD z.toNat ⟨#[]⟩)) := by
  rw [World.cell?_of_block (w := w.alloc (.cells (xs.map Value.string).toArray t)) (hb.block _ (by simp) (by show w.heap.size ≠ g; omega))]
  exact cells_strs w w.heap.size rfl xs t z.toNat (by omega)
theorem set_row {w : World} {b : Nat} {cs : Array Value} {t : TypeId} (h : w.heap[b]? = some (.cells cs t)) (j : Nat) (u : Value) : (w.setCell ⟨b, j, none⟩ u).heap[b]? = some (.cells (cs.setIfInBounds j u) t) := by
  show (w.heap.modify b _)[b]? = _
  rw [Array.getElem?_modify, if_pos rfl, h]
  rfl
theorem box_set3 {w : World} {b : Nat} {v0 v1 v2 : Value} {t : TypeId} (h : w.heap[b]? = some (.cells #[v0, v1, v2] t)) (u0 u1 u2 : Value) :
    (((w.setCell ⟨b, 0, none⟩ u0).setCell ⟨b, 1, none⟩ u1).setCell ⟨b, 2, none⟩ u2).heap[b]? = some (.cells #[u0, u1, u2] t) :=
  set_row (set_row (set_row h 0 u0) 1 u1) 2 u2
theorem set3_other {w : World} {b : Nat} (u0 u1 u2 : Value) (k : Nat) (h : k ≠ b) : (((w.setCell ⟨b, 0, none⟩ u0).setCell ⟨b, 1, none⟩ u1).setCell ⟨b, 2, none⟩ u2).heap[k]? = w.heap[k]? := by
  rw [Below.heap_setCell _ _ _ _ h, Below.heap_setCell _ _ _ _ h, Below.heap_setCell _ _ _ _ h]
theorem set3_size {w : World} {b : Nat} (u0 u1 u2 : Value) : (((w.setCell ⟨b, 0, none⟩ u0).setCell ⟨b, 1, none⟩ u1).setCell ⟨b, 2, none⟩ u2).heap.size = w.heap.size := by simp [World.setCell]

def NotAt (b : Nat) (v : Value) : Prop := ∀ k, v.ownBlock = some k → k ≠ b
def Apart (v u : Value) : Prop := ∀ k, v.ownBlock = some k → u.ownBlock ≠ some k

/-- What a round's item, the list so far and the open tags are, in a world. -/
structure FR (g b : Nat) (w : World) (fv : Value) (f : List Tk) (L : List Int) (ov : Value) (op : List Tk) (x : Tk) (M : Nat) (wx : World) : Prop where
  own : OwnT 58 wx w.heap.size fv f
  ownO : OwnT 58 wx w.heap.size ov op
  apart : Apart fv ov
  nf : NotAt b fv
  no : NotAt b ov
  box : wx.heap[b]? = some (.cells #[.int .i64 x.k, .string x.t, .int .i64 x.d] 58)
  but : But g w wx
  num : Nums wx g L M
  gB : g < w.heap.size
  bB : w.heap.size ≤ b

section
variable {g b : Nat} {w : World} {fv : Value} {f : List Tk} {L : List Int} {ov ov' : Value} {op op' : List Tk} {x : Tk} {M M' : Nat} {wx w' : World}
theorem FR.call (h : FR g b w fv f L ov op x M wx) (hb : But g wx w') (hn : Nums w' g L M') : FR g b w fv f L ov op x M' w' := by
  have hg := h.gB
  have hbB := h.bB
  refine ⟨own_same h.own fun k hk => ?_, own_same h.ownO fun k hk => ?_, h.apart, h.nf, h.no, ?_, h.but.trans hb, hn, hg, hbB⟩
  · have := h.own.lt k hk
    exact hb.block k this.2 (by omega)
  · have := h.ownO.lt k hk
    exact hb.block k this.2 (by omega)
  · rw [hb.block b (Array.getElem?_eq_some_iff.1 h.box).1 (by omega)]
    exact h.box
theorem FR.alloc (h : FR g b w fv f L ov op x M wx) (o : Obj) : FR g b w fv f L ov op x M (wx.alloc o) := h.call ((But.refl _ _).alloc o) (h.num.alloc o)
theorem FR.drew (h : FR g b w fv f L ov op x M wx) : FR g b w fv f L ov op x M wx.drew := h.call ((But.refl g wx).drewN 1) (h.num.keepg fun _ _ => rfl)
theorem FR.set3 (h : FR g b w fv f L ov op x M wx) (y : Tk) : FR g b w fv f L ov op y M (((wx.setCell ⟨b, 0, none⟩ (.int .i64 y.k)).setCell ⟨b, 1, none⟩ (.string y.t)).setCell ⟨b, 2, none⟩ (.int .i64 y.d)) := by
  have hg := h.gB
  have hbB := h.bB
  refine ⟨own_same h.own fun k hk => set3_other _ _ _ _ (h.nf k hk), own_same h.ownO fun k hk => set3_other _ _ _ _ (h.no k hk), h.apart, h.nf, h.no, box_set3 h.box _ _ _, ?_, h.num.keepg fun k hk => set3_other _ _ _ _ (by omega), hg, hbB⟩
  exact ⟨h.but.os, h.but.tape, h.but.output, by rw [set3_size]; exact h.but.size, fun k hk hn => (set3_other _ _ _ _ (by omega)).trans (h.but.block k hk hn)⟩
theorem FR.push (h : FR g b w fv f L ov op x M wx) (hown : OwnT 58 w' w.heap.size ov' op') (hgr : wx.grownBy w' ov.ownBlock) (hat : ov'.ownBlock = ov.ownBlock ∨ ov'.ownBlock = some wx.heap.size) : FR g b w fv f L ov' op' x M w' := by
  have hg := h.gB
  have hbB := h.bB
  have hbl := (Array.getElem?_eq_some_iff.1 h.box).1
  have hsz := h.but.size
  have hO := h.ownO.lt
  refine ⟨own_same h.own fun k hk => hgr.block k (h.own.lt k hk).2 (fun e => h.apart k hk e.symm), hown, fun k hk e => ?_, h.nf, fun k hk => ?_, ?_, ?_, h.num.keepg fun k hk => ?_, hg, hbB⟩
  · rcases hat with hat | hat
    · rw [hat] at e; exact h.apart k hk e
    · rw [hat] at e
      injection e with e
      have := (h.own.lt k hk).2
      omega
  · rcases hat with hat | hat
    · rw [hat] at hk; exact h.no k hk
    · rw [hat] at hk
      injection hk with hk
      omega
  · rw [hgr.block b hbl (fun e => h.no b e.symm rfl)]
    exact h.box
  · exact ⟨hgr.os.trans h.but.os, hgr.tape.trans h.but.tape, hgr.output.trans h.but.output, Nat.le_trans h.but.size hgr.size, fun k hk hn => (hgr.block k (by omega) (fun e => by have := (hO k e.symm).1; omega)).trans (h.but.block k hk hn)⟩
  · exact hgr.block k (by omega) (fun e => by have := (hO k e.symm).1; omega)
theorem FR.fresh (h : FR g b w fv f L ov op x M wx) (hb : Below wx.heap.size wx w') (hown : OwnT 58 w' wx.heap.size ov' op') : FR g b w fv f L ov' op' x M w' := by
  have hg := h.gB
  have hbB := h.bB
  have hbl := (Array.getElem?_eq_some_iff.1 h.box).1
  have hsz := h.but.size
  have hO := hown.lt
  refine ⟨own_same h.own fun k hk => hb.block k (h.own.lt k hk).2, own_base hown hsz, fun k hk e => ?_, h.nf, fun k hk => ?_, ?_, ?_, h.num.keepg fun k hk => hb.block k (by omega), hg, hbB⟩
  · have := (h.own.lt k hk).2
    have := (hO k e).1
    omega
  · have := (hO k hk).1
    omega
  · rw [hb.block b hbl]
    exact h.box
  · exact ⟨hb.os.trans h.but.os, hb.tape.trans h.but.tape, hb.output.trans h.but.output, Nat.le_trans h.but.size hb.size, fun k hk hn => (hb.block k (by omega)).trans (h.but.block k hk hn)⟩
end

/-- A call that has made a fragment. -/
def FragRet (g : Nat) (l : List Tk) (w : World) (e : Ending) (w' : World) : Prop := ∃ v, e = .returned v ∧ OwnT 58 w' w.heap.size v l ∧ But g w w'

set_option maxRecDepth 100000 in
set_option maxHeartbeats 16000000 in
theorem fragment_any' (L : List Int) (g : Nat) (n : Nat) (w : World) (h : Nums w g L 0) (hn : n ≤ 100) :
    Calls Try.prog 32 #[.pointer (some ⟨g, 0, none⟩), .int .i64 n, .bool true, .bool false] w (FragRet g (fragL L 0 n).f w) := by
  have HT : Hid (fragGo L (nextN L 0 ((n : Int) + 1)).toNat ⟨[], [], 0, 1⟩ = fragL L 0 n) := by show fragGo L (nextN L 0 ((n : Int) + 1)).toNat ⟨[], [], 0, 1⟩ = fragL L 0 n; rfl
  have hb := nextN_bd L 0 ((n : Int) + 1) (by omega)
  have HNX := Lib.hid (next_any' L g 0 ((n : Int) + 1) w h (by omega) (by omega) (by omega))
  have hgB := h.lt
  generalize nextN L 0 ((n : Int) + 1) = z at HT hb HNX
  generalize fragL L 0 n = tgt at HT
  obtain ⟨m, rfl⟩ : ∃ m : Nat, z = (m : Int) := ⟨z.toNat, by omega⟩
  rw [Int.toNat_natCast] at HT
  have hm : m ≤ 100 := by omega
  clear h
  go_enter Try.func32, Try.ntmps32
  go_wp2_with fail
  refine (HNX.out).mono ?_
  rintro e w1 ⟨rfl, hb1, hn1⟩
  have HB1 := Lib.hid hb1
  have HN1 := Lib.hid hn1
  clear hb1 hn1
  go_wp2_with fail
  go_loopw [9, 10, 11, 12] (fun fv ov dv iv wr => ∃ (s : FrT) (i r : Nat), dv = .int .i64 s.id ∧ iv = .int .i64 i ∧ r + i = m ∧ FOK s r ∧ OwnT 58 wr w.heap.size fv s.f ∧ OwnT 58 wr w.heap.size ov s.op ∧ Hid (Apart fv ov) ∧ Hid (But g w wr) ∧ Hid (Nums wr g L s.N) ∧ Hid (fragGo L i s = tgt)) (fun _ _ _ iv _ => (intOf iv).toNat)
  case atStart => exact ⟨⟨[], [], 0, 1⟩, m, 0, rfl, rfl, by omega, fok_start 1 (Nat.le_refl _), OwnE.nil, OwnE.nil, fun k hk => (by cases hk), HB1.out, HN1.out, HT.out⟩
  case round =>
    obtain ⟨⟨f, op, id, N'⟩, i, r, rfl, rfl, hri, hok, hof, hoo, HAP, HB, HN, HG⟩ := hrel
    cases i with
    | zero =>
      have he := HG.out
      rw [fragGo] at he
      subst he
      have HF := Lib.hid hof
      obtain ⟨A1, c1, hv1⟩ := own_shape hof
      subst hv1
      obtain ⟨A2, c2, hv2⟩ := own_shape hoo
      subst hv2
      have hop := hok.oplen
      simp only at hop
      clear hof hoo hok HT
      go_wp2_with fail
      go_loopw [9, 15] (fun fv kv wr' => wr' = wr ∧ fv = .slice A1 f.length c1 ∧ kv = .int .i64 ((op.length : Int) - 1)) (fun _ _ _ => 0)
      case atStart => exact ⟨rfl, rfl, by go_num⟩
      case round =>
        obtain ⟨rfl, rfl, rfl⟩ := hrel
        have e0 : (decide (0 ≤ (op.length : Int) - 1) && false) = false := by simp
        by_cases hp : 0 ≤ (op.length : Int) - 1
        · go_wp2_with fail
          go_ret
          exact ⟨_, rfl, HF.out, HB.out⟩
        · go_wp2_with fail
          go_ret
          exact ⟨_, rfl, HF.out, HB.out⟩
    | succ i =>
      have hl := lineL_bd L N' 3 (by decide)
      have hfn := hok.num
      simp only at hfn
      have HLN := Lib.hid (line_any' L g N' 3 wr HN.out (by omega) (by decide) (by decide))
      have HG2 := HG.out
      rw [fragGo] at HG2
      have hst : fragStep L ⟨f, op, id, N'⟩ = ⟨normL (f ++ [(itemL L (nextN L (lineL L N' 3).2 8) (lineL L N' 3).1 op id ((lineL L N' 3).2 + 1)).1]), (itemL L (nextN L (lineL L N' 3).2 8) (lineL L N' 3).1 op id ((lineL L N' 3).2 + 1)).2.1,
        (itemL L (nextN L (lineL L N' 3).2 8) (lineL L N' 3).1 op id ((lineL L N' 3).2 + 1)).2.2.1, (itemL L (nextN L (lineL L N' 3).2 8) (lineL L N' 3).1 op id ((lineL L N' 3).2 + 1)).2.2.2⟩ := rfl
      have hok2 := hok.step L
      rw [hst] at HG2 hok2
      generalize lineL L N' 3 = ln at hl HLN HG2 hok2
      obtain ⟨t, M⟩ := ln
      simp only at hl HLN HG2 hok2
      have c8 := nextN_bd L M 8 (by decide)
      have HX8 := Lib.hid (fun w h => next_any' L g M 8 w h (by omega) (by decide) (by decide))
      generalize nextN L M 8 = c at c8 HX8 HG2 hok2
      have HF := Lib.hid hof
      obtain ⟨A1, d1, hv1⟩ := own_shape hof
      subst hv1
      have HO := Lib.hid hoo
      obtain ⟨A2, d2, hv2⟩ := own_shape hoo
      subst hv2
      have hop := hok.oplen
      have hfl := hok.len
      have hby := hok.bytes
      have hsz5 := hok.opsz
      simp only at hop hfl hby hsz5
      have HGG := Lib.hid HG2
      have HOK := Lib.hid hok2
      have HS5 := Lib.hid hsz5
      have hid := hok.id
      simp only at hid
      clear hst hok2 HG2 HG hof hoo hok HT hsz5
      go_wp2_with fail
      refine (HLN.out).mono ?_
      rintro e w2 ⟨rfl, hb2, hn2⟩
      have hB2 := HB.out.trans hb2
      have HF2 := Lib.hid (own_same HF.out (w' := w2) fun k hk => by have := HF.out.lt k hk; exact hb2.block k this.2 (by omega))
      have HO2 := Lib.hid (own_same HO.out (w' := w2) fun k hk => by have := HO.out.lt k hk; exact hb2.block k this.2 (by omega))
      have HN2 := Lib.hid hn2
      have hg2 := hn2.lt
      have HB2 := Lib.hid hB2
      have hsz2 := hB2.size
      clear hb2 hn2 hB2 HF HO HN HLN HB
      go_upto_block 2 with (go_at_call 30; refine (HX8.out _ (by exact HN2.out.alloc _)).mono ?_; rintro e w3 ⟨rfl, hb3, hn3⟩)
      have HFR : FR g w2.heap.size w (.slice A1 f.length d1) f L (.slice A2 op.length d2) op ⟨1, t, 0⟩ (M + 1) w3 := by
        have h0 : FR g w2.heap.size w (.slice A1 f.length d1) f L (.slice A2 op.length d2) op ⟨1, t, 0⟩ M (w2.alloc (.cells #[.int .i64 1, .string t, .int .i64 0] 58)) := by
          refine ⟨own_same HF2.out fun k hk => Below.heap_alloc _ _ _ (HF2.out.lt k hk).2, own_same HO2.out fun k hk => Below.heap_alloc _ _ _ (HO2.out.lt k hk).2, HAP.out, fun k hk => ?_, fun k hk => ?_, Array.getElem?_push_size, HB2.out.alloc _, HN2.out.alloc _, hgB, hsz2⟩
          · have := (HF2.out.lt k hk).2; omega
          · have := (HO2.out.lt k hk).2; omega
        exact h0.call hb3 hn3
      have hg3 := hn3.lt
      clear hb3 hn3 HX8 HF2 HO2 HN2 HB2 HAP
      go_cut [10, 11] (fun ov dv wx => ∃ (x : Tk) (op' : List Tk) (id' M' : Nat), dv = .int .i64 id' ∧ Hid (itemL L c t op id (M + 1) = (x, op', id', M')) ∧ FR g w2.heap.size w (.slice A1 f.length d1) f L ov op' x M' wx)
      case first =>
        rcases (show c = 0 ∨ c = 1 ∨ c = 2 ∨ c = 3 ∨ c = 4 ∨ c = 5 ∨ c = 6 ∨ c = 7 from by omega) with rfl | rfl | rfl | rfl | rfl | rfl | rfl | rfl
        · have hz := nextN_bd L (M + 1) 3 (by decide)
          have HI : Hid (itemL L 0 t op id (M + 1) = (⟨5, slotW.getD (nextN L (M + 1) 3).toNat ⟨#[]⟩, 0⟩, op, id, M + 1 + 1)) := by
            show itemL L 0 t op id (M + 1) = _
            rfl
          have HX3 := Lib.hid (fun w h => next_any' L g (M + 1) 3 w h (by omega) (by decide) (by decide))
          generalize nextN L (M + 1) 3 = z at hz HI HX3
          have hzn : ((z.toNat : Nat) : Int) = z := by omega
          go_wp2_with fail
          refine (HX3.out _ (by exact HFR.num.alloc (.cells (slotW.map Value.string).toArray 9))).mono ?_
          rintro e w5 ⟨rfl, hb5, hn5⟩
          have q := words_at (xs := slotW) z hz.1 hz.2 hg3 (by exact hb5)
          have HFR5 := (HFR.alloc (.cells (slotW.map Value.string).toArray 9)).call hb5 hn5
          have hg5 := hn5.lt
          obtain ⟨p0, p1, p2, p3, p4, p5⟩ := box_facts HFR5.box
          generalize slotW.getD z.toNat ⟨#[]⟩ = word at q HI
          clear hb5 hn5 HX3
          go_wp2_with fail
          go_meet
          exact ⟨⟨5, word, 0⟩, op, id, M + 1 + 1, by go_num, HI.out, HFR5.set3 ⟨5, word, 0⟩⟩
        · have hz := nextN_bd L (M + 1) 3 (by decide)
          have HI : Hid (itemL L 1 t op id (M + 1) = (⟨5, slotW.getD (nextN L (M + 1) 3).toNat ⟨#[]⟩, 0⟩, op, id, M + 1 + 1)) := by
            show itemL L 1 t op id (M + 1) = _
            rfl
          have HX3 := Lib.hid (fun w h => next_any' L g (M + 1) 3 w h (by omega) (by decide) (by decide))
          generalize nextN L (M + 1) 3 = z at hz HI HX3
          have hzn : ((z.toNat : Nat) : Int) = z := by omega
          go_wp2_with fail
          refine (HX3.out _ (by exact HFR.num.alloc (.cells (slotW.map Value.string).toArray 9))).mono ?_
          rintro e w5 ⟨rfl, hb5, hn5⟩
          have q := words_at (xs := slotW) z hz.1 hz.2 hg3 (by exact hb5)
          have HFR5 := (HFR.alloc (.cells (slotW.map Value.string).toArray 9)).call hb5 hn5
          have hg5 := hn5.lt
          obtain ⟨p0, p1, p2, p3, p4, p5⟩ := box_facts HFR5.box
          generalize slotW.getD z.toNat ⟨#[]⟩ = word at q HI
          clear hb5 hn5 HX3
          go_wp2_with fail
          go_meet
          exact ⟨⟨5, word, 0⟩, op, id, M + 1 + 1, by go_num, HI.out, HFR5.set3 ⟨5, word, 0⟩⟩
        · have hz := nextN_bd L (M + 1) 2 (by decide)
          have HI : Hid (itemL L 2 t op id (M + 1) = (⟨4, emptyW.getD (nextN L (M + 1) 2).toNat ⟨#[]⟩, (id + 1 : Nat)⟩, op, id + 1, M + 1 + 1)) := by
            show itemL L 2 t op id (M + 1) = _
            rfl
          have HX3 := Lib.hid (fun w h => next_any' L g (M + 1) 2 w h (by omega) (by decide) (by decide))
          generalize nextN L (M + 1) 2 = z at hz HI HX3
          have hzn : ((z.toNat : Nat) : Int) = z := by omega
          go_wp2_with fail
          refine (HX3.out _ (by exact HFR.num.alloc (.cells (emptyW.map Value.string).toArray 9))).mono ?_
          rintro e w5 ⟨rfl, hb5, hn5⟩
          have q := words_at (xs := emptyW) z hz.1 hz.2 hg3 (by exact hb5)
          have HFR5 := (HFR.alloc (.cells (emptyW.map Value.string).toArray 9)).call hb5 hn5
          have hg5 := hn5.lt
          obtain ⟨p0, p1, p2, p3, p4, p5⟩ := box_facts HFR5.box
          generalize emptyW.getD z.toNat ⟨#[]⟩ = word at q HI
          clear hb5 hn5 HX3
          go_wp2_with fail
          go_meet
          exact ⟨⟨4, word, ((id + 1 : Nat) : Int)⟩, op, id + 1, M + 1 + 1, by go_num, HI.out, HFR5.set3 ⟨4, word, ((id + 1 : Nat) : Int)⟩⟩
        · have hz := nextN_bd L (M + 1) 3 (by decide)
          have HI : Hid (itemL L 3 t op id (M + 1) = (⟨2, openW.getD (nextN L (M + 1) 3).toNat ⟨#[]⟩, (id + 1 : Nat)⟩, op ++ [⟨2, openW.getD (nextN L (M + 1) 3).toNat ⟨#[]⟩, (id + 1 : Nat)⟩], id + 1, M + 1 + 1)) := by
            show itemL L 3 t op id (M + 1) = _
            rfl
          have HX3 := Lib.hid (fun w h => next_any' L g (M + 1) 3 w h (by omega) (by decide) (by decide))
          generalize nextN L (M + 1) 3 = z at hz HI HX3
          have hzn : ((z.toNat : Nat) : Int) = z := by omega
          go_wp2_with fail
          refine (HX3.out _ (by exact HFR.num.alloc (.cells (openW.map Value.string).toArray 9))).mono ?_
          rintro e w5 ⟨rfl, hb5, hn5⟩
          have q := words_at (xs := openW) z hz.1 hz.2 hg3 (by exact hb5)
          have HFR5 := (HFR.alloc (.cells (openW.map Value.string).toArray 9)).call hb5 hn5
          have hg5 := hn5.lt
          obtain ⟨p0, p1, p2, p3, p4, p5⟩ := box_facts HFR5.box
          generalize openW.getD z.toNat ⟨#[]⟩ = word at q HI
          clear hb5 hn5 HX3
          have hz5 := HFR5.but.size
          go_wp2_with (at_builtin; go_must (refine wpList_appAt rfl (.tmp 63) (.tmp 65) 59 58 rfl Try.underlying59 _ tkC 3 32 item_info rfl (by decide) tkC_three tkC_one w.heap.size _ op rfl (by exact ((HFR5.set3 ⟨2, word, (id : Int) + 1⟩).alloc _).ownO) _ [⟨2, word, (id : Int) + 1⟩] rfl (by exact RdT.one_at _ _ (set3_size _ _ _) ⟨2, word, (id : Int) + 1⟩ _) (by rw [List.length_singleton]; omega) (by decide) (by simp [World.setCell]; omega) ?_); intro v6 w6 hown6 hbel6 hgr6 hat6; obtain ⟨A6, d6, hv6⟩ := own_shape hown6; subst hv6; have HO6 := Lib.hid hown6; have HG6 := Lib.hid hgr6; have HA6 := Lib.hid hat6; clear hown6 hbel6 hgr6 hat6)
          go_meet
          have e6 : (op ++ [(⟨2, word, (id : Int) + 1⟩ : Tk)]).length = op.length + 1 := by simp
          have HF6 := ((HFR5.set3 ⟨2, word, (id : Int) + 1⟩).alloc _).push HO6.out HG6.out HA6.out
          rw [e6] at HF6
          have HI6 : Hid (itemL L 3 t op id (M + 1) = (⟨2, word, (id : Int) + 1⟩, op ++ [⟨2, word, (id : Int) + 1⟩], id + 1, M + 1 + 1)) := HI.out
          exact ⟨⟨2, word, (id : Int) + 1⟩, op ++ [⟨2, word, (id : Int) + 1⟩], id + 1, M + 1 + 1, by go_num, HI6, HF6⟩
        · have hz := nextN_bd L (M + 1) 3 (by decide)
          have HI : Hid (itemL L 4 t op id (M + 1) = (⟨2, openW.getD (nextN L (M + 1) 3).toNat ⟨#[]⟩, (id + 1 : Nat)⟩, op ++ [⟨2, openW.getD (nextN L (M + 1) 3).toNat ⟨#[]⟩, (id + 1 : Nat)⟩], id + 1, M + 1 + 1)) := by
            show itemL L 4 t op id (M + 1) = _
            rfl
          have HX3 := Lib.hid (fun w h => next_any' L g (M + 1) 3 w h (by omega) (by decide) (by decide))
          generalize nextN L (M + 1) 3 = z at hz HI HX3
          have hzn : ((z.toNat : Nat) : Int) = z := by omega
          go_wp2_with fail
          refine (HX3.out _ (by exact HFR.num.alloc (.cells (openW.map Value.string).toArray 9))).mono ?_
          rintro e w5 ⟨rfl, hb5, hn5⟩
          have q := words_at (xs := openW) z hz.1 hz.2 hg3 (by exact hb5)
          have HFR5 := (HFR.alloc (.cells (openW.map Value.string).toArray 9)).call hb5 hn5
          have hg5 := hn5.lt
          obtain ⟨p0, p1, p2, p3, p4, p5⟩ := box_facts HFR5.box
          generalize openW.getD z.toNat ⟨#[]⟩ = word at q HI
          clear hb5 hn5 HX3
          have hz5 := HFR5.but.size
          go_wp2_with (at_builtin; go_must (refine wpList_appAt rfl (.tmp 63) (.tmp 65) 59 58 rfl Try.underlying59 _ tkC 3 32 item_info rfl (by decide) tkC_three tkC_one w.heap.size _ op rfl (by exact ((HFR5.set3 ⟨2, word, (id : Int) + 1⟩).alloc _).ownO) _ [⟨2, word, (id : Int) + 1⟩] rfl (by exact RdT.one_at _ _ (set3_size _ _ _) ⟨2, word, (id : Int) + 1⟩ _) (by rw [List.length_singleton]; omega) (by decide) (by simp [World.setCell]; omega) ?_); intro v6 w6 hown6 hbel6 hgr6 hat6; obtain ⟨A6, d6, hv6⟩ := own_shape hown6; subst hv6; have HO6 := Lib.hid hown6; have HG6 := Lib.hid hgr6; have HA6 := Lib.hid hat6; clear hown6 hbel6 hgr6 hat6)
          go_meet
          have e6 : (op ++ [(⟨2, word, (id : Int) + 1⟩ : Tk)]).length = op.length + 1 := by simp
          have HF6 := ((HFR5.set3 ⟨2, word, (id : Int) + 1⟩).alloc _).push HO6.out HG6.out HA6.out
          rw [e6] at HF6
          have HI6 : Hid (itemL L 4 t op id (M + 1) = (⟨2, word, (id : Int) + 1⟩, op ++ [⟨2, word, (id : Int) + 1⟩], id + 1, M + 1 + 1)) := HI.out
          exact ⟨⟨2, word, (id : Int) + 1⟩, op ++ [⟨2, word, (id : Int) + 1⟩], id + 1, M + 1 + 1, by go_num, HI6, HF6⟩
        · by_cases hop0 : 0 < op.length
          · have hz := nextN_bd L (M + 1) (op.length : Int) (by omega)
            have HI : Hid (itemL L 5 t op id (M + 1) = (⟨3, nameB (op.getD (nextN L (M + 1) op.length).toNat ⟨0, ⟨#[]⟩, 0⟩).t, (op.getD (nextN L (M + 1) op.length).toNat ⟨0, ⟨#[]⟩, 0⟩).d⟩, op.take (nextN L (M + 1) op.length).toNat ++ op.drop ((nextN L (M + 1) op.length).toNat + 1), id, M + 1 + 1)) := by
              show itemL L 5 t op id (M + 1) = _
              unfold itemL
              rw [if_neg (by decide), if_neg (by decide), if_neg (by decide), if_pos (by decide), if_pos hop0]
            have HXK := Lib.hid (fun w h => next_any' L g (M + 1) op.length w h (by omega) (by omega) (by omega))
            generalize nextN L (M + 1) op.length = z at hz HI HXK
            obtain ⟨k, rfl⟩ : ∃ k : Nat, z = (k : Int) := ⟨z.toNat, by omega⟩
            rw [Int.toNat_natCast] at HI
            have hk : k < op.length := by omega
            have hk' : (k : Int) < (op.length : Int) := by omega
            obtain ⟨g2, c2, hv2, hg2'⟩ := own_some HFR.ownO hop0
            injection hv2 with hA2 _ hd2
            subst hA2 hd2
            go_wp2_with fail
            refine (HXK.out _ HFR.num).mono ?_
            rintro e w5 ⟨rfl, hb5, hn5⟩
            have HFR5 := HFR.call hb5 hn5
            have hg5 := hn5.lt
            obtain ⟨p0, p1, p2, p3, p4, p5⟩ := box_facts HFR5.box
            obtain ⟨b', o', hA', hbl', r1, r2, r3⟩ := RdT.at_ (OwnE.rd tkC_three HFR5.ownO) k hk
            injection hA' with hA'
            injection hA' with e1 e2 _
            subst e1 e2
            rw [Nat.zero_add] at r1 r2 r3
            have hsz := HS5.out op[k] (List.getElem_mem hk)
            have HG5 : Hid (op.getD k ⟨0, ⟨#[]⟩, 0⟩ = op[k]) := by
              show op.getD k ⟨0, ⟨#[]⟩, 0⟩ = op[k]
              rw [List.getD_eq_getElem?_getD, List.getElem?_eq_getElem hk, Option.getD_some]
            rw [HG5.out] at HI
            generalize op[k] = y at r1 r2 r3 hsz HI
            have HNM := fun w => name_any y.t w (by omega)
            have HNMH := Lib.hid HNM
            clear hb5 hn5 HXK HNM HG5
            go_wp2_with fail
            go_region_with ((go_at_call 48; refine (HNMH.out _).mono ?_; rintro e w' ⟨rfl, rfl⟩))
            all_goals
              clear r1 r2 r3 p0 p1 p2 p3 p4 p5 HNMH
              have HFR6 := (HFR5.set3 ⟨3, nameB y.t, y.d⟩).drew
              have ewr : IntKind.i64.wrap ((k : Int) + 1) = (k : Int) + 1 := by rw [IntKind.wrap_i64]; omega
              have hp0 : (0 : Int) ≤ (k : Int) + 1 := by omega
              have hp1 : (k : Int) + 1 ≤ (op.length : Int) := by omega
              have hp2 : ((k : Int) + 1).toNat = k + 1 := by omega
              have hcc := RdE.cap (OwnE.rd tkC_three HFR6.ownO)
              have hkc : k ≤ d2 := by omega
              have HFR7 := HFR6.drew
              have hrd := OwnE.rd tkC_three HFR7.ownO
              have S1 := Lib.hid (hrd.take k (by omega))
              obtain ⟨A, hA, hrd2⟩ : ∃ A : Option Addr, (if d2 = k + 1 then some (⟨g2, 0, none⟩ : Addr) else some ⟨g2, (k + 1) * 3, none⟩) = A ∧ Hid (RdT ((((w5.setCell ⟨w2.heap.size, 0, none⟩ (.int .i64 3)).setCell ⟨w2.heap.size, 1, none⟩ (.string (nameB y.t))).setCell ⟨w2.heap.size, 2, none⟩ (.int .i64 y.d)).drew.drew) (.slice A (op.length - (k + 1)) (d2 - (k + 1))) (op.drop (k + 1))) := by
                refine ⟨_, rfl, show RdT _ _ _ from hrd.drop (k + 1) (by omega) _ (fun h => ?_) (fun h => ?_)⟩
                · rw [if_neg (by omega), Nat.zero_add]
                · split at h <;> cases h
              have HZ7 := HFR7.but.size
              have HFA := Lib.hid HFR7
              have t1 : (op.take k).length = k := by rw [List.length_take]; omega
              have t2 : (op.drop (k + 1)).length = op.length - (k + 1) := List.length_drop
              have T1 := Lib.hid t1
              have T2 := Lib.hid t2
              clear hrd HFR5 HFR6 HFR7 HFR t1 t2
              go_wp2_with fail
              go_region_law (first
                | (refine step_appE rfl (.const (.slice none 0 0)) (.tmp 95) 59 58 rfl Try.underlying59 _ tkC 3 32 item_info rfl (by decide) tkC_three tkC_one _ (.slice none 0 0) [] rfl (by exact OwnE.nil) (.slice (some ⟨g2, 0, none⟩) k d2) (op.take k) (by simp [Act.eval, Act.put]) (by exact S1.out) (by rw [T1.out]; simp; omega) (by decide) (Nat.le_refl _) ?_
                   intro v7 w7 hown7 hbel7 hgr7 _
                   rw [List.nil_append] at hown7
                   have HO7 := Lib.hid hown7
                   have HB7 := Lib.hid (hbel7 _ _ (Nat.le_refl _) (Below.refl _ _))
                   have hz7 := HB7.out.size
                   clear hown7 hbel7 hgr7)
                | (refine step_appE rfl (.tmp 96) (.tmp 100) 59 58 rfl Try.underlying59 _ tkC 3 32 item_info rfl (by decide) tkC_three tkC_one _ v7 (op.take k) (by simp [Act.eval]) (by exact HO7.out) (.slice A (op.length - (k + 1)) (d2 - (k + 1))) (op.drop (k + 1)) (by simp [Act.eval]) (by exact RdE.below hrd2.out HB7.out (Nat.le_refl _)) (by rw [T1.out, T2.out]; omega) (by decide) hz7 ?_
                   intro v8 w8 hown8 hbel8 hgr8 _
                   have HO8 := Lib.hid hown8
                   have HB8 := Lib.hid (hbel8 _ _ (Nat.le_refl _) HB7.out)
                   clear hown8 hbel8 hgr8))
              go_wp2_with fail
              go_meet
              exact ⟨⟨3, nameB y.t, y.d⟩, op.take k ++ op.drop (k + 1), id, M + 1 + 1, rfl, HI.out, HFA.out.fresh HB8.out HO8.out⟩
          · obtain rfl : op = [] := List.eq_nil_of_length_eq_zero (by omega)
            obtain ⟨p0, p1, p2, p3, p4, p5⟩ := box_facts HFR.box
            go_wp2_with fail
            go_meet
            exact ⟨⟨3, ⟨#[98]⟩, ((id + 1 : Nat) : Int)⟩, [], id + 1, M + 1, by go_num, rfl, HFR.set3 ⟨3, ⟨#[98]⟩, ((id + 1 : Nat) : Int)⟩⟩
        · by_cases hop0 : 0 < op.length
          · have hz := nextN_bd L (M + 1) (op.length : Int) (by omega)
            have HI : Hid (itemL L 6 t op id (M + 1) = (⟨3, nameB (op.getD (nextN L (M + 1) op.length).toNat ⟨0, ⟨#[]⟩, 0⟩).t, (op.getD (nextN L (M + 1) op.length).toNat ⟨0, ⟨#[]⟩, 0⟩).d⟩, op.take (nextN L (M + 1) op.length).toNat ++ op.drop ((nextN L (M + 1) op.length).toNat + 1), id, M + 1 + 1)) := by
              show itemL L 6 t op id (M + 1) = _
              unfold itemL
              rw [if_neg (by decide), if_neg (by decide), if_neg (by decide), if_pos (by decide), if_pos hop0]
            have HXK := Lib.hid (fun w h => next_any' L g (M + 1) op.length w h (by omega) (by omega) (by omega))
            generalize nextN L (M + 1) op.length = z at hz HI HXK
            obtain ⟨k, rfl⟩ : ∃ k : Nat, z = (k : Int) := ⟨z.toNat, by omega⟩
            rw [Int.toNat_natCast] at HI
            have hk : k < op.length := by omega
            have hk' : (k : Int) < (op.length : Int) := by omega
            obtain ⟨g2, c2, hv2, hg2'⟩ := own_some HFR.ownO hop0
            injection hv2 with hA2 _ hd2
            subst hA2 hd2
            go_wp2_with fail
            refine (HXK.out _ HFR.num).mono ?_
            rintro e w5 ⟨rfl, hb5, hn5⟩
            have HFR5 := HFR.call hb5 hn5
            have hg5 := hn5.lt
            obtain ⟨p0, p1, p2, p3, p4, p5⟩ := box_facts HFR5.box
            obtain ⟨b', o', hA', hbl', r1, r2, r3⟩ := RdT.at_ (OwnE.rd tkC_three HFR5.ownO) k hk
            injection hA' with hA'
            injection hA' with e1 e2 _
            subst e1 e2
            rw [Nat.zero_add] at r1 r2 r3
            have hsz := HS5.out op[k] (List.getElem_mem hk)
            have HG5 : Hid (op.getD k ⟨0, ⟨#[]⟩, 0⟩ = op[k]) := by
              show op.getD k ⟨0, ⟨#[]⟩, 0⟩ = op[k]
              rw [List.getD_eq_getElem?_getD, List.getElem?_eq_getElem hk, Option.getD_some]
            rw [HG5.out] at HI
            generalize op[k] = y at r1 r2 r3 hsz HI
            have HNM := fun w => name_any y.t w (by omega)
            have HNMH := Lib.hid HNM
            clear hb5 hn5 HXK HNM HG5
            go_wp2_with fail
            go_region_with ((go_at_call 48; refine (HNMH.out _).mono ?_; rintro e w' ⟨rfl, rfl⟩))
            all_goals
              clear r1 r2 r3 p0 p1 p2 p3 p4 p5 HNMH
              have HFR6 := (HFR5.set3 ⟨3, nameB y.t, y.d⟩).drew
              have ewr : IntKind.i64.wrap ((k : Int) + 1) = (k : Int) + 1 := by rw [IntKind.wrap_i64]; omega
              have hp0 : (0 : Int) ≤ (k : Int) + 1 := by omega
              have hp1 : (k : Int) + 1 ≤ (op.length : Int) := by omega
              have hp2 : ((k : Int) + 1).toNat = k + 1 := by omega
              have hcc := RdE.cap (OwnE.rd tkC_three HFR6.ownO)
              have hkc : k ≤ d2 := by omega
              have HFR7 := HFR6.drew
              have hrd := OwnE.rd tkC_three HFR7.ownO
              have S1 := Lib.hid (hrd.take k (by omega))
              obtain ⟨A, hA, hrd2⟩ : ∃ A : Option Addr, (if d2 = k + 1 then some (⟨g2, 0, none⟩ : Addr) else some ⟨g2, (k + 1) * 3, none⟩) = A ∧ Hid (RdT ((((w5.setCell ⟨w2.heap.size, 0, none⟩ (.int .i64 3)).setCell ⟨w2.heap.size, 1, none⟩ (.string (nameB y.t))).setCell ⟨w2.heap.size, 2, none⟩ (.int .i64 y.d)).drew.drew) (.slice A (op.length - (k + 1)) (d2 - (k + 1))) (op.drop (k + 1))) := by
                refine ⟨_, rfl, show RdT _ _ _ from hrd.drop (k + 1) (by omega) _ (fun h => ?_) (fun h => ?_)⟩
                · rw [if_neg (by omega), Nat.zero_add]
                · split at h <;> cases h
              have HZ7 := HFR7.but.size
              have HFA := Lib.hid HFR7
              have t1 : (op.take k).length = k := by rw [List.length_take]; omega
              have t2 : (op.drop (k + 1)).length = op.length - (k + 1) := List.length_drop
              have T1 := Lib.hid t1
              have T2 := Lib.hid t2
              clear hrd HFR5 HFR6 HFR7 HFR t1 t2
              go_wp2_with fail
              go_region_law (first
                | (refine step_appE rfl (.const (.slice none 0 0)) (.tmp 95) 59 58 rfl Try.underlying59 _ tkC 3 32 item_info rfl (by decide) tkC_three tkC_one _ (.slice none 0 0) [] rfl (by exact OwnE.nil) (.slice (some ⟨g2, 0, none⟩) k d2) (op.take k) (by simp [Act.eval, Act.put]) (by exact S1.out) (by rw [T1.out]; simp; omega) (by decide) (Nat.le_refl _) ?_
                   intro v7 w7 hown7 hbel7 hgr7 _
                   rw [List.nil_append] at hown7
                   have HO7 := Lib.hid hown7
                   have HB7 := Lib.hid (hbel7 _ _ (Nat.le_refl _) (Below.refl _ _))
                   have hz7 := HB7.out.size
                   clear hown7 hbel7 hgr7)
                | (refine step_appE rfl (.tmp 96) (.tmp 100) 59 58 rfl Try.underlying59 _ tkC 3 32 item_info rfl (by decide) tkC_three tkC_one _ v7 (op.take k) (by simp [Act.eval]) (by exact HO7.out) (.slice A (op.length - (k + 1)) (d2 - (k + 1))) (op.drop (k + 1)) (by simp [Act.eval]) (by exact RdE.below hrd2.out HB7.out (Nat.le_refl _)) (by rw [T1.out, T2.out]; omega) (by decide) hz7 ?_
                   intro v8 w8 hown8 hbel8 hgr8 _
                   have HO8 := Lib.hid hown8
                   have HB8 := Lib.hid (hbel8 _ _ (Nat.le_refl _) HB7.out)
                   clear hown8 hbel8 hgr8))
              go_wp2_with fail
              go_meet
              exact ⟨⟨3, nameB y.t, y.d⟩, op.take k ++ op.drop (k + 1), id, M + 1 + 1, rfl, HI.out, HFA.out.fresh HB8.out HO8.out⟩
          · obtain rfl : op = [] := List.eq_nil_of_length_eq_zero (by omega)
            obtain ⟨p0, p1, p2, p3, p4, p5⟩ := box_facts HFR.box
            go_wp2_with fail
            go_meet
            exact ⟨⟨3, ⟨#[98]⟩, ((id + 1 : Nat) : Int)⟩, [], id + 1, M + 1, by go_num, rfl, HFR.set3 ⟨3, ⟨#[98]⟩, ((id + 1 : Nat) : Int)⟩⟩
        · go_wp2_with fail
          go_meet
          exact ⟨⟨1, t, 0⟩, op, id, M + 1, rfl, rfl, HFR⟩
      case rest =>
        obtain ⟨x, op', id', M', rfl, HXI, HX⟩ := hcut
        have hG := HGG.out
        have hO := HOK.out
        rw [HXI.out] at hG hO
        have HGX := Lib.hid hG
        have HOX := Lib.hid hO
        obtain ⟨q1, _⟩ := item_ok L c t op id (M + 1) r hl.1 hop HS5.out hid x op' id' M' HXI.out
        obtain ⟨p0, p1, p2, _⟩ := box_facts HX.box
        clear hG hO HGG HOK
        go_wp2_with fail
        refine (rconcat_any f [x] _ _ _ (by exact (OwnE.rd tkC_three HX.own).alloc _) (by exact RdT.one_at _ _ rfl x _) (by rw [List.length_singleton]; omega) (by rw [bytesOf_one]; omega)).mono ?_
        rintro e w9 ⟨v9, rfl, hown9, hb9⟩; have HO9 := Lib.hid hown9; have HB9 := Lib.hid (((Below.refl wc.heap.size wc).alloc (Nat.le_refl _) _).trans (hb9.mono (by simp))); clear hown9 hb9
        go_wp2_with fail
        have hzx := HX.but.size
        have hz9 : (wc.alloc (.cells (tkC x).toArray 58)).heap.size = wc.heap.size + 1 := by simp
        refine ⟨⟨⟨normL (f ++ [x]), op', id', M'⟩, i, r + 1, rfl, by go_num, by omega, HOX.out, own_base HO9.out ?_, own_same HX.ownO fun k hk => HB9.out.block k (HX.ownO.lt k hk).2, fun k hk e => ?_, HX.but.trans (But.of_below HB9.out), HX.num.keepg fun k hk => HB9.out.block k (by omega), HGX.out⟩, by simp [intOf]; try omega⟩
        · show w.heap.size ≤ (wc.alloc (.cells (tkC x).toArray 58)).heap.size
          omega
        · have h1 : (wc.alloc (.cells (tkC x).toArray 58)).heap.size ≤ k := (HO9.out.lt k hk).1
          have h2 := (HX.ownO.lt k e).2
          omega

end Go.Proofs.Yteccphcophjhpaa
