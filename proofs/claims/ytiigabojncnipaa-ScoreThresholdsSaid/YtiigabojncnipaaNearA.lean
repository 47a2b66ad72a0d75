
/-
  Chapter 13: a list that differs from another one in a few tokens.
-/
import Derived.Test.YtiigabojncnipaaLaw13B
import Derived.Test.YtiigabojncnipaaFragA
namespace Go.Proofs.Ytiigabojncnipaa
open Go.RowKit

/-- What a list that is near another one keeps to. -/
structure Near (n : Nat) (d : List Tk) : Prop where
  len : d.length ≤ 2 * n
  wt : Weighty d
  sz : ∀ x ∈ d, x.t.size ≤ 145
theorem Near.nil : Near 0 [] := ⟨Nat.zero_le _, fun x hx => (by cases hx), fun x hx => (by cases hx)⟩
theorem Near.skip {n : Nat} {d : List Tk} (h : Near n d) : Near (n + 1) d := ⟨by have := h.len; omega, h.wt, h.sz⟩
theorem Near.one {n : Nat} {d : List Tk} (h : Near n d) (x : Tk) (hx : 2 ≤ x.k ∧ x.k ≤ 9) (hs : x.t.size ≤ 145) : Near (n + 1) (d ++ [x]) := by
  refine ⟨by rw [List.length_append]; have := h.len; show _ + 1 ≤ _; omega, fun y hy => ?_, fun y hy => ?_⟩
  · rcases List.mem_append.1 hy with hy | hy
    · exact h.wt y hy
    · rw [List.mem_singleton] at hy; subst hy; exact hx
  · rcases List.mem_append.1 hy with hy | hy
    · exact h.sz y hy
    · rw [List.mem_singleton] at hy; subst hy; exact hs
theorem Near.two {n : Nat} {d : List Tk} (h : Near n d) (x y : Tk) (hx : 2 ≤ x.k ∧ x.k ≤ 9) (hs : x.t.size ≤ 145) (hy : 2 ≤ y.k ∧ y.k ≤ 9) (ht : y.t.size ≤ 145) : Near (n + 1) (d ++ [x] ++ [y]) := by
  have h1 := h.one x hx hs
  refine ⟨by rw [List.length_append, List.length_append]; have := h.len; show _ + 1 + 1 ≤ _; omega, fun z hz => ?_, fun z hz => ?_⟩
  · rcases List.mem_append.1 hz with hz | hz
    · exact h1.wt z hz
    · rw [List.mem_singleton] at hz; subst hz; exact hy
  · rcases List.mem_append.1 hz with hz | hz
    · exact h1.sz z hz
    · rw [List.mem_singleton] at hz; subst hz; exact ht
theorem Near.toD {n : Nat} {d : List Tk} (h : Near n d) : ∀ x ∈ d, TkD x := fun x hx => by
  have h1 := h.wt x hx
  have h2 := h.sz x hx
  exact ⟨by unfold maxLen; omega, by omega, by omega⟩
def NearRet (n : Nat) (w : World) (e : Ending) (w' : World) : Prop := ∃ d : List Tk, Near n d ∧ RetOwn 44 tkC 3 w d e w'

/-- The list so far and the numbers, in a world. -/
structure NR (g : Nat) (wn : World) (v : Value) (d : List Tk) (m : List Int) (N : Nat) (wx : World) : Prop where
  own : OwnE 44 tkC 3 wx wn.heap.size v d
  but : But g wn wx
  num : Nums wx g m N
  gB : g < wn.heap.size
section
variable {g : Nat} {wn : World} {v v' : Value} {d d' : List Tk} {m : List Int} {N N' : Nat} {wx w' : World}
theorem NR.call (h : NR g wn v d m N wx) (hb : But g wx w') (hn : Nums w' g m N') : NR g wn v d m N' w' :=
  ⟨own_same h.own fun k hk => hb.block k (h.own.lt k hk).2 (by have := (h.own.lt k hk).1; have := h.gB; omega), h.but.trans hb, hn, h.gB⟩
theorem NR.alloc (h : NR g wn v d m N wx) (o : Obj) : NR g wn v d m N (wx.alloc o) := h.call ((But.refl _ _).alloc o) (h.num.alloc o)
theorem NR.set (h : NR g wn v d m N wx) (b j : Nat) (u : Value) (hb : wn.heap.size ≤ b) (hv : v.ownBlock ≠ some b) : NR g wn v d m N (wx.setCell ⟨b, j, none⟩ u) := by
  have hg := h.gB
  refine ⟨own_same h.own fun k hk => Below.heap_setCell _ _ _ _ (by intro e; rw [hk] at hv; exact hv (congrArg some e)), ?_, h.num.keepg fun k hk => Below.heap_setCell _ _ _ _ (by show k ≠ b; omega), hg⟩
  exact ⟨h.but.os, h.but.tape, h.but.output, by simpa [World.setCell] using h.but.size, fun k hk hn => (Below.heap_setCell _ _ _ _ (by show k ≠ b; omega)).trans (h.but.block k hk hn)⟩
theorem NR.push (h : NR g wn v d m N wx) (hown : OwnE 44 tkC 3 w' wn.heap.size v' d') (hgr : wx.grownBy w' v.ownBlock) : NR g wn v' d' m N w' := by
  have hg := h.gB
  have hO := h.own.lt
  have hsz := h.but.size
  refine ⟨hown, ⟨hgr.os.trans h.but.os, hgr.tape.trans h.but.tape, hgr.output.trans h.but.output, Nat.le_trans h.but.size hgr.size, fun k hk hn => (hgr.block k (by omega) (fun e => by have := (hO k e.symm).1; omega)).trans (h.but.block k hk hn)⟩, h.num.keepg fun k hk => ?_, hg⟩
  exact hgr.block k (by omega) (fun e => by have := (hO k e.symm).1; omega)
end

set_option maxRecDepth 100000 in
set_option maxHeartbeats 8000000 in
theorem near_any (l : List Tk) (m : List Int) (v u : Value) (w : World) (h : RdT w v l) (hm : RdE intC 1 w u m) (hin : ∀ x ∈ m, IntIn x) (hlen : l.length ≤ 1000) (hsz : ∀ x ∈ l, x.t.size ≤ 144) (hwt : Weighty l) :
    Calls Try.prog 12 #[v, u] w (NearRet l.length w) := by
  obtain ⟨A, c, rfl, _, _⟩ := h.shape
  obtain ⟨A2, c2, rfl, _, _⟩ := hm.shape
  have HA := Lib.hid h
  have HS := Lib.hid hsz
  have HWT := Lib.hid hwt
  have hN : Nums (w.alloc (.cells #[.slice A2 m.length c2, .int .i64 0] 50)) w.heap.size m 0 :=
    ⟨_, w, Array.getElem?_push_size, hm, Nat.le_refl _, fun k hk => Below.heap_alloc _ _ _ hk, hin⟩
  have HN0 : Hid (NR w.heap.size (w.alloc (.cells #[.slice A2 m.length c2, .int .i64 0] 50)) (.slice none 0 0) [] m 0 (w.alloc (.cells #[.slice A2 m.length c2, .int .i64 0] 50))) := ⟨OwnE.nil, But.refl _ _, hN, by simp⟩
  have HB0 := Lib.hid ((Below.refl w.heap.size w).alloc (Nat.le_refl _) (.cells #[.slice A2 m.length c2, .int .i64 0] 50))
  clear h hsz hwt hN hm
  go_enter Try.func12, Try.ntmps12
  go_wp2_with fail
  obtain ⟨wn, hwn⟩ : ∃ wn, Hid (w.alloc (.cells #[.slice A2 m.length c2, .int .i64 0] 50) = wn) := ⟨_, rfl⟩
  rw [hwn.out] at HN0 HB0
  go_loopw [6, 14] (fun ov iv wr => ∃ (k : Nat) (d : List Tk), k ≤ l.length ∧ iv = .int .i64 k ∧ NR w.heap.size wn ov d m k wr ∧ Near k d) (fun _ iv _ => l.length - (intOf iv).toNat)
  case atStart =>
    rw [hwn.out]
    exact ⟨0, [], Nat.zero_le _, rfl, HN0.out, Near.nil⟩
  case round =>
    obtain ⟨k, d, hk, rfl, hnr, hnear⟩ := hrel
    have HN := Lib.hid hnr
    have HD := Lib.hid hnear
    have hdl := hnear.len
    obtain ⟨Ao, co, hvo⟩ := own_shape hnr.own
    subst hvo
    have HW := Lib.hid (HB0.out.trans (hnr.but.below (Nat.le_refl _) (by exact Nat.le_of_lt hnr.gB)))
    have hzw := hnr.but.size
    have hgB := hnr.gB
    clear hnr hnear
    by_cases hkl : k < l.length
    · obtain ⟨bb, ob, rfl, hbl, q1, q2, q3⟩ := RdT.at_ HA.out k hkl
      rw [← HW.out.cell (p := ⟨bb, ob + k * 3, none⟩) hbl] at q1
      rw [← HW.out.cell (p := ⟨bb, ob + k * 3 + 1, none⟩) hbl] at q2
      rw [← HW.out.cell (p := ⟨bb, ob + k * 3 + 2, none⟩) hbl] at q3
      have hxs := HS.out l[k] (List.getElem_mem hkl)
      have hxw := HWT.out l[k] (List.getElem_mem hkl)
      generalize l[k] = x at q1 q2 q3 hxs hxw
      obtain ⟨xk, xt, xd⟩ := x
      simp only at q1 q2 q3 hxs hxw
      have hz := nextN_bd m k 12 (by decide)
      have HNX := Lib.hid (next_any' m w.heap.size k 12 (wr.alloc (.cells #[.int .i64 xk, .string xt, .int .i64 xd] 44)) (HN.out.num.alloc _) (by omega) (by decide) (by decide))
      generalize nextN m k 12 = z at hz HNX
      have hnx : (Value.slice Ao d.length co).ownBlock ≠ some wr.heap.size := fun e => by have := (HN.out.own.lt _ e).2; omega
      have hl0 : wr.heap.size < (wr.alloc (.cells #[.int .i64 xk, .string xt, .int .i64 xd] 44)).heap.size := by simp
      have HXB : Hid ((wr.alloc (.cells #[.int .i64 xk, .string xt, .int .i64 xd] 44)).heap[wr.heap.size]? = some (.cells #[.int .i64 xk, .string xt, .int .i64 xd] 44)) := Array.getElem?_push_size
      go_wp2_with fail
      refine (HNX.out).mono ?_
      rintro e w1 ⟨rfl, hb1, hn1⟩
      have HN1 := Lib.hid ((HN.out.alloc (.cells #[.int .i64 xk, .string xt, .int .i64 xd] 44)).call hb1 hn1)
      have HX1 := Lib.hid ((hb1.block wr.heap.size hl0 (by omega)).trans HXB.out)
      have hl1 : wr.heap.size < w1.heap.size := Nat.lt_of_lt_of_le hl0 hb1.size
      obtain ⟨x0, x1, x2, g0, g1, g2⟩ := box_facts HX1.out
      clear hb1 hn1 HNX HXB hl0 HN q1 q2 q3
      rcases (show z = 0 ∨ z = 1 ∨ z = 2 ∨ z = 3 ∨ 4 ≤ z by omega) with rfl | rfl | rfl | rfl | h4
      · go_wp2_with fail
        exact ⟨⟨k + 1, d, by omega, by go_num, (by first | exact HN1.out | (have h := HN1.out; rw [List.length_append] at h; exact h)), HD.out.skip⟩, by simp [intOf]; try omega⟩
      · have hl1' : wr.heap.size < (w1.alloc (.cells #[.int .i64 6, .string (⟨#[98, 108, 117, 101]⟩ : ByteArray), .int .i64 0] 44)).heap.size := by simp; omega
        have hnx' : some wr.heap.size ≠ (Value.slice Ao d.length co).ownBlock := fun e => hnx e.symm
        have HX1' : (w1.alloc (.cells #[.int .i64 6, .string (⟨#[98, 108, 117, 101]⟩ : ByteArray), .int .i64 0] 44)).heap[wr.heap.size]? = some (.cells #[.int .i64 xk, .string xt, .int .i64 xd] 44) := (Below.heap_alloc w1 (.cells #[.int .i64 6, .string (⟨#[98, 108, 117, 101]⟩ : ByteArray), .int .i64 0] 44) wr.heap.size hl1).trans HX1.out

        go_upto_region 15 with (at_builtin; (refine wpList_app1 rfl (.tmp 24) (.tmp 26) 22 44 rfl Try.underlying22 _ 3 32 tok_info rfl (by decide) wn.heap.size _ _ _ rfl (by exact (NR.alloc HN1.out _).own) ⟨w1.heap.size, 0, none⟩ 1 (tkC ⟨6, (⟨#[98, 108, 117, 101]⟩ : ByteArray), 0⟩) rfl rfl (by exact cells_new _ _ _) (tkC_one _) (by first | omega | (simp only [List.length_append, List.length_cons, List.length_nil]; omega)) (by decide) (by have := (NR.alloc HN1.out (.cells (tkC ⟨6, (⟨#[98, 108, 117, 101]⟩ : ByteArray), 0⟩).toArray 44)).but.size; exact this) ?_; intro g2 cap2 w2 hown2 hg2 hbel2 hgr2; have HN2 := Lib.hid (NR.push (NR.alloc HN1.out _) (OwnE.snoc hown2) hgr2); have HX2 := Lib.hid ((hgr2.block wr.heap.size hl1' hnx').trans HX1'); obtain ⟨x0', x1', x2'⟩ := tbox HX2.out; clear hown2 hg2 hbel2 hgr2))
        go_wp2_with (at_builtin; (refine wpList_app1 rfl (.tmp 43) (.tmp 45) 22 44 rfl Try.underlying22 _ 3 32 tok_info rfl (by decide) wn.heap.size _ _ _ rfl (by exact (NR.alloc HN2.out _).own) ⟨w2.heap.size, 0, none⟩ 1 (tkC ⟨xk, xt, xd⟩) rfl rfl (by exact cells_new _ _ _) (tkC_one _) (by first | omega | (simp only [List.length_append, List.length_cons, List.length_nil]; omega)) (by decide) (by have := (NR.alloc HN2.out (.cells (tkC ⟨xk, xt, xd⟩).toArray 44)).but.size; exact this) ?_; intro g3 cap3 w3 hown3 hg3 hbel3 hgr3; have HN3 := Lib.hid (NR.push (NR.alloc HN2.out _) (OwnE.snoc hown3) hgr3); clear hown3 hg3 hbel3 hgr3))
        exact ⟨⟨k + 1, d ++ [⟨6, (⟨#[98, 108, 117, 101]⟩ : ByteArray), 0⟩] ++ [⟨xk, xt, xd⟩], by omega, by go_num, (by first | exact HN3.out | (have h := HN3.out; rw [List.length_append] at h; exact h)), HD.out.two _ _ ⟨by decide, by decide⟩ (by decide) hxw (by show xt.size ≤ _; omega)⟩, by simp [intOf]; try omega⟩
      · by_cases h6 : xk = 6
        · subst h6
          have HNS : Hid (NR w.heap.size wn (.slice Ao d.length co) d m (k + 1) (w1.setCell ⟨wr.heap.size, 1, none⟩ (.string (xt ++ (⟨#[115]⟩ : ByteArray))))) := HN1.out.set _ _ _ hzw hnx
          have HX2 : Hid ((w1.setCell ⟨wr.heap.size, 1, none⟩ (.string (xt ++ (⟨#[115]⟩ : ByteArray)))).heap[wr.heap.size]? = some (.cells #[.int .i64 6, .string (xt ++ (⟨#[115]⟩ : ByteArray)), .int .i64 xd] 44)) := set_row HX1.out 1 _
          go_upto_region 15 with (fail)
          generalize (w1.setCell ⟨wr.heap.size, 1, none⟩ (.string (xt ++ (⟨#[115]⟩ : ByteArray)))) = w2 at HNS HX2
          clear x0 x1 x2 g0 g1 g2
          obtain ⟨x0, x1, x2⟩ := tbox HX2.out
          go_wp2_with (at_builtin; first
            | (refine wpList_app1 rfl (.tmp 43) (.tmp 45) 22 44 rfl Try.underlying22 _ 3 32 tok_info rfl (by decide) wn.heap.size _ _ _ rfl (by exact (NR.alloc HNS.out _).own) ⟨w2.heap.size, 0, none⟩ 1 (tkC ⟨6, xt ++ (⟨#[115]⟩ : ByteArray), xd⟩) rfl rfl (by exact cells_new _ _ _) (tkC_one _) (by first | omega | (simp only [List.length_append, List.length_cons, List.length_nil]; omega)) (by decide) (by have := (NR.alloc HNS.out (.cells (tkC ⟨6, xt ++ (⟨#[115]⟩ : ByteArray), xd⟩).toArray 44)).but.size; exact this) ?_; intro g3 cap3 w3 hown3 hg3 hbel3 hgr3; have HN3 := Lib.hid (NR.push (NR.alloc HNS.out _) (OwnE.snoc hown3) hgr3); clear hown3 hg3 hbel3 hgr3))
          exact ⟨⟨k + 1, d ++ [⟨6, xt ++ (⟨#[115]⟩ : ByteArray), xd⟩], by omega, by go_num, (by first | exact HN3.out | (have h := HN3.out; rw [List.length_append] at h; exact h)), HD.out.one _ hxw (by rw [ByteArray.size_append]; show xt.size + 1 ≤ _; omega)⟩, by simp [intOf]; try omega⟩
        · have h6' : (xk == 6) = false := by simpa using h6
          clear h6
          go_wp2_with (at_builtin; first
            | (refine wpList_app1 rfl (.tmp 43) (.tmp 45) 22 44 rfl Try.underlying22 _ 3 32 tok_info rfl (by decide) wn.heap.size _ _ _ rfl (by exact (NR.alloc HN1.out _).own) ⟨w1.heap.size, 0, none⟩ 1 (tkC ⟨xk, xt, xd⟩) rfl rfl (by exact cells_new _ _ _) (tkC_one _) (by first | omega | (simp only [List.length_append, List.length_cons, List.length_nil]; omega)) (by decide) (by have := (NR.alloc HN1.out (.cells (tkC ⟨xk, xt, xd⟩).toArray 44)).but.size; exact this) ?_; intro g3 cap3 w3 hown3 hg3 hbel3 hgr3; have HN3 := Lib.hid (NR.push (NR.alloc HN1.out _) (OwnE.snoc hown3) hgr3); clear hown3 hg3 hbel3 hgr3))
          exact ⟨⟨k + 1, d ++ [⟨xk, xt, xd⟩], by omega, by go_num, (by first | exact HN3.out | (have h := HN3.out; rw [List.length_append] at h; exact h)), HD.out.one _ hxw (by show xt.size ≤ _; omega)⟩, by simp [intOf]; try omega⟩
      · have hl1' : wr.heap.size < (w1.alloc (.cells #[.int .i64 xk, .string xt, .int .i64 xd] 44)).heap.size := by simp; omega
        have hnx' : some wr.heap.size ≠ (Value.slice Ao d.length co).ownBlock := fun e => hnx e.symm
        have HX1' : (w1.alloc (.cells #[.int .i64 xk, .string xt, .int .i64 xd] 44)).heap[wr.heap.size]? = some (.cells #[.int .i64 xk, .string xt, .int .i64 xd] 44) := (Below.heap_alloc w1 (.cells #[.int .i64 xk, .string xt, .int .i64 xd] 44) wr.heap.size hl1).trans HX1.out

        go_upto_region 15 with (at_builtin; (refine wpList_app1 rfl (.tmp 39) (.tmp 41) 22 44 rfl Try.underlying22 _ 3 32 tok_info rfl (by decide) wn.heap.size _ _ _ rfl (by exact (NR.alloc HN1.out _).own) ⟨w1.heap.size, 0, none⟩ 1 (tkC ⟨xk, xt, xd⟩) rfl rfl (by exact cells_new _ _ _) (tkC_one _) (by first | omega | (simp only [List.length_append, List.length_cons, List.length_nil]; omega)) (by decide) (by have := (NR.alloc HN1.out (.cells (tkC ⟨xk, xt, xd⟩).toArray 44)).but.size; exact this) ?_; intro g2 cap2 w2 hown2 hg2 hbel2 hgr2; have HN2 := Lib.hid (NR.push (NR.alloc HN1.out _) (OwnE.snoc hown2) hgr2); have HX2 := Lib.hid ((hgr2.block wr.heap.size hl1' hnx').trans HX1'); obtain ⟨x0', x1', x2'⟩ := tbox HX2.out; clear hown2 hg2 hbel2 hgr2))
        go_wp2_with (at_builtin; (refine wpList_app1 rfl (.tmp 43) (.tmp 45) 22 44 rfl Try.underlying22 _ 3 32 tok_info rfl (by decide) wn.heap.size _ _ _ rfl (by exact (NR.alloc HN2.out _).own) ⟨w2.heap.size, 0, none⟩ 1 (tkC ⟨xk, xt, xd⟩) rfl rfl (by exact cells_new _ _ _) (tkC_one _) (by first | omega | (simp only [List.length_append, List.length_cons, List.length_nil]; omega)) (by decide) (by have := (NR.alloc HN2.out (.cells (tkC ⟨xk, xt, xd⟩).toArray 44)).but.size; exact this) ?_; intro g3 cap3 w3 hown3 hg3 hbel3 hgr3; have HN3 := Lib.hid (NR.push (NR.alloc HN2.out _) (OwnE.snoc hown3) hgr3); clear hown3 hg3 hbel3 hgr3))
        exact ⟨⟨k + 1, d ++ [⟨xk, xt, xd⟩] ++ [⟨xk, xt, xd⟩], by omega, by go_num, (by first | exact HN3.out | (have h := HN3.out; rw [List.length_append] at h; exact h)), HD.out.two _ _ hxw (by show xt.size ≤ _; omega) hxw (by show xt.size ≤ _; omega)⟩, by simp [intOf]; try omega⟩
      · have e0 : (z == 0) = false := by simp; omega
        have e1 : (z == 1) = false := by simp; omega
        have e2 : (z == 2) = false := by simp; omega
        have e3 : (z == 3) = false := by simp; omega
        go_wp2_with (at_builtin; first
          | (refine wpList_app1 rfl (.tmp 43) (.tmp 45) 22 44 rfl Try.underlying22 _ 3 32 tok_info rfl (by decide) wn.heap.size _ _ _ rfl (by exact (NR.alloc HN1.out _).own) ⟨w1.heap.size, 0, none⟩ 1 (tkC ⟨xk, xt, xd⟩) rfl rfl (by exact cells_new _ _ _) (tkC_one _) (by first | omega | (simp only [List.length_append, List.length_cons, List.length_nil]; omega)) (by decide) (by have := (NR.alloc HN1.out (.cells (tkC ⟨xk, xt, xd⟩).toArray 44)).but.size; exact this) ?_; intro g3 cap3 w3 hown3 hg3 hbel3 hgr3; have HN3 := Lib.hid (NR.push (NR.alloc HN1.out _) (OwnE.snoc hown3) hgr3); clear hown3 hg3 hbel3 hgr3))
        exact ⟨⟨k + 1, d ++ [⟨xk, xt, xd⟩], by omega, by go_num, (by first | exact HN3.out | (have h := HN3.out; rw [List.length_append] at h; exact h)), HD.out.one _ hxw (by show xt.size ≤ _; omega)⟩, by simp [intOf]; try omega⟩
    · obtain rfl : k = l.length := by omega
      have hz := Nat.le_trans HB0.out.size hzw
      go_wp2_with fail
      go_ret
      exact ⟨d, HD.out, _, rfl, own_base HN.out.own HB0.out.size, HW.out⟩

end Go.Proofs.Ytiigabojncnipaa
