
/-
  The scanner: a member of a set in brackets.
-/
import Derived.Test.YtpboaadjbkaidaaDoorScanD
namespace Go.Proofs.YtpboaadjbkaidaaDoor
set_option maxRecDepth 100000
open Go.RowKit

/-- Blocks g and h alone may have changed. -/
structure Two (g h : Nat) (w w' : World) : Prop where
  os : w'.os = w.os
  tape : w'.tape = w.tape
  output : w'.output = w.output
  size : w.heap.size ≤ w'.heap.size
  block : ∀ k, k < w.heap.size → k ≠ g → k ≠ h → w'.heap[k]? = w.heap[k]?
section
variable {g h : Nat} {a b c : World}
theorem Two.refl (g h : Nat) (w : World) : Two g h w w := ⟨rfl, rfl, rfl, Nat.le_refl _, fun _ _ _ _ => rfl⟩
theorem Two.trans (x : Two g h a b) (y : Two g h b c) : Two g h a c :=
  ⟨y.os.trans x.os, y.tape.trans x.tape, y.output.trans x.output, Nat.le_trans x.size y.size, fun i hi h1 h2 => (y.block i (Nat.lt_of_lt_of_le hi x.size) h1 h2).trans (x.block i hi h1 h2)⟩
theorem Two.ofL (x : Only g a b) : Two g h a b := ⟨x.os, x.tape, x.output, x.size, fun k hk h1 _ => x.block k hk h1⟩
theorem Two.ofR (x : Only h a b) : Two g h a b := ⟨x.os, x.tape, x.output, x.size, fun k hk _ h2 => x.block k hk h2⟩
theorem Two.bel (x : Below a.heap.size a b) : Two g h a b := ⟨x.os, x.tape, x.output, x.size, fun k hk _ _ => x.block k hk⟩
theorem Two.new {r : Nat} (x : Two g h a b) (y : Only r b c) (hr : a.heap.size ≤ r) : Two g h a c :=
  ⟨y.os.trans x.os, y.tape.trans x.tape, y.output.trans x.output, Nat.le_trans x.size y.size, fun i hi h1 h2 => (y.block i (Nat.lt_of_lt_of_le hi x.size) (by omega)).trans (x.block i hi h1 h2)⟩
theorem Two.rowNew {g' : Nat} (x : Two g' h a b) {g : Nat} (hg : a.heap.size ≤ g) (cs : Array Value) : Two g' h a (b.setRow g cs) := x.new ((Only.refl g b).row cs) hg
theorem Two.drewN (x : Two g h a b) (n : Nat) : Two g h a (b.drewN n) := ⟨x.os, x.tape, x.output, x.size, x.block⟩
theorem Two.setL (x : Two g h a b) (j : Nat) (u : Value) : Two g h a (b.setCell ⟨g, j, none⟩ u) := x.trans (.ofL ((Only.refl g b).set j u))
/-- A block that the call made itself is forgotten. -/
theorem Two.onlyL (x : Two g h a b) (hh : a.heap.size ≤ h) : Only g a b := ⟨x.os, x.tape, x.output, x.size, fun k hk h1 => x.block k hk h1 (by omega)⟩
theorem SetIn.two {t : TypeId} {r : Nat} {p : Nat → Bool} (x : SetIn a r t p) (y : Two g h a b) (h1 : r ≠ g) (h2 : r ≠ h) : SetIn b r t p := x.keep (y.block _ x.lt h1 h2)
theorem ScIn.two {R i : Nat} {s : ByteArray} {bad : Bool} (x : ScIn a R s i bad) (y : Two g h a b) (h1 : R ≠ g) (h2 : R ≠ h) : ScIn b R s i bad := x.keep (y.block _ x.lt h1 h2)
end
theorem more_quiet (w : World) (R : Nat) (s : ByteArray) (i : Nat) (bad : Bool) (n : Nat) (h : ScIn w R s i bad) (hs : s.size ≤ maxLen) :
    Calls Tryd.prog 120 #[.pointer (some ⟨R, 0, none⟩)] (w.drewN n) fun e w' => e = .returned (.bool (decide (i < s.size))) ∧ ∃ m, w' = w.drewN m :=
  (more_any (w.drewN n) R s i bad h hs).mono fun e w' ⟨he, m, hw⟩ => ⟨he, n + m, by rw [hw, World.drewN_drewN]⟩
theorem more_quiet_add (w : World) (R : Nat) (s : ByteArray) (i : Nat) (bad : Bool) (a n : Nat) (h : ScIn w R s i bad) (hs : s.size ≤ maxLen) :
    Calls Tryd.prog 120 #[.pointer (some ⟨R, 0, none⟩)] (w.drewN (a + n)) fun e w' => e = .returned (.bool (decide (i < s.size))) ∧ ∃ m, w' = w.drewN (a + m) :=
  (more_any (w.drewN (a + n)) R s i bad h hs).mono fun e w' ⟨he, m, hw⟩ => ⟨he, n + m, by rw [hw, World.drewN_drewN, Nat.add_assoc]⟩

set_option maxRecDepth 100000 in
set_option maxHeartbeats 4000000 in
theorem member_any (w : World) (R g : Nat) (s : ByteArray) (i : Nat) (t : TypeId) (p : Nat → Bool) (h : ScIn w R s i false) (hg : SetIn w g t p) (hne : R ≠ g) (hi : i < s.size) (hs : s.size ≤ 2147483648) :
    Calls Tryd.prog 137 #[.pointer (some ⟨R, 0, none⟩), .pointer (some ⟨g, 0, none⟩)] w fun e w' => e = .returned (.tuple #[]) ∧ SetIn w' g t (memberF s i p).1 ∧ ScIn w' R s (memberF s i p).2.1 (memberF s i p).2.2 ∧ Two R g w w' := by
  have hR := h.lt
  have hG := hg.lt
  obtain ⟨⟨p1, b1, one1, j1, bad1⟩, HD⟩ : ∃ r, Hid (r = singleF s i) := ⟨_, rfl⟩
  have HE : Hid (Calls Tryd.prog 138 #[.pointer (some ⟨R, 0, none⟩)] w fun e w' => e = .returned (.tuple #[.agg (setC p1).toArray, .int .u8 b1, .bool one1]) ∧ ScIn w' R s j1 bad1 ∧ Only R w w') := by
    have C := single_any5 w R s i h hi hs
    rw [← HD.out] at C
    exact C
  have hb1 : b1 < 256 := by have := (singleF_ok s i hi).1; rw [← HD.out] at this; exact this
  have hj1 : j1 ≤ s.size := by have := (singleF_ok s i hi).2.1; rw [← HD.out] at this; exact this
  have HR0 : Hid (memberF s i p = (if bad1 = true then (p, j1, true) else if one1 = true ∧ j1 < s.size ∧ bt s j1 = 45 then (if j1 + 1 < s.size then (if (singleF s (j1 + 1)).bad = true then (p, (singleF s (j1 + 1)).j, true) else if (singleF s (j1 + 1)).one = false then (p, j1 + 2, true) else if (singleF s (j1 + 1)).b < b1 then (p, j1 + 1, true) else (orP p (rng b1 ((singleF s (j1 + 1)).b + 1)), (singleF s (j1 + 1)).j, false)) else (p, j1 + 1, true)) else (orP p p1, j1, false))) := by
    show _ = _
    unfold memberF
    rw [← HD.out]
  clear HD
  generalize memberF s i p = m at HR0 ⊢
  have HG0 := Lib.hid hg
  have HT0 := Lib.hid (Two.refl R g w)
  clear h hg
  go_enter Tryd.func137, Tryd.ntmps137
  go_upto_region 1 with (first
    | (go_at_call 138; refine HE.out.mono ?_; rintro e w1 ⟨rfl, hs1, ho1⟩)
    | (refine wpList_store_row rfl 138 (.tmp 4) (.tmp 14) rfl (w1.heap.size) (setC p1).toArray rfl rfl 138 (setC noP).toArray (zero_in w1 138) (by rw [set_size, setC_size]) (by simp only [setC_size]) (setC_one _) ?_))
  have HS1 := Lib.hid ((hs1.below ((Below.refl _ w1).alloc (Nat.le_refl _) (.cells #[.int .u8 0, .int .u8 0, .int .u8 0, .int .u8 0, .int .u8 0, .int .u8 0, .int .u8 0, .int .u8 0, .int .u8 0, .int .u8 0, .int .u8 0, .int .u8 0, .int .u8 0, .int .u8 0, .int .u8 0, .int .u8 0, .int .u8 0, .int .u8 0, .int .u8 0, .int .u8 0, .int .u8 0, .int .u8 0, .int .u8 0, .int .u8 0, .int .u8 0, .int .u8 0, .int .u8 0, .int .u8 0, .int .u8 0, .int .u8 0, .int .u8 0, .int .u8 0] 138))).keep (w' := (w1.alloc (.cells #[.int .u8 0, .int .u8 0, .int .u8 0, .int .u8 0, .int .u8 0, .int .u8 0, .int .u8 0, .int .u8 0, .int .u8 0, .int .u8 0, .int .u8 0, .int .u8 0, .int .u8 0, .int .u8 0, .int .u8 0, .int .u8 0, .int .u8 0, .int .u8 0, .int .u8 0, .int .u8 0, .int .u8 0, .int .u8 0, .int .u8 0, .int .u8 0, .int .u8 0, .int .u8 0, .int .u8 0, .int .u8 0, .int .u8 0, .int .u8 0, .int .u8 0, .int .u8 0] 138)).setRow w1.heap.size (setC p1).toArray) (setRow_other _ _ _ _ (by have := hs1.lt; omega)))
  have HG1 := Lib.hid (((HG0.out.only ho1 (Ne.symm hne)).below ((Below.refl _ w1).alloc (Nat.le_refl _) (.cells #[.int .u8 0, .int .u8 0, .int .u8 0, .int .u8 0, .int .u8 0, .int .u8 0, .int .u8 0, .int .u8 0, .int .u8 0, .int .u8 0, .int .u8 0, .int .u8 0, .int .u8 0, .int .u8 0, .int .u8 0, .int .u8 0, .int .u8 0, .int .u8 0, .int .u8 0, .int .u8 0, .int .u8 0, .int .u8 0, .int .u8 0, .int .u8 0, .int .u8 0, .int .u8 0, .int .u8 0, .int .u8 0, .int .u8 0, .int .u8 0, .int .u8 0, .int .u8 0] 138))).keep (w' := (w1.alloc (.cells #[.int .u8 0, .int .u8 0, .int .u8 0, .int .u8 0, .int .u8 0, .int .u8 0, .int .u8 0, .int .u8 0, .int .u8 0, .int .u8 0, .int .u8 0, .int .u8 0, .int .u8 0, .int .u8 0, .int .u8 0, .int .u8 0, .int .u8 0, .int .u8 0, .int .u8 0, .int .u8 0, .int .u8 0, .int .u8 0, .int .u8 0, .int .u8 0, .int .u8 0, .int .u8 0, .int .u8 0, .int .u8 0, .int .u8 0, .int .u8 0, .int .u8 0, .int .u8 0] 138)).setRow w1.heap.size (setC p1).toArray) (setRow_other _ _ _ _ (by have := ho1.size; omega)))
  have HA1 := Lib.hid ((zero_in w1 138).row p1)
  have HT1 := Lib.hid ((((HT0.out.trans (.ofL ho1)).trans (.bel ((Below.refl _ w1).alloc (Nat.le_refl _) (.cells #[.int .u8 0, .int .u8 0, .int .u8 0, .int .u8 0, .int .u8 0, .int .u8 0, .int .u8 0, .int .u8 0, .int .u8 0, .int .u8 0, .int .u8 0, .int .u8 0, .int .u8 0, .int .u8 0, .int .u8 0, .int .u8 0, .int .u8 0, .int .u8 0, .int .u8 0, .int .u8 0, .int .u8 0, .int .u8 0, .int .u8 0, .int .u8 0, .int .u8 0, .int .u8 0, .int .u8 0, .int .u8 0, .int .u8 0, .int .u8 0, .int .u8 0, .int .u8 0] 138))))).rowNew (g := w1.heap.size) ho1.size (setC p1).toArray)
  have hA : w.heap.size ≤ w1.heap.size := ho1.size
  clear hs1 ho1 HG0 HT0 HE
  generalize hw1 : w1.heap.size = A at HS1 HG1 HA1 HT1 hA ⊢
  generalize (w1.alloc (.cells #[.int .u8 0, .int .u8 0, .int .u8 0, .int .u8 0, .int .u8 0, .int .u8 0, .int .u8 0, .int .u8 0, .int .u8 0, .int .u8 0, .int .u8 0, .int .u8 0, .int .u8 0, .int .u8 0, .int .u8 0, .int .u8 0, .int .u8 0, .int .u8 0, .int .u8 0, .int .u8 0, .int .u8 0, .int .u8 0, .int .u8 0, .int .u8 0, .int .u8 0, .int .u8 0, .int .u8 0, .int .u8 0, .int .u8 0, .int .u8 0, .int .u8 0, .int .u8 0] 138)).setRow A (setC p1).toArray = w2 at HS1 HG1 HA1 HT1 ⊢
  clear hw1
  have q2 := HS1.out.c2
  by_cases hb : bad1 = true
  · subst hb
    have hm := HR0.out
    rw [if_pos rfl] at hm
    subst hm
    go_wp2_with fail
    exact bodyPost_ret (v := .tuple #[]) (results_none Tryd.results137 _ _ _) rfl ⟨rfl, HG1.out, HS1.out, HT1.out⟩
  have hb' : bad1 = false := by simpa using hb
  subst hb'
  clear hb
  have HR1 := Lib.hid (HR0.out.trans (if_neg Bool.false_ne_true))
  go_upto_region 2 with fail
  clear HR0 q2
  by_cases hone : one1 = true
  · subst hone
    by_cases hlt : j1 < s.size
    · obtain ⟨c, HC⟩ : ∃ c, Hid (c = bt s j1) := ⟨_, rfl⟩
      have hc2 : c < 256 := by rw [HC.out]; exact bt_lt s j1
      have hlt' : (j1 : Int) < (s.size : Int) := by omega
      have q0 := HS1.out.c0
      have q1 := HS1.out.c1
      go_wp2_with fail
      go_quiet ((go_at_call 120; first | exact more_quiet _ R s j1 false _ HS1.out (by unfold maxLen; omega) | exact more_quiet_add _ R s j1 false _ _ HS1.out (by unfold maxLen; omega)))
      rw [show s[j1].toNat = c by rw [HC.out, bt_get s j1 hlt]]
      have HS2 : Hid (ScIn (w2.drewN nq) R s j1 false) := HS1.out
      have HG2 : Hid (SetIn (w2.drewN nq) g t p) := HG1.out
      have HA2 : Hid (SetIn (w2.drewN nq) A 138 p1) := HA1.out
      have HT2 : Hid (Two R g w (w2.drewN nq)) := HT1.out.drewN nq
      clear q0 q1 HS1 HG1 HA1 HT1
      generalize w2.drewN nq = w3 at HS2 HG2 HA2 HT2 ⊢
      by_cases h45 : c = 45
      · have h45' : ((c : Int) != 45) = false := by rw [h45]; rfl
        have HR2 := Lib.hid (HR1.out.trans (if_pos ⟨by first | rfl | trivial, hlt, by rw [← HC.out, h45]⟩))
        clear HR1 h45
        have q1 := HS2.out.c1
        have f1 := HS2.out.free 1
        obtain ⟨j2, HJ2⟩ : ∃ j2, Hid (j2 = j1 + 1) := ⟨_, rfl⟩
        have hj2a : j1 < j2 := by have := HJ2.out; omega
        have hj2b : j2 < j1 + 2 := by have := HJ2.out; omega
        go_upto_region 5 with fail
        rw [show (j1 : Int) + 1 = (j2 : Int) by omega]
        have HS3 := Lib.hid (HS2.out.set1 j2)
        have HG3 := Lib.hid (HG2.out.other (Ne.symm hne) 1 (.int .i64 j2))
        have HT3 := Lib.hid (HT2.out.setL 1 (.int .i64 j2))
        clear q1 f1 HS2 HG2 HA2 HT2
        generalize w3.setCell ⟨R, 1, none⟩ (.int .i64 j2) = w4 at HS3 HG3 HT3 ⊢
        rw [← HJ2.out] at HR2
        have q1 := HS3.out.c1
        by_cases hlt2 : j2 < s.size
        · have HR3 := Lib.hid (HR2.out.trans (if_pos hlt2))
          clear HR2
          have hR4 := HS3.out.lt
          have hsz := HT3.out.size
          go_upto_region 8 with (go_at_call 120; refine (more_any _ R s j2 false (by exact HS3.out) (by unfold maxLen; omega)).mono ?_; rintro e w' ⟨rfl, nm, rfl⟩)
          have HS4 : Hid (ScIn (w4.drewN nm) R s j2 false) := HS3.out
          have HG4 : Hid (SetIn (w4.drewN nm) g t p) := HG3.out
          have HT4 : Hid (Two R g w (w4.drewN nm)) := HT3.out.drewN nm
          clear q1 HS3 HG3 HT3 hR4 hsz
          generalize w4.drewN nm = w5 at HS4 HG4 HT4 ⊢
          obtain ⟨⟨p2, b2, one2, j3, bad2⟩, HD2⟩ : ∃ r, Hid (r = singleF s j2) := ⟨_, rfl⟩
          have HE2 : Hid (Calls Tryd.prog 138 #[.pointer (some ⟨R, 0, none⟩)] w5 fun e w' => e = .returned (.tuple #[.agg (setC p2).toArray, .int .u8 b2, .bool one2]) ∧ ScIn w' R s j3 bad2 ∧ Only R w5 w') := by
            have C := single_any5 w5 R s j2 HS4.out hlt2 hs
            rw [← HD2.out] at C
            exact C
          have hb2 : b2 < 256 := by have := (singleF_ok s j2 hlt2).1; rw [← HD2.out] at this; exact this
          rw [← HD2.out] at HR3
          clear HD2
          go_upto_region 9 with (first
            | (go_at_call 138; refine HE2.out.mono ?_; rintro e w6 ⟨rfl, hs6, ho6⟩)
            | (refine wpList_store_row rfl 138 (.tmp 8) (.tmp 66) rfl (w6.heap.size) (setC p2).toArray rfl rfl 138 (setC noP).toArray (zero_in w6 138) (by rw [set_size, setC_size]) (by simp only [setC_size]) (setC_one _) ?_))
          have HS6 := Lib.hid ((hs6.below ((Below.refl _ w6).alloc (Nat.le_refl _) (.cells #[.int .u8 0, .int .u8 0, .int .u8 0, .int .u8 0, .int .u8 0, .int .u8 0, .int .u8 0, .int .u8 0, .int .u8 0, .int .u8 0, .int .u8 0, .int .u8 0, .int .u8 0, .int .u8 0, .int .u8 0, .int .u8 0, .int .u8 0, .int .u8 0, .int .u8 0, .int .u8 0, .int .u8 0, .int .u8 0, .int .u8 0, .int .u8 0, .int .u8 0, .int .u8 0, .int .u8 0, .int .u8 0, .int .u8 0, .int .u8 0, .int .u8 0, .int .u8 0] 138))).keep (w' := (w6.alloc (.cells #[.int .u8 0, .int .u8 0, .int .u8 0, .int .u8 0, .int .u8 0, .int .u8 0, .int .u8 0, .int .u8 0, .int .u8 0, .int .u8 0, .int .u8 0, .int .u8 0, .int .u8 0, .int .u8 0, .int .u8 0, .int .u8 0, .int .u8 0, .int .u8 0, .int .u8 0, .int .u8 0, .int .u8 0, .int .u8 0, .int .u8 0, .int .u8 0, .int .u8 0, .int .u8 0, .int .u8 0, .int .u8 0, .int .u8 0, .int .u8 0, .int .u8 0, .int .u8 0] 138)).setRow w6.heap.size (setC p2).toArray) (setRow_other _ _ _ _ (by have := hs6.lt; omega)))
          have HG6 := Lib.hid (((HG4.out.only ho6 (Ne.symm hne)).below ((Below.refl _ w6).alloc (Nat.le_refl _) (.cells #[.int .u8 0, .int .u8 0, .int .u8 0, .int .u8 0, .int .u8 0, .int .u8 0, .int .u8 0, .int .u8 0, .int .u8 0, .int .u8 0, .int .u8 0, .int .u8 0, .int .u8 0, .int .u8 0, .int .u8 0, .int .u8 0, .int .u8 0, .int .u8 0, .int .u8 0, .int .u8 0, .int .u8 0, .int .u8 0, .int .u8 0, .int .u8 0, .int .u8 0, .int .u8 0, .int .u8 0, .int .u8 0, .int .u8 0, .int .u8 0, .int .u8 0, .int .u8 0] 138))).keep (w' := (w6.alloc (.cells #[.int .u8 0, .int .u8 0, .int .u8 0, .int .u8 0, .int .u8 0, .int .u8 0, .int .u8 0, .int .u8 0, .int .u8 0, .int .u8 0, .int .u8 0, .int .u8 0, .int .u8 0, .int .u8 0, .int .u8 0, .int .u8 0, .int .u8 0, .int .u8 0, .int .u8 0, .int .u8 0, .int .u8 0, .int .u8 0, .int .u8 0, .int .u8 0, .int .u8 0, .int .u8 0, .int .u8 0, .int .u8 0, .int .u8 0, .int .u8 0, .int .u8 0, .int .u8 0] 138)).setRow w6.heap.size (setC p2).toArray) (setRow_other _ _ _ _ (by have := (HG4.out.only ho6 (Ne.symm hne)).lt; omega)))
          have HT6 := Lib.hid ((((HT4.out.trans (.ofL ho6)).trans (.bel ((Below.refl _ w6).alloc (Nat.le_refl _) (.cells #[.int .u8 0, .int .u8 0, .int .u8 0, .int .u8 0, .int .u8 0, .int .u8 0, .int .u8 0, .int .u8 0, .int .u8 0, .int .u8 0, .int .u8 0, .int .u8 0, .int .u8 0, .int .u8 0, .int .u8 0, .int .u8 0, .int .u8 0, .int .u8 0, .int .u8 0, .int .u8 0, .int .u8 0, .int .u8 0, .int .u8 0, .int .u8 0, .int .u8 0, .int .u8 0, .int .u8 0, .int .u8 0, .int .u8 0, .int .u8 0, .int .u8 0, .int .u8 0] 138))))).rowNew (g := w6.heap.size) (Nat.le_trans HT4.out.size ho6.size) (setC p2).toArray)
          clear hs6 ho6 HS4 HG4 HT4 HE2
          generalize hw6 : w6.heap.size = A2 at HS6 HG6 HT6 ⊢
          generalize (w6.alloc (.cells #[.int .u8 0, .int .u8 0, .int .u8 0, .int .u8 0, .int .u8 0, .int .u8 0, .int .u8 0, .int .u8 0, .int .u8 0, .int .u8 0, .int .u8 0, .int .u8 0, .int .u8 0, .int .u8 0, .int .u8 0, .int .u8 0, .int .u8 0, .int .u8 0, .int .u8 0, .int .u8 0, .int .u8 0, .int .u8 0, .int .u8 0, .int .u8 0, .int .u8 0, .int .u8 0, .int .u8 0, .int .u8 0, .int .u8 0, .int .u8 0, .int .u8 0, .int .u8 0] 138)).setRow A2 (setC p2).toArray = w7 at HS6 HG6 HT6 ⊢
          clear hw6
          have q2 := HS6.out.c2
          by_cases hbb : bad2 = true
          · subst hbb
            have hm := HR3.out
            rw [if_pos rfl] at hm
            subst hm
            go_wp2_with fail
            exact bodyPost_ret (v := .tuple #[]) (results_none Tryd.results137 _ _ _) rfl ⟨rfl, HG6.out, HS6.out, HT6.out⟩
          have hbb' : bad2 = false := by simpa using hbb
          subst hbb'
          clear hbb
          have HR4 := Lib.hid (HR3.out.trans (if_neg Bool.false_ne_true))
          clear HR3
          by_cases hone2 : one2 = true
          · subst hone2
            by_cases hlo : b2 < b1
            · have hm := HR4.out
              rw [if_neg (by simp), if_pos hlo] at hm
              subst hm
              go_wp2_with (go_at_call 132; refine (fail_any _ R s j3 false j2 (by exact HS6.out)).mono ?_; rintro e wf ⟨rfl, hsf, hof⟩)
              exact bodyPost_ret (v := .tuple #[]) (results_none Tryd.results137 _ _ _) rfl ⟨rfl, HG6.out.only hof (Ne.symm hne), hsf, HT6.out.trans (.ofL hof)⟩
            · have hm := HR4.out
              rw [if_neg (by simp), if_neg hlo] at hm
              subst hm
              have hlo' : ¬ (b2 : Int) < (b1 : Int) := by omega
              have hlo2 : b1 ≤ b2 := by omega
              clear hlo
              have HQ0 := Lib.hid (HG6.out.congr (rng_none p b1))
              go_wp2_with fail
              go_loopw [10] (fun kv wr => ∃ k : Nat, b1 ≤ k ∧ k ≤ b2 + 1 ∧ kv = .int .i64 k ∧ Hid (SetIn wr g t (orP p (rng b1 k))) ∧ Hid (ScIn wr R s j3 false) ∧ Hid (Two R g w wr)) (fun kv _ => b2 + 1 - (intOf kv).toNat)
              case atStart => exact ⟨b1, by omega, by omega, rfl, HQ0.out, HS6.out, HT6.out⟩
              case round =>
                clear HQ0 HS6 HT6 HG6 q2
                obtain ⟨k, hk1, hk2, rfl, HQ, HSK, HTK⟩ := hrel
                by_cases hkl : k ≤ b2
                · have ec : IntKind.u8.wrap (k : Int) = (k : Int) := by rw [IntKind.wrap_u8]; omega
                  have hk256 : k < 256 := by omega
                  go_wp2_with (go_at_call 133; refine (add_any _ g k t _ (by exact HQ.out) hk256).mono ?_; rintro e wk ⟨rfl, hz9, ho9⟩)
                  exact ⟨⟨k + 1, by omega, by omega, by go_num, hz9.congr (rng_add p b1 k hk1), HSK.out.only ho9 hne, HTK.out.trans (.ofR ho9)⟩, by simp [intOf]; try omega⟩
                · obtain rfl : k = b2 + 1 := by omega
                  go_wp2_with fail
                  go_end0
                  exact ⟨rfl, HQ.out, HSK.out, HTK.out⟩
          · have hone2' : one2 = false := by simpa using hone2
            subst hone2'
            clear hone2
            have hm := HR4.out
            rw [if_pos rfl] at hm
            subst hm
            go_wp2_with (go_at_call 132; refine (fail_any _ R s j3 false (j2 + 1) (by exact HS6.out)).mono ?_; rintro e wf ⟨rfl, hsf, hof⟩)
            exact bodyPost_ret (v := .tuple #[]) (results_none Tryd.results137 _ _ _) rfl ⟨rfl, HG6.out.only hof (Ne.symm hne), by have := HJ2.out; rw [show j1 + 2 = j2 + 1 by omega]; exact hsf, HT6.out.trans (.ofL hof)⟩
        · have hm := HR2.out
          rw [if_neg hlt2] at hm
          subst hm
          go_upto_region 7 with (go_at_call 120; refine (more_any _ R s j2 false (by exact HS3.out) (by unfold maxLen; omega)).mono ?_; rintro e w' ⟨rfl, nm, rfl⟩)
          have HS4 : Hid (ScIn (w4.drewN nm) R s j2 false) := HS3.out
          have HG4 : Hid (SetIn (w4.drewN nm) g t p) := HG3.out
          have HT4 : Hid (Two R g w (w4.drewN nm)) := HT3.out.drewN nm
          clear q1 HS3 HG3 HT3
          generalize w4.drewN nm = w5 at HS4 HG4 HT4 ⊢
          have q1 := HS4.out.c1
          go_wp2_with (go_at_call 132; refine (fail_any _ R s j2 false j2 (by exact HS4.out)).mono ?_; rintro e wf ⟨rfl, hsf, hof⟩)
          exact bodyPost_ret (v := .tuple #[]) (results_none Tryd.results137 _ _ _) rfl ⟨rfl, HG4.out.only hof (Ne.symm hne), hsf, HT4.out.trans (.ofL hof)⟩
      · have h45' : ((c : Int) != 45) = true := bne_iff_ne.2 (by omega)
        have hm := HR1.out
        rw [if_neg (by rw [← HC.out]; intro e; exact h45 e.2.2)] at hm
        subst hm
        clear h45 HR1
        go_wp2_with (first
          | (refine wpList_load_row rfl 138 (.tmp 4) rfl (A) rfl 138 (setC p1).toArray (0, 0) _ HA2.out Tryd.underlying138 rfl (by rw [set_size, setC_size]) ?_)
          | (go_at_call 139; refine (join_any p p1 g t _ (by exact HG2.out)).mono ?_; rintro e wj ⟨rfl, hgj, hoj⟩))
        exact bodyPost_ret (v := .tuple #[]) (results_none Tryd.results137 _ _ _) rfl ⟨rfl, hgj, HS2.out.only hoj hne, HT2.out.trans (.ofR hoj)⟩
    · have hd : decide (j1 < s.size) = false := decide_eq_false hlt
      have hm := HR1.out
      rw [if_neg (fun e => hlt e.2.1)] at hm
      subst hm
      clear HR1
      go_wp2_with fail
      go_quiet ((go_at_call 120; first | exact more_quiet _ R s j1 false _ HS1.out (by unfold maxLen; omega) | exact more_quiet_add _ R s j1 false _ _ HS1.out (by unfold maxLen; omega)))
      have HS2 : Hid (ScIn (w2.drewN nq) R s j1 false) := HS1.out
      have HG2 : Hid (SetIn (w2.drewN nq) g t p) := HG1.out
      have HA2 : Hid (SetIn (w2.drewN nq) A 138 p1) := HA1.out
      have HT2 : Hid (Two R g w (w2.drewN nq)) := HT1.out.drewN nq
      clear HS1 HG1 HA1 HT1
      generalize w2.drewN nq = w3 at HS2 HG2 HA2 HT2 ⊢
      go_wp2_with (first
        | (refine wpList_load_row rfl 138 (.tmp 4) rfl (A) rfl 138 (setC p1).toArray (0, 0) _ HA2.out Tryd.underlying138 rfl (by rw [set_size, setC_size]) ?_)
        | (go_at_call 139; refine (join_any p p1 g t _ (by exact HG2.out)).mono ?_; rintro e wj ⟨rfl, hgj, hoj⟩))
      exact bodyPost_ret (v := .tuple #[]) (results_none Tryd.results137 _ _ _) rfl ⟨rfl, hgj, HS2.out.only hoj hne, HT2.out.trans (.ofR hoj)⟩
  · have hone' : one1 = false := by simpa using hone
    subst hone'
    clear hone
    have hm := HR1.out
    rw [if_neg (fun e => Bool.false_ne_true e.1)] at hm
    subst hm
    clear HR1
    go_wp2_with fail
    go_quiet (fail)
    have HS2 : Hid (ScIn (w2.drewN nq) R s j1 false) := HS1.out
    have HG2 : Hid (SetIn (w2.drewN nq) g t p) := HG1.out
    have HA2 : Hid (SetIn (w2.drewN nq) A 138 p1) := HA1.out
    have HT2 : Hid (Two R g w (w2.drewN nq)) := HT1.out.drewN nq
    clear HS1 HG1 HA1 HT1
    generalize w2.drewN nq = w3 at HS2 HG2 HA2 HT2 ⊢
    go_wp2_with (first
      | (refine wpList_load_row rfl 138 (.tmp 4) rfl (A) rfl 138 (setC p1).toArray (0, 0) _ HA2.out Tryd.underlying138 rfl (by rw [set_size, setC_size]) ?_)
      | (go_at_call 139; refine (join_any p p1 g t _ (by exact HG2.out)).mono ?_; rintro e wj ⟨rfl, hgj, hoj⟩))
    exact bodyPost_ret (v := .tuple #[]) (results_none Tryd.results137 _ _ _) rfl ⟨rfl, hgj, HS2.out.only hoj hne, HT2.out.trans (.ofR hoj)⟩

end Go.Proofs.YtpboaadjbkaidaaDoor
