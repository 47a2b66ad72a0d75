
/-
  Made patterns.
-/
import Derived.Test.YtpboaadjbkaidaaDoorScanH
import Derived.Test.YtpboaadjbkaidaaDoorMakeB
import Derived.Deep.LoopGhost
namespace Go.Proofs.YtpboaadjbkaidaaDoor
set_option maxRecDepth 100000
open Go.RowKit

/-- A call that makes atoms out of numbers. -/
def AtomsRet (L : List Int) (g N n : Nat) (w : World) (e : Ending) (w' : World) : Prop :=
  ∃ v p N', e = .returned v ∧ p.length ≤ n ∧ OwnE 26 atC 34 w' w.heap.size v p ∧ But g w w' ∧ Nums w' g L N' ∧ N' ≤ N + 1 + 10 * n ∧ ∀ x ∈ p, x.mn = 0 ∨ x.mn = 1
def atE (m : Int) (b : Bool) : Array Value := #[.int .u8 0, .int .u8 0, .int .u8 0, .int .u8 0, .int .u8 0, .int .u8 0, .int .u8 0, .int .u8 0, .int .u8 0, .int .u8 0, .int .u8 0, .int .u8 0, .int .u8 0, .int .u8 0, .int .u8 0, .int .u8 0, .int .u8 0, .int .u8 0, .int .u8 0, .int .u8 0, .int .u8 0, .int .u8 0, .int .u8 0, .int .u8 0, .int .u8 0, .int .u8 0, .int .u8 0, .int .u8 0, .int .u8 0, .int .u8 0, .int .u8 0, .int .u8 0, .int .i64 m, .bool b]
theorem AtIn.lt {w : World} {g : Nat} {x : At} (h : AtIn w g x) : g < w.heap.size := (Array.getElem?_eq_some_iff.1 h).1
theorem But.bel {g : Nat} {a b c : World} (h : But g a b) (k : Below a.heap.size b c) (hs : a.heap.size ≤ b.heap.size) : But g a c :=
  ⟨k.os.trans h.os, k.tape.trans h.tape, k.output.trans h.output, Nat.le_trans hs k.size, fun i hi hn => (k.block i hi).trans (h.block i hi hn)⟩
theorem nums_keep {w w' : World} {g N B : Nat} {L : List Int} (h : Nums w g L N) (hb : Below B w w') (hg : g < B) : Nums w' g L N := by
  obtain ⟨v, W0, h1, h2, h3, h4, h5⟩ := h
  exact ⟨v, W0, (hb.block g hg).trans h1, h2, h3, fun k hk => (hb.block k (by omega)).trans (h4 k hk), h5⟩
theorem AtIn.setSet {w : World} {g : Nat} {p : Nat → Bool} {mn : Int} {many : Bool} (h : AtIn w g ⟨p, mn, many⟩) (q : Nat → Bool) (k : Nat) (hk : k < 32) (hq : ∀ i, i < 32 → i ≠ k → byteOf q i = byteOf p i) : AtIn (w.setCell ⟨g, k, none⟩ (.int .u8 (byteOf q k : Nat))) g ⟨q, mn, many⟩ := by
  unfold AtIn at *
  rw [heap_setCell_same w g k _ _ _ h]
  congr 2
  have h1 := setC_set p q k hk hq
  rw [List.setIfInBounds_toArray] at h1 ⊢
  have h2 : (setC p).set k (.int .u8 (byteOf q k : Nat)) = setC q := by simpa using h1
  unfold atC
  rw [List.set_append_left _ _ (by rw [setC_length]; exact hk), h2]
theorem atE_eq (m : Int) (b : Bool) : atE m b = (atC ⟨noP, m, b⟩).toArray := by kernel_rfl

set_option maxRecDepth 100000 in
set_option maxHeartbeats 4000000 in
theorem atoms_any (L : List Int) (g N n : Nat) (w : World) (hnum : Nums w g L N) (hN : N ≤ 1000000) (hn : n ≤ 100) :
    Calls Tryd.prog 90 #[.pointer (some ⟨g, 0, none⟩), .int .i64 n] w (AtomsRet L g N n w) := by
  obtain ⟨R, HRR⟩ : ∃ R, Hid (R = AtomsRet L g N n w) := ⟨_, rfl⟩
  rw [← HRR.out]
  have hg0 := hnum.lt
  have hz := nextN_bd L N (n + 1) (by omega)
  have HNU := Lib.hid hnum
  clear hnum
  go_enter Tryd.func90, Tryd.ntmps90
  go_upto_region 3 with (go_at_call 63; refine (next_any' L g N ((n : Int) + 1) _ (by exact HNU.out) (by omega) (by omega) (by omega)).mono ?_; rintro e w1 ⟨rfl, hb1, hn1⟩)
  generalize nextN L N ((n : Int) + 1) = z at hz hn1 ⊢
  obtain ⟨z', rfl⟩ : ∃ z' : Nat, z = (z' : Int) := ⟨z.toNat, by omega⟩
  have HB1 := Lib.hid hb1
  have HN1 := Lib.hid hn1
  clear hb1 hn1 HNU
  go_loopg [5, 6] z' (fun m pv iv wr => ∃ (p : List At) (i M : Nat), iv = .int .i64 i ∧ Hid (OwnE 26 atC 34 wr w.heap.size pv p) ∧ Hid (But g w wr) ∧ Hid (Nums wr g L M) ∧ p.length + i ≤ n ∧ M + 10 * i ≤ N + 1 + 10 * n ∧ Hid (∀ x ∈ p, x.mn = 0 ∨ x.mn = 1) ∧ i ≤ m)
  case atStart => exact ⟨[], z', N + 1, rfl, OwnE.nil, HB1.out, HN1.out, by simp; omega, by omega, fun x hx => absurd hx List.not_mem_nil, Nat.le_refl _⟩
  case round =>
    clear HB1 HN1
    obtain ⟨p, i, M, rfl, HO, HB, HNU, hpi, hM, HV, hgk⟩ := hrel
    by_cases hi0 : 0 < i
    · have hi0i : (0 : Int) < (i : Int) := by omega
      obtain ⟨A, cA, hpv⟩ := own_shape HO.out
      subst hpv
      have hz1 := nextN_bd L M 2 (by decide)
      have hz2 := nextN_bd L (M + 1) 2 (by decide)
      have HC1 := Lib.hid (fun w h => next_any' L g M 2 w h (by omega) (by decide) (by decide))
      have HC2 := Lib.hid (fun w h => next_any' L g (M + 1) 2 w h (by omega) (by decide) (by decide))
      generalize nextN L M 2 = z1 at hz1 HC1
      generalize nextN L (M + 1) 2 = z2 at hz2 HC2
      go_upto_region 6 with (first
        | (go_at_call 63; refine (HC1.out _ HNU.out).mono ?_; rintro e w2 ⟨rfl, hb2, hn2⟩)
        | (go_at_call 63; refine (HC2.out _ hn2).mono ?_; rintro e w3 ⟨rfl, hb3, hn3⟩)
        | (refine wpList_store_row rfl 26 (.tmp 7) (.tmp 23) rfl (w3.heap.size) (atE z1 (z2 == 1)) rfl rfl 26 (atC ⟨noP, 0, false⟩).toArray (at_zero w3) (by rw [atom_size]; rfl) (by rw [atC_size]; rfl) (by rw [atE_eq]; exact atC_oneA _) ?_; rw [atE_eq]))
      have hg1 := HNU.out.lt
      have hsz2 := hb2.size
      have hsz3 := hb3.size
      have HA4 := Lib.hid ((at_zero w3).row ⟨noP, z1, (z2 == 1)⟩)
      have HB4 : Hid (But g w ((w3.alloc (.cells #[.int .u8 0, .int .u8 0, .int .u8 0, .int .u8 0, .int .u8 0, .int .u8 0, .int .u8 0, .int .u8 0, .int .u8 0, .int .u8 0, .int .u8 0, .int .u8 0, .int .u8 0, .int .u8 0, .int .u8 0, .int .u8 0, .int .u8 0, .int .u8 0, .int .u8 0, .int .u8 0, .int .u8 0, .int .u8 0, .int .u8 0, .int .u8 0, .int .u8 0, .int .u8 0, .int .u8 0, .int .u8 0, .int .u8 0, .int .u8 0, .int .u8 0, .int .u8 0, .int .i64 0, .bool false] 26)).setRow w3.heap.size (atC ⟨noP, z1, (z2 == 1)⟩).toArray)) := ((HB.out.trans hb2).trans hb3).trans (.of_below (below_setRow ((Below.refl _ w3).alloc (Nat.le_refl _) _) (Nat.le_refl _) _))
      have HN4 : Hid (Nums ((w3.alloc (.cells #[.int .u8 0, .int .u8 0, .int .u8 0, .int .u8 0, .int .u8 0, .int .u8 0, .int .u8 0, .int .u8 0, .int .u8 0, .int .u8 0, .int .u8 0, .int .u8 0, .int .u8 0, .int .u8 0, .int .u8 0, .int .u8 0, .int .u8 0, .int .u8 0, .int .u8 0, .int .u8 0, .int .u8 0, .int .u8 0, .int .u8 0, .int .u8 0, .int .u8 0, .int .u8 0, .int .u8 0, .int .u8 0, .int .u8 0, .int .u8 0, .int .u8 0, .int .u8 0, .int .i64 0, .bool false] 26)).setRow w3.heap.size (atC ⟨noP, z1, (z2 == 1)⟩).toArray) g L (M + 2)) := hn3.below (below_setRow ((Below.refl _ w3).alloc (Nat.le_refl _) _) (Nat.le_refl _) _) (Nat.le_refl _)
      have HO4 : Hid (OwnE 26 atC 34 ((w3.alloc (.cells #[.int .u8 0, .int .u8 0, .int .u8 0, .int .u8 0, .int .u8 0, .int .u8 0, .int .u8 0, .int .u8 0, .int .u8 0, .int .u8 0, .int .u8 0, .int .u8 0, .int .u8 0, .int .u8 0, .int .u8 0, .int .u8 0, .int .u8 0, .int .u8 0, .int .u8 0, .int .u8 0, .int .u8 0, .int .u8 0, .int .u8 0, .int .u8 0, .int .u8 0, .int .u8 0, .int .u8 0, .int .u8 0, .int .u8 0, .int .u8 0, .int .u8 0, .int .u8 0, .int .i64 0, .bool false] 26)).setRow w3.heap.size (atC ⟨noP, z1, (z2 == 1)⟩).toArray) w.heap.size (.slice A p.length cA) p) := own_same HO.out fun k hk => by
        have h1 := HO.out.lt k hk
        rw [setRow_other _ _ _ _ (by omega), Below.heap_alloc _ _ _ (by omega), hb3.block k (by omega) (by omega), hb2.block k (by omega) (by omega)]
      have HOG : Hid (∀ k, (Value.slice A p.length cA).ownBlock = some k → k ≠ w3.heap.size) := fun k hk => by
        have h1 := HO.out.lt k hk
        omega
      have hgg : g < w3.heap.size := by omega
      have hww : w.heap.size ≤ w3.heap.size := by have := HB.out.size; omega
      clear HO HB HNU hb2 hb3 hn2 hn3 hsz2 hsz3 hg1 HC1 HC2
      generalize hq : w3.heap.size = q at HA4 HB4 HN4 HO4 HOG hgg hww ⊢
      generalize (w3.alloc (.cells #[.int .u8 0, .int .u8 0, .int .u8 0, .int .u8 0, .int .u8 0, .int .u8 0, .int .u8 0, .int .u8 0, .int .u8 0, .int .u8 0, .int .u8 0, .int .u8 0, .int .u8 0, .int .u8 0, .int .u8 0, .int .u8 0, .int .u8 0, .int .u8 0, .int .u8 0, .int .u8 0, .int .u8 0, .int .u8 0, .int .u8 0, .int .u8 0, .int .u8 0, .int .u8 0, .int .u8 0, .int .u8 0, .int .u8 0, .int .u8 0, .int .u8 0, .int .u8 0, .int .i64 0, .bool false] 26)).setRow q (atC ⟨noP, z1, (z2 == 1)⟩).toArray = w4 at HA4 HB4 HN4 HO4 ⊢
      clear hq
      have hmn : z1 = 0 ∨ z1 = 1 := by omega
      clear hz1 hz2
      generalize (z2 == 1) = b2 at HA4 ⊢
      have hz4 := nextN_bd L (M + 2) 4 (by decide)
      have HC4 := Lib.hid (fun w h => next_any' L g (M + 2) 4 w h (by omega) (by decide) (by decide))
      generalize nextN L (M + 2) 4 = z4 at hz4 HC4
      go_upto_region 7 with (go_at_call 63; refine (HC4.out _ HN4.out).mono ?_; rintro e w5 ⟨rfl, hb5, hn5⟩)
      have HA5 := Lib.hid (HA4.out.keep (hb5.block _ HA4.out.lt (by omega)))
      have HB5 := Lib.hid (HB4.out.trans hb5)
      have HN5 := Lib.hid hn5
      have HO5 : Hid (OwnE 26 atC 34 w5 w.heap.size (.slice A p.length cA) p) := own_same HO4.out fun k hk => by
        have h1 := HO4.out.lt k hk
        exact hb5.block k h1.2 (by omega)
      clear HA4 HB4 HN4 HO4 hb5 hn5 HC4
      obtain ⟨z4', rfl⟩ : ∃ z4' : Nat, z4 = (z4' : Int) := ⟨z4.toNat, by omega⟩
      obtain ⟨wo, rfl⟩ : ∃ wo : World, wo = w5 := ⟨_, rfl⟩
      go_loopg [8] (z4' + 1) (fun n kv wr => ∃ (k : Nat) (y : Nat → Bool) (M2 : Nat), kv = .int .i64 ((k : Int) - 1) ∧ k ≤ 4 ∧ Hid (AtIn wr q ⟨y, z1, b2⟩) ∧ Hid (But g w wr) ∧ Hid (Nums wr g L M2) ∧ M2 + k ≤ M + 7 ∧ Hid (OwnE 26 atC 34 wr w.heap.size (.slice A p.length cA) p) ∧ k ≤ n)
      case atStart => exact ⟨z4' + 1, noP, M + 3, by (show Value.int .i64 _ = Value.int .i64 _); congr 1; omega, by omega, HA5.out, HB5.out, HN5.out, by omega, HO5.out, Nat.le_refl _⟩
      case round =>
        clear HA5 HB5 HN5 HO5
        obtain ⟨k, y, M2, rfl, hk4, HA, HB, HNU, hM2, HO, hgk2⟩ := hrel
        cases k with
        | zero =>
          rw [show ((0 : Nat) : Int) - 1 = -1 from rfl]
          have hsz := HB.out.size
          go_wp2_with (first
            | (refine wpList_load_row rfl 26 (.tmp 7) rfl (q) rfl 26 (atC ⟨y, z1, b2⟩).toArray (0, 0) _ HA.out Tryd.underlying26 rfl (by rw [atom_size, atC_size]) ?_)
            | (refine wpList_buildOne rfl (.tmp 45) (by rfl) ⟨y, z1, b2⟩ (by rfl) ?_)
            | (refine wpList_app1 rfl (.tmp 44) (.tmp 46) 28 26 rfl Tryd.underlying28 _ 34 48 atom_info rfl (by decide) w.heap.size (.slice A p.length cA) p.length (p.flatMap atC) rfl (own_below HO.out ((Below.refl _ wr).alloc (Nat.le_refl _) _) (Nat.le_refl _)) ⟨wr.heap.size, 0, none⟩ 1 (atC ⟨y, z1, b2⟩) rfl (atC_len _) (cells_new wr (atC ⟨y, z1, b2⟩) 26) (atC_one _) (by omega) (by decide) (by simp; omega) ?_; intro g2 cap w9 hown9 hbg9 hbel9 hgrow9))
          have hbn := hbel9 w.heap.size (wr.alloc (.cells (atC ⟨y, z1, b2⟩).toArray 26)) (Nat.le_refl _) (Below.refl _ _)
          have hbn2 := ((Below.refl w.heap.size wr).alloc hsz (.cells (atC ⟨y, z1, b2⟩).toArray 26)).trans hbn
          have HB9 : Hid (But g w w9) := HB.out.bel hbn2 hsz
          have HN9 : Hid (Nums w9 g L M2) := nums_keep HNU.out hbn2 hg0
          have HO9 : Hid (OwnE 26 atC 34 w9 w.heap.size (.slice (some ⟨g2, 0, none⟩) (p.length + 1) cap) (p ++ [(At.mk y z1 b2)])) := OwnE.snoc hown9
          have HV9 : Hid (∀ x ∈ p ++ [(At.mk y z1 b2)], x.mn = 0 ∨ x.mn = 1) := fun x hx => by
            rcases List.mem_append.1 hx with hx | hx
            · exact HV.out x hx
            · have hx' : x = At.mk y z1 b2 := by simpa using hx
              rw [hx']
              exact hmn
          clear hown9 hbel9 hgrow9 hbn hbn2 HA HB HNU HO
          go_wp2_with fail
          go_roundg (i - 1)
          case measure => omega
          case rel => exact ⟨p ++ [(At.mk y z1 b2)], i - 1, M2, by (show Value.int .i64 _ = Value.int .i64 _); congr 1; omega, HO9.out, HB9.out, HN9.out, by simp; omega, by omega, HV9.out, by omega⟩
        | succ k =>
          rw [show ((k + 1 : Nat) : Int) - 1 = (k : Int) by omega]
          have hki : (0 : Int) ≤ (k : Int) := by omega
          have hz8 := nextN_bd L M2 8 (by decide)
          have HC8 := Lib.hid (fun w h => next_any' L g M2 8 w h (by omega) (by decide) (by decide))
          generalize nextN L M2 8 = z8 at hz8 HC8
          have hz8s : z8 < ((⟨#[97, 98, 32, 46, 33, 65, 49, 60]⟩ : ByteArray).size : Int) := hz8.2
          have hz80 := hz8.1
          obtain ⟨cb, HCB⟩ : ∃ cb : Nat, Hid (∀ h, ((⟨#[97, 98, 32, 46, 33, 65, 49, 60]⟩ : ByteArray)[z8.toNat]'h).toNat = cb) := ⟨((⟨#[97, 98, 32, 46, 33, 65, 49, 60]⟩ : ByteArray).data.toList.getD z8.toNat 0).toNat, fun h => by
            rw [List.getD_eq_getElem?_getD, List.getElem?_eq_getElem h]
            rfl⟩
          have hlt8 : z8.toNat < (⟨#[97, 98, 32, 46, 33, 65, 49, 60]⟩ : ByteArray).size := by show z8.toNat < 8; omega
          have hcb : cb < 256 := by rw [← HCB.out hlt8]; exact UInt8.toNat_lt _
          go_upto_region 10 with (go_at_call 63; refine (HC8.out _ HNU.out).mono ?_; rintro e w6 ⟨rfl, hb6, hn6⟩)
          have HA6 := Lib.hid (HA.out.keep (hb6.block _ HA.out.lt (by omega)))
          have HB6 := Lib.hid (HB.out.trans hb6)
          have HN6 := Lib.hid hn6
          have HO6 : Hid (OwnE 26 atC 34 w6 w.heap.size (.slice A p.length cA) p) := own_same HO.out fun k hk => by
            have h1 := HO.out.lt k hk
            exact hb6.block k h1.2 (by omega)
          clear HA HB HNU HO hb6 hn6 HC8
          rw [HCB.out]
          clear HCB hlt8 hz8s hz80 hz8
          have q1 : w6.cell? ⟨q, cb / 8, none⟩ = some (.int .u8 (byteOf y (cb / 8) : Nat)) := by
            rw [cell_of_row _ _ _ _ _ _ HA6.out]
            simpa using atC_set ⟨y, z1, b2⟩ (cb / 8) (by omega)
          have qf := HA6.out.free (cb / 8)
          have ha := add_byte y cb
          rw [← pow_small (cb % 8) (Nat.mod_lt _ (by decide))] at ha
          have HAB := Lib.hid ha
          clear ha
          have HA7 := Lib.hid (HA6.out.setSet (addP y cb) (cb / 8) (by omega) fun i _ hi => add_other y cb i hi)
          have hv := byteOf_lt y (cb / 8)
          generalize byteOf y (cb / 8) = v at q1 HAB hv
          have HB7 : Hid (But g w (w6.setCell ⟨q, cb / 8, none⟩ (.int .u8 (byteOf (addP y cb) (cb / 8) : Nat)))) := HB6.out.bel ((Below.refl w.heap.size w6).setCell (p := ⟨q, cb / 8, none⟩) hww _) HB6.out.size
          have HN7 : Hid (Nums (w6.setCell ⟨q, cb / 8, none⟩ (.int .u8 (byteOf (addP y cb) (cb / 8) : Nat))) g L (M2 + 1)) := nums_keep (B := q) HN6.out ((Below.refl q w6).setCell (p := ⟨q, cb / 8, none⟩) (Nat.le_refl _) _) hgg
          have HO7 : Hid (OwnE 26 atC 34 (w6.setCell ⟨q, cb / 8, none⟩ (.int .u8 (byteOf (addP y cb) (cb / 8) : Nat))) w.heap.size (.slice A p.length cA) p) := own_setAt HO6.out HOG.out _ _
          clear HA6 HB6 HN6 HO6
          go_wp2_with fail

          rw [HAB.out]
          go_roundg k
          case measure => omega
          case rel => exact ⟨k, addP y cb, M2 + 1, rfl, by omega, HA7.out, HB7.out, HN7.out, by omega, HO7.out, Nat.le_refl _⟩
    · obtain rfl : i = 0 := by omega
      go_wp2_with fail
      rw [HRR.out]
      exact ⟨_, p, M, rfl, by omega, HO.out, HB.out, HNU.out, by omega, HV.out⟩

end Go.Proofs.YtpboaadjbkaidaaDoor
