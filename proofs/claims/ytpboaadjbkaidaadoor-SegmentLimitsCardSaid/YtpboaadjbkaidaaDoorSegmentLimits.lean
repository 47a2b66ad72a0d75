
/-
  The statement SegmentLimits: the walk.
-/
import Derived.Test.YtpboaadjbkaidaaDoorPackL6
set_option linter.unusedVariables false
set_option linter.unusedSimpArgs false
namespace Go.Proofs.YtpboaadjbkaidaaDoor
set_option maxRecDepth 100000
open Go.RowKit

set_option maxRecDepth 100000 in
set_option maxHeartbeats 16000000 in
theorem walk_SegmentLimits (a b c : Int) (w : World) (hg : Got w) (ha0 : (Lit.int .i64 a).wf = true) (hb0 : (Lit.int .i64 b).wf = true) (hc0 : (Lit.int .i64 c).wf = true) :
    Calls Tryd.prog 5 #[.int .i64 a, .int .i64 b, .int .i64 c] w fun e w' => e = .returned (.bool true) ∧ Below w.heap.size w w' := by
  have ha := wf_i64 ha0
  have hb := wf_i64 hb0
  have hc := wf_i64 hc0
  have HK := Lib.hid (fun (w' : World) (h : Below w.heap.size w w') => known6_any w' (got_below hg h))
  have HG := Lib.hid (fun (w' : World) (h : Below w.heap.size w w') => got_below hg h)
  have HPA := Lib.hid (fun w' => place_any a 3 w' ha (by decide) (by decide))
  have HPB := Lib.hid (fun w' => place_any b 3 w' hb (by decide) (by decide))
  have HPC := Lib.hid (fun w' => place_any c 3 w' hc (by decide) (by decide))
  have hA0 := Int.emod_nonneg a (show (3 : Int) ≠ 0 by decide)
  have hA1 := Int.emod_lt_of_pos a (show (0 : Int) < 3 by decide)
  have hB0 := Int.emod_nonneg b (show (3 : Int) ≠ 0 by decide)
  have hB1 := Int.emod_lt_of_pos b (show (0 : Int) < 3 by decide)
  have hC0 := Int.emod_nonneg c (show (3 : Int) ≠ 0 by decide)
  have hC1 := Int.emod_lt_of_pos c (show (0 : Int) < 3 by decide)
  generalize a % 3 = za at HPA hA0 hA1
  generalize b % 3 = zb at HPB hB0 hB1
  generalize c % 3 = zc at HPC hC0 hC1
  obtain ⟨ka, rfl⟩ : ∃ k : Nat, za = (k : Int) := ⟨za.toNat, by omega⟩
  obtain ⟨kb, rfl⟩ : ∃ k : Nat, zb = (k : Int) := ⟨zb.toNat, by omega⟩
  obtain ⟨kc, rfl⟩ : ∃ k : Nat, zc = (k : Int) := ⟨zc.toNat, by omega⟩
  have hA2 : ka < 3 := by omega
  have hB2 : kb < 3 := by omega
  have hC2 : kc < 3 := by omega
  clear ha0 hb0 hc0 ha hb hc
  go_enter Tryd.func5, Tryd.ntmps5
  obtain ⟨na, hna⟩ : ∃ na : Nat, Hid ((ka : Int) + 16 - 1 = (na : Int)) := ⟨ka + 15, by show _ = _; omega⟩
  have hna17 : na ≤ 17 := by have := hna.out; omega
  obtain ⟨nb, hnb⟩ : ∃ nb : Nat, Hid ((kb : Int) + 32 - 1 = (nb : Int)) := ⟨kb + 31, by show _ = _; omega⟩
  have hnb33 : nb ≤ 33 := by have := hnb.out; omega
  go_upto_region 3 with (go_at_call 14; refine (HPA.out _).mono ?_; rintro e w1 ⟨rfl, rfl⟩)
  try rw [hna.out]
  obtain ⟨wo, HWO⟩ : ∃ wo, Hid (wo = w) := ⟨w, rfl⟩
  go_loopg [7, 8] na (fun gk sv iv wr => ∃ (s : ByteArray) (i : Nat), sv = .string s ∧ iv = .int .i64 i ∧ i ≤ 17 ∧ s.size + 9 * i ≤ 153 ∧ Hid (Below w.heap.size w wr) ∧ i ≤ gk)
  case atStart => exact ⟨⟨#[]⟩, na, rfl, rfl, hna17, by (show 0 + _ ≤ _); omega, Below.refl _ _, Nat.le_refl _⟩
  case round =>
    clear HWO
    obtain ⟨s, i, rfl, rfl, hi17, hsz, HB, hgk⟩ := hrel
    by_cases hi0 : 0 < i
    · have hi0i : (0 : Int) < (i : Int) := by omega
      obtain ⟨ch, hch⟩ : ∃ ch : ByteArray, Hid (ch = ⟨#[UInt8.ofNat (97 + i)]⟩) := ⟨_, rfl⟩
      have hcs : ch.size ≤ 1 := by rw [hch.out]; exact Nat.le_refl 1
      have hcs2 : ch.size = 1 := by rw [hch.out]; rfl
      have hcv : (convert 23 9 (.slice (some ⟨wr.heap.size, 0, none⟩) 1 1)).run Tryd.prog (wr.alloc (.cells #[.int .u8 (97 + (i : Int))] 5)) = .ok (.string ch) (wr.alloc (.cells #[.int .u8 (97 + (i : Int))] 5)) := by
        have h := run_string_of_byte (P := Tryd.prog) 23 9 5 Tryd.underlying23 Tryd.underlying5 Tryd.underlying9 (97 + (i : Int)) (by omega) (by omega) wr
        rw [show (97 + (i : Int)).toNat = 97 + i by omega] at h
        rw [hch.out]
        exact h
      have HB1 := Lib.hid (HB.out.alloc HB.out.size (.cells #[.int .u8 (97 + (i : Int))] 5))
      obtain ⟨s1, hs1⟩ : ∃ s1 : ByteArray, Hid ((⟨#[116, 97, 98, 108, 101, 32, 116]⟩ : ByteArray) ++ ch = s1) := ⟨_, rfl⟩
      obtain ⟨s2, hs2⟩ : ∃ s2 : ByteArray, Hid (s1 ++ (⟨#[10]⟩ : ByteArray) = s2) := ⟨_, rfl⟩
      have hz1 : Hid (s1.size = 8) := by
        show _ = _
        rw [← hs1.out, ByteArray.size_append, hcs2]
        rfl
      have hz2 : Hid (s2.size = 9) := by
        show _ = _
        rw [← hs2.out, ByteArray.size_append, hz1.out]
        rfl
      have hz1l : s1.size ≤ 8 := Nat.le_of_eq hz1.out
      have hz2l : s2.size ≤ 9 := Nat.le_of_eq hz2.out
      clear hcs2
      go_wp2_with fail
      rw [hs1.out, hs2.out]
      go_roundg (i - 1)
      case measure => omega
      case rel => exact ⟨s ++ s2, i - 1, rfl, by (show Value.int .i64 _ = Value.int .i64 _); congr 1; omega, by omega, by rw [ByteArray.size_append, hz2.out]; omega, HB1.out, by omega⟩
    · obtain rfl : i = 0 := by omega
      clear hi0 hgk hi17
      go_upto_region 7 with (go_at_call 14; refine (HPB.out _).mono ?_; rintro e w1 ⟨rfl, rfl⟩)
      try rw [hnb.out]
      obtain ⟨wo, HWO⟩ : ∃ wo, Hid (wo = wr) := ⟨wr, rfl⟩
      go_loopg [7, 9] nb (fun gk sv iv wx => ∃ (s : ByteArray) (i : Nat), sv = .string s ∧ iv = .int .i64 i ∧ i ≤ 33 ∧ s.size + 9 * i ≤ 450 ∧ wx = wr ∧ i ≤ gk)
      case atStart => exact ⟨s, nb, rfl, rfl, hnb33, by omega, rfl, Nat.le_refl _⟩
      case round =>
        clear HWO
        obtain ⟨s, i, rfl, rfl, hi17, hsz, rfl, hgk⟩ := hrel
        by_cases hi0 : 0 < i
        · have hi0i : (0 : Int) < (i : Int) := by omega
          have hw1 : IntKind.i64.wrap ((i : Int) - 1) = (i : Int) - 1 := by rw [IntKind.wrap_i64]; omega
          go_wp2_with fail
          go_roundg (i - 1)
          case measure => omega
          case rel => exact ⟨s ++ ⟨#[107, 101, 101, 112, 32, 45, 32, 97, 10]⟩, i - 1, rfl, by (show Value.int .i64 _ = Value.int .i64 _); congr 1; omega, by omega, by rw [ByteArray.size_append, show (⟨#[107, 101, 101, 112, 32, 45, 32, 97, 10]⟩ : ByteArray).size = 9 from rfl]; omega, rfl, by omega⟩
        · obtain rfl : i = 0 := by omega
          clear hi0 hgk hi17
          have hBs := HB.out.size
          have HP1 := Lib.hid (segParse_any s wr (HG.out _ HB.out))
          have HP2 := Lib.hid (fun w' => rrules_any s w')
          have hfn := fine_small (rulesF_fine s)
          unfold RetTbs at HP1 HP2
          generalize rulesF s = r at HP1 HP2 hfn
          obtain ⟨ts, k, x⟩ := r
          simp only at HP1 HP2 hfn
          have t1 : ((k : Int) != (k : Int)) = false := bne_self_eq_false _
          have t2 : (x != x) = false := bne_self_eq_false x
          go_upto_region 15 with (first
            | (go_at_call 20; refine HP1.out.mono ?_; rintro e w3 ⟨v3, rfl, hr3, hb3⟩; obtain ⟨A3, c3, hv3⟩ := hr3.shape; subst hv3; have HB3 := Lib.hid (HB.out.trans (hb3.mono hBs)))
            | (go_at_call 21; refine (HP2.out _).mono ?_; rintro e w4 ⟨v4, rfl, hr4, hb4⟩; obtain ⟨A4, c4, hv4⟩ := hr4.shape; subst hv4; have HB4 := Lib.hid (HB3.out.trans (hb4.mono HB3.out.size)); have HR3 := Lib.hid (hr3.below hb4 (Nat.le_refl _)))
            | (go_at_call 22; refine (sameTables_any ts _ _ _ HR3.out hr4 hfn).mono ?_; rintro e w5 ⟨rfl, hb5⟩))
          have HB5 := Lib.hid (HB4.out.trans (hb5.mono HB4.out.size))
          clear HP1 HP2 hfn t1 t2 hr3 hb3 hr4 hb4 hb5 HB3 HB4 HR3 HB hBs
          have HBs := HB5.out.size
          go_upto_region 16 with (go_at_call 14; refine (HPA.out _).mono ?_; rintro e w1 ⟨rfl, rfl⟩)
          try rw [hna.out]
          obtain ⟨wo2, HWO2⟩ : ∃ wo2, Hid (wo2 = w5) := ⟨w5, rfl⟩
          go_loopg [16, 17] na (fun gk ov iv wr => ∃ (ts : List Tb) (xs : List TbV) (Ao : Option Addr) (n0 co i : Nat), ov = .slice Ao n0 co ∧ iv = .int .i64 i ∧ Hid (ts.length = n0) ∧ n0 + i ≤ 17 ∧ Hid (TR 46 [] w.heap.size wr (.slice Ao n0 co) ts xs) ∧ Hid (∀ t ∈ ts, t.nm.size ≤ 2 ∧ t.pa.size ≤ 2) ∧ Hid (Below w.heap.size w wr) ∧ i ≤ gk)
          case atStart => exact ⟨[], [], none, 0, 0, na, rfl, rfl, rfl, by omega, TR.start (fun _ h => by simp at h), fun _ h => by simp at h, HB5.out, Nat.le_refl _⟩
          case round =>
            clear HWO2 HB5 HBs
            obtain ⟨ts, xs, Ao, n0, co, i, rfl, rfl, HTL, hni, HO, HSM, HB, hgk⟩ := hrel
            by_cases hi0 : 0 < i
            · have hi0i : (0 : Int) < (i : Int) := by omega
              have hi17 : i ≤ 17 := by omega
              obtain ⟨ch, hch⟩ : ∃ ch : ByteArray, Hid (ch = ⟨#[UInt8.ofNat (97 + i)]⟩) := ⟨_, rfl⟩
              have hcs : ch.size ≤ 1 := by rw [hch.out]; exact Nat.le_refl 1
              obtain ⟨nv, hnv⟩ : ∃ nv : ByteArray, Hid (nv = (⟨#[116]⟩ : ByteArray) ++ ch) := ⟨_, rfl⟩
              have hnvs : nv.size ≤ 2 := by rw [hnv.out, ByteArray.size_append]; show 1 + _ ≤ 2; omega
              have hxl : Hid (xs.length = n0) := HO.out.len.trans HTL.out
              obtain ⟨nm, hnm⟩ : ∃ nm : Nat, Hid (nm = 31 + kb) := ⟨_, rfl⟩
              have hnm33 : nm ≤ 33 := by have := hnm.out; omega
              obtain ⟨RO, HRO⟩ : ∃ RO : Obj, Hid (RO = .cells (madeCells (ruC zRu).toArray (nm * 3)) 30) := ⟨_, rfl⟩
              have hnmi : (31 + (kb : Int)) = (nm : Int) := by rw [hnm.out]; omega
              have HMK : Hid (∀ W : World, (Instr.makeSlice 31 (.int .i64 (31 + (kb : Int))) (.int .i64 (31 + (kb : Int)))).run Tryd.prog W = .ok (.slice (some ⟨W.heap.size, 0, none⟩) nm nm) (W.alloc RO)) := fun W => by
                rw [hnmi, HRO.out]
                exact run_make_rules nm (by omega) W
              have HMK1 : Hid ((Instr.makeSlice 31 (.int .i64 (31 + (kb : Int))) (.int .i64 (31 + (kb : Int)))).run Tryd.prog ((wr.drew).alloc (.cells #[.int .u8 (97 + (i : Int))] 5)) = .ok (.slice (some ⟨wr.heap.size + 1, 0, none⟩) nm nm) (((wr.drew).alloc (.cells #[.int .u8 (97 + (i : Int))] 5)).alloc RO)) := by
                have h := HMK.out ((wr.drew).alloc (.cells #[.int .u8 (97 + (i : Int))] 5))
                rw [show ((wr.drew).alloc (.cells #[.int .u8 (97 + (i : Int))] 5)).heap.size = wr.heap.size + 1 by simp] at h
                exact h
              have HMK2 : Hid ((Instr.makeSlice 31 (.int .i64 (31 + (kb : Int))) (.int .i64 (31 + (kb : Int)))).run Tryd.prog (wr.drew) = .ok (.slice (some ⟨wr.heap.size, 0, none⟩) nm nm) ((wr.drew).alloc RO)) := HMK.out (wr.drew)
              have HR1 : Hid (RdE ruC 3 (((wr.drew).alloc (.cells #[.int .u8 (97 + (i : Int))] 5)).alloc RO) (.slice (some ⟨wr.heap.size + 1, 0, none⟩) nm nm) (List.replicate nm zRu)) := by
                have h := rdE_made2 ruC 3 ruC_len zRu nm 30 ((wr.drew).alloc (.cells #[.int .u8 (97 + (i : Int))] 5))
                rw [show ((wr.drew).alloc (.cells #[.int .u8 (97 + (i : Int))] 5)).heap.size = wr.heap.size + 1 by simp, ← HRO.out] at h
                exact h
              have HR2 : Hid (RdE ruC 3 (((wr.drew).alloc RO).alloc (.cells #[.int .u8 (97 + (i : Int))] 5)) (.slice (some ⟨wr.heap.size, 0, none⟩) nm nm) (List.replicate nm zRu)) := by
                have h := rdE_made2 ruC 3 ruC_len zRu nm 30 (wr.drew)
                rw [← HRO.out] at h
                exact h.alloc _
              have HW1 : Hid (Below wr.heap.size wr (((wr.drew).alloc (.cells #[.int .u8 (97 + (i : Int))] 5)).alloc RO)) := Lib.hid (((below_drewN (Below.refl wr.heap.size wr) 1).alloc (Nat.le_refl _) _).alloc (by simp) _)
              have HW2 : Hid (Below wr.heap.size wr (((wr.drew).alloc RO).alloc (.cells #[.int .u8 (97 + (i : Int))] 5))) := Lib.hid (((below_drewN (Below.refl wr.heap.size wr) 1).alloc (Nat.le_refl _) _).alloc (by simp) _)
              have hchi : (⟨#[UInt8.ofNat (97 + (i : Int)).toNat]⟩ : ByteArray) = ch := by rw [hch.out, show (97 + (i : Int)).toNat = 97 + i by omega]
              have HC1 : Hid ((convert 23 9 (.slice (some ⟨wr.heap.size, 0, none⟩) 1 1)).run Tryd.prog ((wr.drew).alloc (.cells #[.int .u8 (97 + (i : Int))] 5)) = .ok (.string ch) ((wr.drew).alloc (.cells #[.int .u8 (97 + (i : Int))] 5))) := by
                rw [← hchi]
                exact run_str_cell _ (by omega) (by omega) _ _ (cells_new (wr.drew) [.int .u8 (97 + (i : Int))] 5 0 _ rfl)
              have HC2 : Hid ((convert 23 9 (.slice (some ⟨wr.heap.size, 0, none⟩) 1 1)).run Tryd.prog (((wr.drew).alloc (.cells #[.int .u8 (97 + (i : Int))] 5)).alloc RO) = .ok (.string ch) (((wr.drew).alloc (.cells #[.int .u8 (97 + (i : Int))] 5)).alloc RO)) := by
                rw [← hchi]
                exact run_str_cell _ (by omega) (by omega) _ _ ((World.cell?_of_block (w := (wr.drew).alloc (.cells #[.int .u8 (97 + (i : Int))] 5)) (Below.heap_alloc ((wr.drew).alloc (.cells #[.int .u8 (97 + (i : Int))] 5)) RO _ (by simp))).trans (cells_new (wr.drew) [.int .u8 (97 + (i : Int))] 5 0 _ rfl))
              have HC3 : Hid ((convert 23 9 (.slice (some ⟨wr.heap.size + 1, 0, none⟩) 1 1)).run Tryd.prog (((wr.drew).alloc RO).alloc (.cells #[.int .u8 (97 + (i : Int))] 5)) = .ok (.string ch) (((wr.drew).alloc RO).alloc (.cells #[.int .u8 (97 + (i : Int))] 5))) := by
                rw [← hchi]
                have h := cells_new ((wr.drew).alloc RO) [.int .u8 (97 + (i : Int))] 5 0 _ rfl
                rw [show ((wr.drew).alloc RO).heap.size = wr.heap.size + 1 by simp] at h
                exact run_str_cell _ (by omega) (by omega) _ _ h
              have HCT : ∀ {W : World}, Hid ((do eqGuard .add 9 (.const (.string ⟨#[116]⟩)) (.tmp 89) (.string ⟨#[116]⟩) (.string ch); Go.binOp .add 9 (.string ⟨#[116]⟩) (.string ch) : Sem Value).run Tryd.prog W = .ok (.string nv) W) := by
                intro W
                show _ = _
                rw [hnv.out]
                have hcs9 : 1 + ch.size ≤ 9223372036854775807 := by omega
                go_simp
              have hw1 : IntKind.i64.wrap (97 + (i : Int)) = 97 + (i : Int) := by rw [IntKind.wrap_i64]; omega
              have hw2 : IntKind.u8.wrap (97 + (i : Int)) = 97 + (i : Int) := by rw [IntKind.wrap_u8]; omega
              have hw3 : IntKind.i64.wrap (31 + (kb : Int)) = 31 + (kb : Int) := by rw [IntKind.wrap_i64]; omega
              clear hnmi HMK hch hnv hchi
              go_upto_region 18 with fail
              refine wp_region_at 15 #[false, false, false, false, false, false, false, false, false, false, false, false, false, false, false] rfl rfl (by kernel_rfl) ?_
              refine wpAny_at (i := 0) (v := .slice Ao n0 co) (some 84) rfl rfl (by kernel_rfl) (by kernel_rfl) (by kernel_rfl) (fun _ _ _ h => h) (by kernel_rfl) (fun _ => ex_move _ _ rfl (by kernel_rfl)) ?_
              simp only [Act.put, List.setIfInBounds_toArray, List.set_cons_zero, List.set_cons_succ]
              refine wpAny_at (i := 1) (v := .int .i64 (i : Int)) (some 85) rfl rfl (by kernel_rfl) (by kernel_rfl) (by kernel_rfl) (fun _ _ _ h => h) (by kernel_rfl) (fun _ => ex_move _ _ rfl (by kernel_rfl)) ?_
              simp only [Act.put, List.setIfInBounds_toArray, List.set_cons_zero, List.set_cons_succ]
              refine wpAny_at (i := 2) (v := .int .i64 (97 + (i : Int))) (some 86) rfl rfl (by kernel_rfl) (by kernel_rfl) (by kernel_rfl) (fun _ _ _ h => h) (by kernel_rfl) (fun _ => ex_binOp .add 3 3 _ _ (.int .i64 97) (.int .i64 (i : Int)) _ rfl (by kernel_rfl) (by kernel_rfl) (by go_simp)) ?_
              simp only [Act.put, List.setIfInBounds_toArray, List.set_cons_zero, List.set_cons_succ]
              refine wpAny_at (i := 3) (v := .int .u8 (97 + (i : Int))) (some 87) rfl rfl (by kernel_rfl) (by kernel_rfl) (by kernel_rfl) (fun _ _ _ h => h) (by kernel_rfl) (fun _ => ex_conv 3 5 _ (.int .i64 (97 + (i : Int))) _ rfl (by kernel_rfl) (by go_simp)) ?_
              simp only [Act.put, List.setIfInBounds_toArray, List.set_cons_zero, List.set_cons_succ]
              refine wpAny_at (i := 7) (v := .int .i64 b) (some 91) rfl rfl (by kernel_rfl) (by kernel_rfl) (by kernel_rfl) (fun _ _ _ h => h) (by kernel_rfl) (fun _ => ex_move _ _ rfl (by kernel_rfl)) ?_
              simp only [Act.put, List.setIfInBounds_toArray, List.set_cons_zero, List.set_cons_succ]
              refine wpAny_two 4 8 (by kernel_rfl) rfl rfl (by kernel_rfl) (by kernel_rfl) ?_ ?_
              · refine wp_of_valw (v := .slice (some ⟨wr.heap.size, 0, none⟩) 1 1) (w2 := (wr.drew).alloc (.cells #[.int .u8 (97 + (i : Int))] 5)) (ex_boxB (.tmp 87) (97 + (i : Int)) rfl (by kernel_rfl)) ?_
                simp only [Act.put, List.setIfInBounds_toArray, List.set_cons_zero, List.set_cons_succ]
                refine wpAny_two 5 8 (by kernel_rfl) rfl rfl (by kernel_rfl) (by kernel_rfl) ?_ ?_
                · refine wp_of_valw (v := .string ch) (w2 := (wr.drew).alloc (.cells #[.int .u8 (97 + (i : Int))] 5)) (ex_conv 23 9 _ (.slice (some ⟨wr.heap.size, 0, none⟩) 1 1) _ rfl (by kernel_rfl) (HC1.out)) ?_
                  simp only [Act.put, List.setIfInBounds_toArray, List.set_cons_zero, List.set_cons_succ]
                  refine wpAny_at (i := 6) (v := .string nv) (some 90) rfl rfl (by kernel_rfl) (by kernel_rfl) (by kernel_rfl) (fun _ _ _ h => h) (by kernel_rfl) (fun _ => ex_binOp .add 9 9 _ _ (.string ⟨#[116]⟩) (.string ch) _ rfl (by kernel_rfl) (by kernel_rfl) (HCT.out)) ?_
                  simp only [Act.put, List.setIfInBounds_toArray, List.set_cons_zero, List.set_cons_succ]
                  refine wpAny_call 8 (some 92) (by kernel_rfl) rfl rfl (by kernel_rfl) 14 _ (ex_enterP (.tmp 91) (.const (.int .i64 3)) _ _ _ rfl (by kernel_rfl) (by kernel_rfl)) (HPB.out _) ?_
                  rintro e w2 ⟨rfl, rfl⟩
                  refine ⟨_, rfl, ?_⟩
                  simp only [Act.put, List.setIfInBounds_toArray, List.set_cons_zero, List.set_cons_succ]
                  refine wpAny_at (i := 9) (v := .int .i64 (31 + (kb : Int))) (some 93) rfl rfl (by kernel_rfl) (by kernel_rfl) (by kernel_rfl) (fun _ _ _ h => h) (by kernel_rfl) (fun _ => ex_binOp .add 3 3 _ _ (.int .i64 31) (.int .i64 (kb : Int)) _ rfl (by kernel_rfl) (by kernel_rfl) (by go_simp)) ?_
                  simp only [Act.put, List.setIfInBounds_toArray, List.set_cons_zero, List.set_cons_succ]
                  refine wpAny_valw 10 (some 94) (.slice (some ⟨wr.heap.size + 1, 0, none⟩) nm nm) (((wr.drew).alloc (.cells #[.int .u8 (97 + (i : Int))] 5)).alloc RO) (by kernel_rfl) rfl rfl (by kernel_rfl) (ex_make 31 _ _ (.int .i64 (31 + (kb : Int))) (.int .i64 (31 + (kb : Int))) _ rfl (by kernel_rfl) (by kernel_rfl) (HMK1.out)) ?_
                  simp only [Act.put, List.setIfInBounds_toArray, List.set_cons_zero, List.set_cons_succ]
                  have HRW : Hid (RdE ruC 3 ((wr.drew.alloc (.cells #[.int .u8 (97 + (i : Int))] 5)).alloc RO) (.slice (some ⟨wr.heap.size + 1, 0, none⟩) nm nm) (List.replicate nm zRu)) := HR1.out
                  have HBW : Hid (Below wr.heap.size wr ((wr.drew.alloc (.cells #[.int .u8 (97 + (i : Int))] 5)).alloc RO)) := HW1.out
                  obtain ⟨rb, hrb⟩ : ∃ rb, Hid (rb = wr.heap.size + 1) := ⟨_, rfl⟩
                  have hrb1 : wr.heap.size ≤ rb := by have := hrb.out; omega
                  rw [← hrb.out] at HRW ⊢
                  generalize (wr.drew.alloc (.cells #[.int .u8 (97 + (i : Int))] 5)).alloc RO = w6 at HRW HBW ⊢
                  refine wpAny_at (i := 11) (v := .agg #[.string nv, .string ⟨#[]⟩, .slice (some ⟨rb, 0, none⟩) nm nm]) (some 95) rfl rfl (by kernel_rfl) (by kernel_rfl) (by kernel_rfl) (fun _ _ _ h => h) (by kernel_rfl) (fun _ => ex_table (.tmp 90) (.tmp 94) nv (some ⟨rb, 0, none⟩) nm nm rfl (by kernel_rfl) (by kernel_rfl)) ?_
                  simp only [Act.put, List.setIfInBounds_toArray, List.set_cons_zero, List.set_cons_succ]
                  refine wpAny_valw 12 (some 96) (.slice (some ⟨w6.heap.size, 0, none⟩) 1 1) (w6.alloc (.cells (tbC ⟨nv, ⟨#[]⟩, ⟨some ⟨rb, 0, none⟩, nm, nm⟩⟩).toArray 46)) (by kernel_rfl) rfl rfl (by kernel_rfl) (ex_boxT (.tmp 95) nv ⟨#[]⟩ (some ⟨rb, 0, none⟩) nm nm rfl (by kernel_rfl)) ?_
                  simp only [Act.put, List.setIfInBounds_toArray, List.set_cons_zero, List.set_cons_succ]
                  have hz6 := HBW.out.size
                  have HOA := Lib.hid ((HO.out.keep HBW.out.size (fun b hb _ => HBW.out.block b hb)).alloc (.cells (tbC ⟨nv, ⟨#[]⟩, ⟨some ⟨rb, 0, none⟩, nm, nm⟩⟩).toArray 46))
                  have HKA : Hid (Keep ([] ++ blkL (.slice Ao n0 co)) (w6.alloc (.cells (tbC ⟨nv, ⟨#[]⟩, ⟨some ⟨rb, 0, none⟩, nm, nm⟩⟩).toArray 46)) fun u => RdRu u (.slice (some ⟨rb, 0, none⟩) nm nm) (List.replicate nm zR)) := Lib.hid ((RdE.keepX (X := [] ++ blkL (.slice Ao n0 co)) (HRW.out.alloc (.cells (tbC ⟨nv, ⟨#[]⟩, ⟨some ⟨rb, 0, none⟩, nm, nm⟩⟩).toArray 46)) (fun b o s n2 c2 hv hb => by
                    injection hv with h1 _ _
                    injection h1 with h1
                    injection h1 with h1 _ _
                    have := (HO.out.own.lt b (mem_blkL.1 (by simpa using hb))).2
                    omega)).imp fun u hu => rdRu_made nm hu)
                  refine wpAny_only 13 (by kernel_rfl) rfl (by kernel_rfl) ?_
                  refine wp_appL rfl (.tmp 84) (.tmp 96) 39 46 rfl Tryd.underlying39 _ tbC 3 56 table_info rfl (by decide) tbC_len tbC_one w.heap.size (.slice Ao n0 co) xs rfl HOA.out.own (.slice (some ⟨w6.heap.size, 0, none⟩) 1 1) [⟨nv, ⟨#[]⟩, ⟨some ⟨rb, 0, none⟩, nm, nm⟩⟩] rfl (rdE_one_at tbC 3 tbC_len w6 _ rfl ⟨nv, ⟨#[]⟩, ⟨some ⟨rb, 0, none⟩, nm, nm⟩⟩ 46) (by simp only [List.length_singleton]; have := hxl.out; omega) (by decide) (by simp; have := HB.out.size; omega) ?_
                  intro v9 w9 hown9 hbel9 hgr9 hat9
                  obtain ⟨A9, c9, hv9⟩ := own_shape hown9
                  rw [List.length_append, hxl.out] at hv9
                  subst hv9
                  have HP9 : Hid (TR 46 [] w.heap.size w9 (.slice A9 (n0 + 1) c9) (ts ++ [Tb.mk nv ⟨#[]⟩ (List.replicate nm zR)]) (xs ++ [TbV.mk nv ⟨#[]⟩ ⟨some ⟨rb, 0, none⟩, nm, nm⟩])) := HOA.out.push (Tb.mk nv ⟨#[]⟩ (List.replicate nm zR)) (TbV.mk nv ⟨#[]⟩ ⟨some ⟨rb, 0, none⟩, nm, nm⟩) rfl rfl HKA.out hown9 hgr9 hat9
                  have hbn := hbel9 w.heap.size (w6.alloc (.cells (tbC ⟨nv, ⟨#[]⟩, ⟨some ⟨rb, 0, none⟩, nm, nm⟩⟩).toArray 46)) (Nat.le_refl _) (Below.refl _ _)
                  have hbn2 := ((Below.refl w.heap.size w6).alloc (by have := HB.out.size; omega) (.cells (tbC ⟨nv, ⟨#[]⟩, ⟨some ⟨rb, 0, none⟩, nm, nm⟩⟩).toArray 46)).trans hbn
                  have HB9 : Hid (Below w.heap.size w w9) := Lib.hid ((HB.out.trans (HBW.out.mono HB.out.size)).trans hbn2)
                  show wpAny _ _ _ _ _ _ (Act.put _ (some 97) (.slice A9 (n0 + 1) c9)) w9
                  simp only [Act.put, List.setIfInBounds_toArray, List.set_cons_zero, List.set_cons_succ]
                  refine wpAny_at (i := 14) (v := .slice A9 (n0 + 1) c9) (some 16) rfl rfl (by kernel_rfl) (by kernel_rfl) (by kernel_rfl) (fun _ _ _ h => h) (by kernel_rfl) (fun _ => ex_assign _ _ rfl (by kernel_rfl)) ?_
                  simp only [Act.put, List.setIfInBounds_toArray, List.set_cons_zero, List.set_cons_succ]
                  refine wpAny_done (by kernel_rfl) ?_ _
                  go_wp2_with fail
                  go_roundg (i - 1)
                  case measure => omega
                  case rel => exact ⟨ts ++ [Tb.mk nv ⟨#[]⟩ (List.replicate nm zR)], xs ++ [TbV.mk nv ⟨#[]⟩ ⟨some ⟨rb, 0, none⟩, nm, nm⟩], A9, n0 + 1, c9, i - 1, rfl, by (show Value.int .i64 _ = Value.int .i64 _); congr 1; omega, by (show _ = _); rw [List.length_append, HTL.out]; rfl, by omega, HP9.out, fun u hu => by (rcases List.mem_append.1 hu with hu | hu); exact HSM.out u hu; rw [List.mem_singleton.1 hu]; exact ⟨hnvs, Nat.zero_le 2⟩, HB9.out, by omega⟩
                · refine wp_of_call (ex_enterP (.tmp 91) (.const (.int .i64 3)) _ _ _ rfl (by kernel_rfl) (by kernel_rfl)) (HPB.out _) ?_
                  rintro e w2 ⟨rfl, rfl⟩
                  refine ⟨_, rfl, ?_⟩
                  simp only [Act.put, List.setIfInBounds_toArray, List.set_cons_zero, List.set_cons_succ]
                  refine wpAny_at (i := 9) (v := .int .i64 (31 + (kb : Int))) (some 93) rfl rfl (by kernel_rfl) (by kernel_rfl) (by kernel_rfl) (fun _ _ _ h => h) (by kernel_rfl) (fun _ => ex_binOp .add 3 3 _ _ (.int .i64 31) (.int .i64 (kb : Int)) _ rfl (by kernel_rfl) (by kernel_rfl) (by go_simp)) ?_
                  simp only [Act.put, List.setIfInBounds_toArray, List.set_cons_zero, List.set_cons_succ]
                  refine wpAny_two 5 10 (by kernel_rfl) rfl rfl (by kernel_rfl) (by kernel_rfl) ?_ ?_
                  · refine wp_of_valw (v := .string ch) (w2 := (wr.drew).alloc (.cells #[.int .u8 (97 + (i : Int))] 5)) (ex_conv 23 9 _ (.slice (some ⟨wr.heap.size, 0, none⟩) 1 1) _ rfl (by kernel_rfl) (HC1.out)) ?_
                    simp only [Act.put, List.setIfInBounds_toArray, List.set_cons_zero, List.set_cons_succ]
                    refine wpAny_at (i := 6) (v := .string nv) (some 90) rfl rfl (by kernel_rfl) (by kernel_rfl) (by kernel_rfl) (fun _ _ _ h => h) (by kernel_rfl) (fun _ => ex_binOp .add 9 9 _ _ (.string ⟨#[116]⟩) (.string ch) _ rfl (by kernel_rfl) (by kernel_rfl) (HCT.out)) ?_
                    simp only [Act.put, List.setIfInBounds_toArray, List.set_cons_zero, List.set_cons_succ]
                    refine wpAny_valw 10 (some 94) (.slice (some ⟨wr.heap.size + 1, 0, none⟩) nm nm) (((wr.drew).alloc (.cells #[.int .u8 (97 + (i : Int))] 5)).alloc RO) (by kernel_rfl) rfl rfl (by kernel_rfl) (ex_make 31 _ _ (.int .i64 (31 + (kb : Int))) (.int .i64 (31 + (kb : Int))) _ rfl (by kernel_rfl) (by kernel_rfl) (HMK1.out)) ?_
                    simp only [Act.put, List.setIfInBounds_toArray, List.set_cons_zero, List.set_cons_succ]
                    have HRW : Hid (RdE ruC 3 ((wr.drew.alloc (.cells #[.int .u8 (97 + (i : Int))] 5)).alloc RO) (.slice (some ⟨wr.heap.size + 1, 0, none⟩) nm nm) (List.replicate nm zRu)) := HR1.out
                    have HBW : Hid (Below wr.heap.size wr ((wr.drew.alloc (.cells #[.int .u8 (97 + (i : Int))] 5)).alloc RO)) := HW1.out
                    obtain ⟨rb, hrb⟩ : ∃ rb, Hid (rb = wr.heap.size + 1) := ⟨_, rfl⟩
                    have hrb1 : wr.heap.size ≤ rb := by have := hrb.out; omega
                    rw [← hrb.out] at HRW ⊢
                    generalize (wr.drew.alloc (.cells #[.int .u8 (97 + (i : Int))] 5)).alloc RO = w6 at HRW HBW ⊢
                    refine wpAny_at (i := 11) (v := .agg #[.string nv, .string ⟨#[]⟩, .slice (some ⟨rb, 0, none⟩) nm nm]) (some 95) rfl rfl (by kernel_rfl) (by kernel_rfl) (by kernel_rfl) (fun _ _ _ h => h) (by kernel_rfl) (fun _ => ex_table (.tmp 90) (.tmp 94) nv (some ⟨rb, 0, none⟩) nm nm rfl (by kernel_rfl) (by kernel_rfl)) ?_
                    simp only [Act.put, List.setIfInBounds_toArray, List.set_cons_zero, List.set_cons_succ]
                    refine wpAny_valw 12 (some 96) (.slice (some ⟨w6.heap.size, 0, none⟩) 1 1) (w6.alloc (.cells (tbC ⟨nv, ⟨#[]⟩, ⟨some ⟨rb, 0, none⟩, nm, nm⟩⟩).toArray 46)) (by kernel_rfl) rfl rfl (by kernel_rfl) (ex_boxT (.tmp 95) nv ⟨#[]⟩ (some ⟨rb, 0, none⟩) nm nm rfl (by kernel_rfl)) ?_
                    simp only [Act.put, List.setIfInBounds_toArray, List.set_cons_zero, List.set_cons_succ]
                    have hz6 := HBW.out.size
                    have HOA := Lib.hid ((HO.out.keep HBW.out.size (fun b hb _ => HBW.out.block b hb)).alloc (.cells (tbC ⟨nv, ⟨#[]⟩, ⟨some ⟨rb, 0, none⟩, nm, nm⟩⟩).toArray 46))
                    have HKA : Hid (Keep ([] ++ blkL (.slice Ao n0 co)) (w6.alloc (.cells (tbC ⟨nv, ⟨#[]⟩, ⟨some ⟨rb, 0, none⟩, nm, nm⟩⟩).toArray 46)) fun u => RdRu u (.slice (some ⟨rb, 0, none⟩) nm nm) (List.replicate nm zR)) := Lib.hid ((RdE.keepX (X := [] ++ blkL (.slice Ao n0 co)) (HRW.out.alloc (.cells (tbC ⟨nv, ⟨#[]⟩, ⟨some ⟨rb, 0, none⟩, nm, nm⟩⟩).toArray 46)) (fun b o s n2 c2 hv hb => by
                      injection hv with h1 _ _
                      injection h1 with h1
                      injection h1 with h1 _ _
                      have := (HO.out.own.lt b (mem_blkL.1 (by simpa using hb))).2
                      omega)).imp fun u hu => rdRu_made nm hu)
                    refine wpAny_only 13 (by kernel_rfl) rfl (by kernel_rfl) ?_
                    refine wp_appL rfl (.tmp 84) (.tmp 96) 39 46 rfl Tryd.underlying39 _ tbC 3 56 table_info rfl (by decide) tbC_len tbC_one w.heap.size (.slice Ao n0 co) xs rfl HOA.out.own (.slice (some ⟨w6.heap.size, 0, none⟩) 1 1) [⟨nv, ⟨#[]⟩, ⟨some ⟨rb, 0, none⟩, nm, nm⟩⟩] rfl (rdE_one_at tbC 3 tbC_len w6 _ rfl ⟨nv, ⟨#[]⟩, ⟨some ⟨rb, 0, none⟩, nm, nm⟩⟩ 46) (by simp only [List.length_singleton]; have := hxl.out; omega) (by decide) (by simp; have := HB.out.size; omega) ?_
                    intro v9 w9 hown9 hbel9 hgr9 hat9
                    obtain ⟨A9, c9, hv9⟩ := own_shape hown9
                    rw [List.length_append, hxl.out] at hv9
                    subst hv9
                    have HP9 : Hid (TR 46 [] w.heap.size w9 (.slice A9 (n0 + 1) c9) (ts ++ [Tb.mk nv ⟨#[]⟩ (List.replicate nm zR)]) (xs ++ [TbV.mk nv ⟨#[]⟩ ⟨some ⟨rb, 0, none⟩, nm, nm⟩])) := HOA.out.push (Tb.mk nv ⟨#[]⟩ (List.replicate nm zR)) (TbV.mk nv ⟨#[]⟩ ⟨some ⟨rb, 0, none⟩, nm, nm⟩) rfl rfl HKA.out hown9 hgr9 hat9
                    have hbn := hbel9 w.heap.size (w6.alloc (.cells (tbC ⟨nv, ⟨#[]⟩, ⟨some ⟨rb, 0, none⟩, nm, nm⟩⟩).toArray 46)) (Nat.le_refl _) (Below.refl _ _)
                    have hbn2 := ((Below.refl w.heap.size w6).alloc (by have := HB.out.size; omega) (.cells (tbC ⟨nv, ⟨#[]⟩, ⟨some ⟨rb, 0, none⟩, nm, nm⟩⟩).toArray 46)).trans hbn
                    have HB9 : Hid (Below w.heap.size w w9) := Lib.hid ((HB.out.trans (HBW.out.mono HB.out.size)).trans hbn2)
                    show wpAny _ _ _ _ _ _ (Act.put _ (some 97) (.slice A9 (n0 + 1) c9)) w9
                    simp only [Act.put, List.setIfInBounds_toArray, List.set_cons_zero, List.set_cons_succ]
                    refine wpAny_at (i := 14) (v := .slice A9 (n0 + 1) c9) (some 16) rfl rfl (by kernel_rfl) (by kernel_rfl) (by kernel_rfl) (fun _ _ _ h => h) (by kernel_rfl) (fun _ => ex_assign _ _ rfl (by kernel_rfl)) ?_
                    simp only [Act.put, List.setIfInBounds_toArray, List.set_cons_zero, List.set_cons_succ]
                    refine wpAny_done (by kernel_rfl) ?_ _
                    go_wp2_with fail
                    go_roundg (i - 1)
                    case measure => omega
                    case rel => exact ⟨ts ++ [Tb.mk nv ⟨#[]⟩ (List.replicate nm zR)], xs ++ [TbV.mk nv ⟨#[]⟩ ⟨some ⟨rb, 0, none⟩, nm, nm⟩], A9, n0 + 1, c9, i - 1, rfl, by (show Value.int .i64 _ = Value.int .i64 _); congr 1; omega, by (show _ = _); rw [List.length_append, HTL.out]; rfl, by omega, HP9.out, fun u hu => by (rcases List.mem_append.1 hu with hu | hu); exact HSM.out u hu; rw [List.mem_singleton.1 hu]; exact ⟨hnvs, Nat.zero_le 2⟩, HB9.out, by omega⟩
                  · refine wp_of_valw (v := .slice (some ⟨wr.heap.size + 1, 0, none⟩) nm nm) (w2 := ((wr.drew).alloc (.cells #[.int .u8 (97 + (i : Int))] 5)).alloc RO) (ex_make 31 _ _ (.int .i64 (31 + (kb : Int))) (.int .i64 (31 + (kb : Int))) _ rfl (by kernel_rfl) (by kernel_rfl) (HMK1.out)) ?_
                    simp only [Act.put, List.setIfInBounds_toArray, List.set_cons_zero, List.set_cons_succ]
                    refine wpAny_valw 5 (some 89) (.string ch) (((wr.drew).alloc (.cells #[.int .u8 (97 + (i : Int))] 5)).alloc RO) (by kernel_rfl) rfl rfl (by kernel_rfl) (ex_conv 23 9 _ (.slice (some ⟨wr.heap.size, 0, none⟩) 1 1) _ rfl (by kernel_rfl) (HC2.out)) ?_
                    simp only [Act.put, List.setIfInBounds_toArray, List.set_cons_zero, List.set_cons_succ]
                    refine wpAny_at (i := 6) (v := .string nv) (some 90) rfl rfl (by kernel_rfl) (by kernel_rfl) (by kernel_rfl) (fun _ _ _ h => h) (by kernel_rfl) (fun _ => ex_binOp .add 9 9 _ _ (.string ⟨#[116]⟩) (.string ch) _ rfl (by kernel_rfl) (by kernel_rfl) (HCT.out)) ?_
                    simp only [Act.put, List.setIfInBounds_toArray, List.set_cons_zero, List.set_cons_succ]
                    have HRW : Hid (RdE ruC 3 ((wr.drew.alloc (.cells #[.int .u8 (97 + (i : Int))] 5)).alloc RO) (.slice (some ⟨wr.heap.size + 1, 0, none⟩) nm nm) (List.replicate nm zRu)) := HR1.out
                    have HBW : Hid (Below wr.heap.size wr ((wr.drew.alloc (.cells #[.int .u8 (97 + (i : Int))] 5)).alloc RO)) := HW1.out
                    obtain ⟨rb, hrb⟩ : ∃ rb, Hid (rb = wr.heap.size + 1) := ⟨_, rfl⟩
                    have hrb1 : wr.heap.size ≤ rb := by have := hrb.out; omega
                    rw [← hrb.out] at HRW ⊢
                    generalize (wr.drew.alloc (.cells #[.int .u8 (97 + (i : Int))] 5)).alloc RO = w6 at HRW HBW ⊢
                    refine wpAny_at (i := 11) (v := .agg #[.string nv, .string ⟨#[]⟩, .slice (some ⟨rb, 0, none⟩) nm nm]) (some 95) rfl rfl (by kernel_rfl) (by kernel_rfl) (by kernel_rfl) (fun _ _ _ h => h) (by kernel_rfl) (fun _ => ex_table (.tmp 90) (.tmp 94) nv (some ⟨rb, 0, none⟩) nm nm rfl (by kernel_rfl) (by kernel_rfl)) ?_
                    simp only [Act.put, List.setIfInBounds_toArray, List.set_cons_zero, List.set_cons_succ]
                    refine wpAny_valw 12 (some 96) (.slice (some ⟨w6.heap.size, 0, none⟩) 1 1) (w6.alloc (.cells (tbC ⟨nv, ⟨#[]⟩, ⟨some ⟨rb, 0, none⟩, nm, nm⟩⟩).toArray 46)) (by kernel_rfl) rfl rfl (by kernel_rfl) (ex_boxT (.tmp 95) nv ⟨#[]⟩ (some ⟨rb, 0, none⟩) nm nm rfl (by kernel_rfl)) ?_
                    simp only [Act.put, List.setIfInBounds_toArray, List.set_cons_zero, List.set_cons_succ]
                    have hz6 := HBW.out.size
                    have HOA := Lib.hid ((HO.out.keep HBW.out.size (fun b hb _ => HBW.out.block b hb)).alloc (.cells (tbC ⟨nv, ⟨#[]⟩, ⟨some ⟨rb, 0, none⟩, nm, nm⟩⟩).toArray 46))
                    have HKA : Hid (Keep ([] ++ blkL (.slice Ao n0 co)) (w6.alloc (.cells (tbC ⟨nv, ⟨#[]⟩, ⟨some ⟨rb, 0, none⟩, nm, nm⟩⟩).toArray 46)) fun u => RdRu u (.slice (some ⟨rb, 0, none⟩) nm nm) (List.replicate nm zR)) := Lib.hid ((RdE.keepX (X := [] ++ blkL (.slice Ao n0 co)) (HRW.out.alloc (.cells (tbC ⟨nv, ⟨#[]⟩, ⟨some ⟨rb, 0, none⟩, nm, nm⟩⟩).toArray 46)) (fun b o s n2 c2 hv hb => by
                      injection hv with h1 _ _
                      injection h1 with h1
                      injection h1 with h1 _ _
                      have := (HO.out.own.lt b (mem_blkL.1 (by simpa using hb))).2
                      omega)).imp fun u hu => rdRu_made nm hu)
                    refine wpAny_only 13 (by kernel_rfl) rfl (by kernel_rfl) ?_
                    refine wp_appL rfl (.tmp 84) (.tmp 96) 39 46 rfl Tryd.underlying39 _ tbC 3 56 table_info rfl (by decide) tbC_len tbC_one w.heap.size (.slice Ao n0 co) xs rfl HOA.out.own (.slice (some ⟨w6.heap.size, 0, none⟩) 1 1) [⟨nv, ⟨#[]⟩, ⟨some ⟨rb, 0, none⟩, nm, nm⟩⟩] rfl (rdE_one_at tbC 3 tbC_len w6 _ rfl ⟨nv, ⟨#[]⟩, ⟨some ⟨rb, 0, none⟩, nm, nm⟩⟩ 46) (by simp only [List.length_singleton]; have := hxl.out; omega) (by decide) (by simp; have := HB.out.size; omega) ?_
                    intro v9 w9 hown9 hbel9 hgr9 hat9
                    obtain ⟨A9, c9, hv9⟩ := own_shape hown9
                    rw [List.length_append, hxl.out] at hv9
                    subst hv9
                    have HP9 : Hid (TR 46 [] w.heap.size w9 (.slice A9 (n0 + 1) c9) (ts ++ [Tb.mk nv ⟨#[]⟩ (List.replicate nm zR)]) (xs ++ [TbV.mk nv ⟨#[]⟩ ⟨some ⟨rb, 0, none⟩, nm, nm⟩])) := HOA.out.push (Tb.mk nv ⟨#[]⟩ (List.replicate nm zR)) (TbV.mk nv ⟨#[]⟩ ⟨some ⟨rb, 0, none⟩, nm, nm⟩) rfl rfl HKA.out hown9 hgr9 hat9
                    have hbn := hbel9 w.heap.size (w6.alloc (.cells (tbC ⟨nv, ⟨#[]⟩, ⟨some ⟨rb, 0, none⟩, nm, nm⟩⟩).toArray 46)) (Nat.le_refl _) (Below.refl _ _)
                    have hbn2 := ((Below.refl w.heap.size w6).alloc (by have := HB.out.size; omega) (.cells (tbC ⟨nv, ⟨#[]⟩, ⟨some ⟨rb, 0, none⟩, nm, nm⟩⟩).toArray 46)).trans hbn
                    have HB9 : Hid (Below w.heap.size w w9) := Lib.hid ((HB.out.trans (HBW.out.mono HB.out.size)).trans hbn2)
                    show wpAny _ _ _ _ _ _ (Act.put _ (some 97) (.slice A9 (n0 + 1) c9)) w9
                    simp only [Act.put, List.setIfInBounds_toArray, List.set_cons_zero, List.set_cons_succ]
                    refine wpAny_at (i := 14) (v := .slice A9 (n0 + 1) c9) (some 16) rfl rfl (by kernel_rfl) (by kernel_rfl) (by kernel_rfl) (fun _ _ _ h => h) (by kernel_rfl) (fun _ => ex_assign _ _ rfl (by kernel_rfl)) ?_
                    simp only [Act.put, List.setIfInBounds_toArray, List.set_cons_zero, List.set_cons_succ]
                    refine wpAny_done (by kernel_rfl) ?_ _
                    go_wp2_with fail
                    go_roundg (i - 1)
                    case measure => omega
                    case rel => exact ⟨ts ++ [Tb.mk nv ⟨#[]⟩ (List.replicate nm zR)], xs ++ [TbV.mk nv ⟨#[]⟩ ⟨some ⟨rb, 0, none⟩, nm, nm⟩], A9, n0 + 1, c9, i - 1, rfl, by (show Value.int .i64 _ = Value.int .i64 _); congr 1; omega, by (show _ = _); rw [List.length_append, HTL.out]; rfl, by omega, HP9.out, fun u hu => by (rcases List.mem_append.1 hu with hu | hu); exact HSM.out u hu; rw [List.mem_singleton.1 hu]; exact ⟨hnvs, Nat.zero_le 2⟩, HB9.out, by omega⟩
              · refine wp_of_call (ex_enterP (.tmp 91) (.const (.int .i64 3)) _ _ _ rfl (by kernel_rfl) (by kernel_rfl)) (HPB.out _) ?_
                rintro e w2 ⟨rfl, rfl⟩
                refine ⟨_, rfl, ?_⟩
                simp only [Act.put, List.setIfInBounds_toArray, List.set_cons_zero, List.set_cons_succ]
                refine wpAny_at (i := 9) (v := .int .i64 (31 + (kb : Int))) (some 93) rfl rfl (by kernel_rfl) (by kernel_rfl) (by kernel_rfl) (fun _ _ _ h => h) (by kernel_rfl) (fun _ => ex_binOp .add 3 3 _ _ (.int .i64 31) (.int .i64 (kb : Int)) _ rfl (by kernel_rfl) (by kernel_rfl) (by go_simp)) ?_
                simp only [Act.put, List.setIfInBounds_toArray, List.set_cons_zero, List.set_cons_succ]
                refine wpAny_two 4 10 (by kernel_rfl) rfl rfl (by kernel_rfl) (by kernel_rfl) ?_ ?_
                · refine wp_of_valw (v := .slice (some ⟨wr.heap.size, 0, none⟩) 1 1) (w2 := (wr.drew).alloc (.cells #[.int .u8 (97 + (i : Int))] 5)) (ex_boxB (.tmp 87) (97 + (i : Int)) rfl (by kernel_rfl)) ?_
                  simp only [Act.put, List.setIfInBounds_toArray, List.set_cons_zero, List.set_cons_succ]
                  refine wpAny_two 5 10 (by kernel_rfl) rfl rfl (by kernel_rfl) (by kernel_rfl) ?_ ?_
                  · refine wp_of_valw (v := .string ch) (w2 := (wr.drew).alloc (.cells #[.int .u8 (97 + (i : Int))] 5)) (ex_conv 23 9 _ (.slice (some ⟨wr.heap.size, 0, none⟩) 1 1) _ rfl (by kernel_rfl) (HC1.out)) ?_
                    simp only [Act.put, List.setIfInBounds_toArray, List.set_cons_zero, List.set_cons_succ]
                    refine wpAny_at (i := 6) (v := .string nv) (some 90) rfl rfl (by kernel_rfl) (by kernel_rfl) (by kernel_rfl) (fun _ _ _ h => h) (by kernel_rfl) (fun _ => ex_binOp .add 9 9 _ _ (.string ⟨#[116]⟩) (.string ch) _ rfl (by kernel_rfl) (by kernel_rfl) (HCT.out)) ?_
                    simp only [Act.put, List.setIfInBounds_toArray, List.set_cons_zero, List.set_cons_succ]
                    refine wpAny_valw 10 (some 94) (.slice (some ⟨wr.heap.size + 1, 0, none⟩) nm nm) (((wr.drew).alloc (.cells #[.int .u8 (97 + (i : Int))] 5)).alloc RO) (by kernel_rfl) rfl rfl (by kernel_rfl) (ex_make 31 _ _ (.int .i64 (31 + (kb : Int))) (.int .i64 (31 + (kb : Int))) _ rfl (by kernel_rfl) (by kernel_rfl) (HMK1.out)) ?_
                    simp only [Act.put, List.setIfInBounds_toArray, List.set_cons_zero, List.set_cons_succ]
                    have HRW : Hid (RdE ruC 3 ((wr.drew.alloc (.cells #[.int .u8 (97 + (i : Int))] 5)).alloc RO) (.slice (some ⟨wr.heap.size + 1, 0, none⟩) nm nm) (List.replicate nm zRu)) := HR1.out
                    have HBW : Hid (Below wr.heap.size wr ((wr.drew.alloc (.cells #[.int .u8 (97 + (i : Int))] 5)).alloc RO)) := HW1.out
                    obtain ⟨rb, hrb⟩ : ∃ rb, Hid (rb = wr.heap.size + 1) := ⟨_, rfl⟩
                    have hrb1 : wr.heap.size ≤ rb := by have := hrb.out; omega
                    rw [← hrb.out] at HRW ⊢
                    generalize (wr.drew.alloc (.cells #[.int .u8 (97 + (i : Int))] 5)).alloc RO = w6 at HRW HBW ⊢
                    refine wpAny_at (i := 11) (v := .agg #[.string nv, .string ⟨#[]⟩, .slice (some ⟨rb, 0, none⟩) nm nm]) (some 95) rfl rfl (by kernel_rfl) (by kernel_rfl) (by kernel_rfl) (fun _ _ _ h => h) (by kernel_rfl) (fun _ => ex_table (.tmp 90) (.tmp 94) nv (some ⟨rb, 0, none⟩) nm nm rfl (by kernel_rfl) (by kernel_rfl)) ?_
                    simp only [Act.put, List.setIfInBounds_toArray, List.set_cons_zero, List.set_cons_succ]
                    refine wpAny_valw 12 (some 96) (.slice (some ⟨w6.heap.size, 0, none⟩) 1 1) (w6.alloc (.cells (tbC ⟨nv, ⟨#[]⟩, ⟨some ⟨rb, 0, none⟩, nm, nm⟩⟩).toArray 46)) (by kernel_rfl) rfl rfl (by kernel_rfl) (ex_boxT (.tmp 95) nv ⟨#[]⟩ (some ⟨rb, 0, none⟩) nm nm rfl (by kernel_rfl)) ?_
                    simp only [Act.put, List.setIfInBounds_toArray, List.set_cons_zero, List.set_cons_succ]
                    have hz6 := HBW.out.size
                    have HOA := Lib.hid ((HO.out.keep HBW.out.size (fun b hb _ => HBW.out.block b hb)).alloc (.cells (tbC ⟨nv, ⟨#[]⟩, ⟨some ⟨rb, 0, none⟩, nm, nm⟩⟩).toArray 46))
                    have HKA : Hid (Keep ([] ++ blkL (.slice Ao n0 co)) (w6.alloc (.cells (tbC ⟨nv, ⟨#[]⟩, ⟨some ⟨rb, 0, none⟩, nm, nm⟩⟩).toArray 46)) fun u => RdRu u (.slice (some ⟨rb, 0, none⟩) nm nm) (List.replicate nm zR)) := Lib.hid ((RdE.keepX (X := [] ++ blkL (.slice Ao n0 co)) (HRW.out.alloc (.cells (tbC ⟨nv, ⟨#[]⟩, ⟨some ⟨rb, 0, none⟩, nm, nm⟩⟩).toArray 46)) (fun b o s n2 c2 hv hb => by
                      injection hv with h1 _ _
                      injection h1 with h1
                      injection h1 with h1 _ _
                      have := (HO.out.own.lt b (mem_blkL.1 (by simpa using hb))).2
                      omega)).imp fun u hu => rdRu_made nm hu)
                    refine wpAny_only 13 (by kernel_rfl) rfl (by kernel_rfl) ?_
                    refine wp_appL rfl (.tmp 84) (.tmp 96) 39 46 rfl Tryd.underlying39 _ tbC 3 56 table_info rfl (by decide) tbC_len tbC_one w.heap.size (.slice Ao n0 co) xs rfl HOA.out.own (.slice (some ⟨w6.heap.size, 0, none⟩) 1 1) [⟨nv, ⟨#[]⟩, ⟨some ⟨rb, 0, none⟩, nm, nm⟩⟩] rfl (rdE_one_at tbC 3 tbC_len w6 _ rfl ⟨nv, ⟨#[]⟩, ⟨some ⟨rb, 0, none⟩, nm, nm⟩⟩ 46) (by simp only [List.length_singleton]; have := hxl.out; omega) (by decide) (by simp; have := HB.out.size; omega) ?_
                    intro v9 w9 hown9 hbel9 hgr9 hat9
                    obtain ⟨A9, c9, hv9⟩ := own_shape hown9
                    rw [List.length_append, hxl.out] at hv9
                    subst hv9
                    have HP9 : Hid (TR 46 [] w.heap.size w9 (.slice A9 (n0 + 1) c9) (ts ++ [Tb.mk nv ⟨#[]⟩ (List.replicate nm zR)]) (xs ++ [TbV.mk nv ⟨#[]⟩ ⟨some ⟨rb, 0, none⟩, nm, nm⟩])) := HOA.out.push (Tb.mk nv ⟨#[]⟩ (List.replicate nm zR)) (TbV.mk nv ⟨#[]⟩ ⟨some ⟨rb, 0, none⟩, nm, nm⟩) rfl rfl HKA.out hown9 hgr9 hat9
                    have hbn := hbel9 w.heap.size (w6.alloc (.cells (tbC ⟨nv, ⟨#[]⟩, ⟨some ⟨rb, 0, none⟩, nm, nm⟩⟩).toArray 46)) (Nat.le_refl _) (Below.refl _ _)
                    have hbn2 := ((Below.refl w.heap.size w6).alloc (by have := HB.out.size; omega) (.cells (tbC ⟨nv, ⟨#[]⟩, ⟨some ⟨rb, 0, none⟩, nm, nm⟩⟩).toArray 46)).trans hbn
                    have HB9 : Hid (Below w.heap.size w w9) := Lib.hid ((HB.out.trans (HBW.out.mono HB.out.size)).trans hbn2)
                    show wpAny _ _ _ _ _ _ (Act.put _ (some 97) (.slice A9 (n0 + 1) c9)) w9
                    simp only [Act.put, List.setIfInBounds_toArray, List.set_cons_zero, List.set_cons_succ]
                    refine wpAny_at (i := 14) (v := .slice A9 (n0 + 1) c9) (some 16) rfl rfl (by kernel_rfl) (by kernel_rfl) (by kernel_rfl) (fun _ _ _ h => h) (by kernel_rfl) (fun _ => ex_assign _ _ rfl (by kernel_rfl)) ?_
                    simp only [Act.put, List.setIfInBounds_toArray, List.set_cons_zero, List.set_cons_succ]
                    refine wpAny_done (by kernel_rfl) ?_ _
                    go_wp2_with fail
                    go_roundg (i - 1)
                    case measure => omega
                    case rel => exact ⟨ts ++ [Tb.mk nv ⟨#[]⟩ (List.replicate nm zR)], xs ++ [TbV.mk nv ⟨#[]⟩ ⟨some ⟨rb, 0, none⟩, nm, nm⟩], A9, n0 + 1, c9, i - 1, rfl, by (show Value.int .i64 _ = Value.int .i64 _); congr 1; omega, by (show _ = _); rw [List.length_append, HTL.out]; rfl, by omega, HP9.out, fun u hu => by (rcases List.mem_append.1 hu with hu | hu); exact HSM.out u hu; rw [List.mem_singleton.1 hu]; exact ⟨hnvs, Nat.zero_le 2⟩, HB9.out, by omega⟩
                  · refine wp_of_valw (v := .slice (some ⟨wr.heap.size + 1, 0, none⟩) nm nm) (w2 := ((wr.drew).alloc (.cells #[.int .u8 (97 + (i : Int))] 5)).alloc RO) (ex_make 31 _ _ (.int .i64 (31 + (kb : Int))) (.int .i64 (31 + (kb : Int))) _ rfl (by kernel_rfl) (by kernel_rfl) (HMK1.out)) ?_
                    simp only [Act.put, List.setIfInBounds_toArray, List.set_cons_zero, List.set_cons_succ]
                    refine wpAny_valw 5 (some 89) (.string ch) (((wr.drew).alloc (.cells #[.int .u8 (97 + (i : Int))] 5)).alloc RO) (by kernel_rfl) rfl rfl (by kernel_rfl) (ex_conv 23 9 _ (.slice (some ⟨wr.heap.size, 0, none⟩) 1 1) _ rfl (by kernel_rfl) (HC2.out)) ?_
                    simp only [Act.put, List.setIfInBounds_toArray, List.set_cons_zero, List.set_cons_succ]
                    refine wpAny_at (i := 6) (v := .string nv) (some 90) rfl rfl (by kernel_rfl) (by kernel_rfl) (by kernel_rfl) (fun _ _ _ h => h) (by kernel_rfl) (fun _ => ex_binOp .add 9 9 _ _ (.string ⟨#[116]⟩) (.string ch) _ rfl (by kernel_rfl) (by kernel_rfl) (HCT.out)) ?_
                    simp only [Act.put, List.setIfInBounds_toArray, List.set_cons_zero, List.set_cons_succ]
                    have HRW : Hid (RdE ruC 3 ((wr.drew.alloc (.cells #[.int .u8 (97 + (i : Int))] 5)).alloc RO) (.slice (some ⟨wr.heap.size + 1, 0, none⟩) nm nm) (List.replicate nm zRu)) := HR1.out
                    have HBW : Hid (Below wr.heap.size wr ((wr.drew.alloc (.cells #[.int .u8 (97 + (i : Int))] 5)).alloc RO)) := HW1.out
                    obtain ⟨rb, hrb⟩ : ∃ rb, Hid (rb = wr.heap.size + 1) := ⟨_, rfl⟩
                    have hrb1 : wr.heap.size ≤ rb := by have := hrb.out; omega
                    rw [← hrb.out] at HRW ⊢
                    generalize (wr.drew.alloc (.cells #[.int .u8 (97 + (i : Int))] 5)).alloc RO = w6 at HRW HBW ⊢
                    refine wpAny_at (i := 11) (v := .agg #[.string nv, .string ⟨#[]⟩, .slice (some ⟨rb, 0, none⟩) nm nm]) (some 95) rfl rfl (by kernel_rfl) (by kernel_rfl) (by kernel_rfl) (fun _ _ _ h => h) (by kernel_rfl) (fun _ => ex_table (.tmp 90) (.tmp 94) nv (some ⟨rb, 0, none⟩) nm nm rfl (by kernel_rfl) (by kernel_rfl)) ?_
                    simp only [Act.put, List.setIfInBounds_toArray, List.set_cons_zero, List.set_cons_succ]
                    refine wpAny_valw 12 (some 96) (.slice (some ⟨w6.heap.size, 0, none⟩) 1 1) (w6.alloc (.cells (tbC ⟨nv, ⟨#[]⟩, ⟨some ⟨rb, 0, none⟩, nm, nm⟩⟩).toArray 46)) (by kernel_rfl) rfl rfl (by kernel_rfl) (ex_boxT (.tmp 95) nv ⟨#[]⟩ (some ⟨rb, 0, none⟩) nm nm rfl (by kernel_rfl)) ?_
                    simp only [Act.put, List.setIfInBounds_toArray, List.set_cons_zero, List.set_cons_succ]
                    have hz6 := HBW.out.size
                    have HOA := Lib.hid ((HO.out.keep HBW.out.size (fun b hb _ => HBW.out.block b hb)).alloc (.cells (tbC ⟨nv, ⟨#[]⟩, ⟨some ⟨rb, 0, none⟩, nm, nm⟩⟩).toArray 46))
                    have HKA : Hid (Keep ([] ++ blkL (.slice Ao n0 co)) (w6.alloc (.cells (tbC ⟨nv, ⟨#[]⟩, ⟨some ⟨rb, 0, none⟩, nm, nm⟩⟩).toArray 46)) fun u => RdRu u (.slice (some ⟨rb, 0, none⟩) nm nm) (List.replicate nm zR)) := Lib.hid ((RdE.keepX (X := [] ++ blkL (.slice Ao n0 co)) (HRW.out.alloc (.cells (tbC ⟨nv, ⟨#[]⟩, ⟨some ⟨rb, 0, none⟩, nm, nm⟩⟩).toArray 46)) (fun b o s n2 c2 hv hb => by
                      injection hv with h1 _ _
                      injection h1 with h1
                      injection h1 with h1 _ _
                      have := (HO.out.own.lt b (mem_blkL.1 (by simpa using hb))).2
                      omega)).imp fun u hu => rdRu_made nm hu)
                    refine wpAny_only 13 (by kernel_rfl) rfl (by kernel_rfl) ?_
                    refine wp_appL rfl (.tmp 84) (.tmp 96) 39 46 rfl Tryd.underlying39 _ tbC 3 56 table_info rfl (by decide) tbC_len tbC_one w.heap.size (.slice Ao n0 co) xs rfl HOA.out.own (.slice (some ⟨w6.heap.size, 0, none⟩) 1 1) [⟨nv, ⟨#[]⟩, ⟨some ⟨rb, 0, none⟩, nm, nm⟩⟩] rfl (rdE_one_at tbC 3 tbC_len w6 _ rfl ⟨nv, ⟨#[]⟩, ⟨some ⟨rb, 0, none⟩, nm, nm⟩⟩ 46) (by simp only [List.length_singleton]; have := hxl.out; omega) (by decide) (by simp; have := HB.out.size; omega) ?_
                    intro v9 w9 hown9 hbel9 hgr9 hat9
                    obtain ⟨A9, c9, hv9⟩ := own_shape hown9
                    rw [List.length_append, hxl.out] at hv9
                    subst hv9
                    have HP9 : Hid (TR 46 [] w.heap.size w9 (.slice A9 (n0 + 1) c9) (ts ++ [Tb.mk nv ⟨#[]⟩ (List.replicate nm zR)]) (xs ++ [TbV.mk nv ⟨#[]⟩ ⟨some ⟨rb, 0, none⟩, nm, nm⟩])) := HOA.out.push (Tb.mk nv ⟨#[]⟩ (List.replicate nm zR)) (TbV.mk nv ⟨#[]⟩ ⟨some ⟨rb, 0, none⟩, nm, nm⟩) rfl rfl HKA.out hown9 hgr9 hat9
                    have hbn := hbel9 w.heap.size (w6.alloc (.cells (tbC ⟨nv, ⟨#[]⟩, ⟨some ⟨rb, 0, none⟩, nm, nm⟩⟩).toArray 46)) (Nat.le_refl _) (Below.refl _ _)
                    have hbn2 := ((Below.refl w.heap.size w6).alloc (by have := HB.out.size; omega) (.cells (tbC ⟨nv, ⟨#[]⟩, ⟨some ⟨rb, 0, none⟩, nm, nm⟩⟩).toArray 46)).trans hbn
                    have HB9 : Hid (Below w.heap.size w w9) := Lib.hid ((HB.out.trans (HBW.out.mono HB.out.size)).trans hbn2)
                    show wpAny _ _ _ _ _ _ (Act.put _ (some 97) (.slice A9 (n0 + 1) c9)) w9
                    simp only [Act.put, List.setIfInBounds_toArray, List.set_cons_zero, List.set_cons_succ]
                    refine wpAny_at (i := 14) (v := .slice A9 (n0 + 1) c9) (some 16) rfl rfl (by kernel_rfl) (by kernel_rfl) (by kernel_rfl) (fun _ _ _ h => h) (by kernel_rfl) (fun _ => ex_assign _ _ rfl (by kernel_rfl)) ?_
                    simp only [Act.put, List.setIfInBounds_toArray, List.set_cons_zero, List.set_cons_succ]
                    refine wpAny_done (by kernel_rfl) ?_ _
                    go_wp2_with fail
                    go_roundg (i - 1)
                    case measure => omega
                    case rel => exact ⟨ts ++ [Tb.mk nv ⟨#[]⟩ (List.replicate nm zR)], xs ++ [TbV.mk nv ⟨#[]⟩ ⟨some ⟨rb, 0, none⟩, nm, nm⟩], A9, n0 + 1, c9, i - 1, rfl, by (show Value.int .i64 _ = Value.int .i64 _); congr 1; omega, by (show _ = _); rw [List.length_append, HTL.out]; rfl, by omega, HP9.out, fun u hu => by (rcases List.mem_append.1 hu with hu | hu); exact HSM.out u hu; rw [List.mem_singleton.1 hu]; exact ⟨hnvs, Nat.zero_le 2⟩, HB9.out, by omega⟩
                · refine wp_of_valw (v := .slice (some ⟨wr.heap.size, 0, none⟩) nm nm) (w2 := (wr.drew).alloc RO) (ex_make 31 _ _ (.int .i64 (31 + (kb : Int))) (.int .i64 (31 + (kb : Int))) _ rfl (by kernel_rfl) (by kernel_rfl) (HMK2.out)) ?_
                  simp only [Act.put, List.setIfInBounds_toArray, List.set_cons_zero, List.set_cons_succ]
                  refine wpAny_valw 4 (some 88) (.slice (some ⟨wr.heap.size + 1, 0, none⟩) 1 1) (((wr.drew).alloc RO).alloc (.cells #[.int .u8 (97 + (i : Int))] 5)) (by kernel_rfl) rfl rfl (by kernel_rfl) (ex_boxBg (.tmp 87) (97 + (i : Int)) (wr.heap.size + 1) (by simp) rfl (by kernel_rfl)) ?_
                  simp only [Act.put, List.setIfInBounds_toArray, List.set_cons_zero, List.set_cons_succ]
                  refine wpAny_valw 5 (some 89) (.string ch) (((wr.drew).alloc RO).alloc (.cells #[.int .u8 (97 + (i : Int))] 5)) (by kernel_rfl) rfl rfl (by kernel_rfl) (ex_conv 23 9 _ (.slice (some ⟨wr.heap.size + 1, 0, none⟩) 1 1) _ rfl (by kernel_rfl) (HC3.out)) ?_
                  simp only [Act.put, List.setIfInBounds_toArray, List.set_cons_zero, List.set_cons_succ]
                  refine wpAny_at (i := 6) (v := .string nv) (some 90) rfl rfl (by kernel_rfl) (by kernel_rfl) (by kernel_rfl) (fun _ _ _ h => h) (by kernel_rfl) (fun _ => ex_binOp .add 9 9 _ _ (.string ⟨#[116]⟩) (.string ch) _ rfl (by kernel_rfl) (by kernel_rfl) (HCT.out)) ?_
                  simp only [Act.put, List.setIfInBounds_toArray, List.set_cons_zero, List.set_cons_succ]
                  have HRW : Hid (RdE ruC 3 ((wr.drew.alloc RO).alloc (.cells #[.int .u8 (97 + (i : Int))] 5)) (.slice (some ⟨wr.heap.size, 0, none⟩) nm nm) (List.replicate nm zRu)) := HR2.out
                  have HBW : Hid (Below wr.heap.size wr ((wr.drew.alloc RO).alloc (.cells #[.int .u8 (97 + (i : Int))] 5))) := HW2.out
                  obtain ⟨rb, hrb⟩ : ∃ rb, Hid (rb = wr.heap.size) := ⟨_, rfl⟩
                  have hrb1 : wr.heap.size ≤ rb := by have := hrb.out; omega
                  rw [show (Value.slice (some ⟨wr.heap.size, 0, none⟩) nm nm) = Value.slice (some ⟨rb, 0, none⟩) nm nm by rw [hrb.out]] at HRW ⊢
                  generalize (wr.drew.alloc RO).alloc (.cells #[.int .u8 (97 + (i : Int))] 5) = w6 at HRW HBW ⊢
                  refine wpAny_at (i := 11) (v := .agg #[.string nv, .string ⟨#[]⟩, .slice (some ⟨rb, 0, none⟩) nm nm]) (some 95) rfl rfl (by kernel_rfl) (by kernel_rfl) (by kernel_rfl) (fun _ _ _ h => h) (by kernel_rfl) (fun _ => ex_table (.tmp 90) (.tmp 94) nv (some ⟨rb, 0, none⟩) nm nm rfl (by kernel_rfl) (by kernel_rfl)) ?_
                  simp only [Act.put, List.setIfInBounds_toArray, List.set_cons_zero, List.set_cons_succ]
                  refine wpAny_valw 12 (some 96) (.slice (some ⟨w6.heap.size, 0, none⟩) 1 1) (w6.alloc (.cells (tbC ⟨nv, ⟨#[]⟩, ⟨some ⟨rb, 0, none⟩, nm, nm⟩⟩).toArray 46)) (by kernel_rfl) rfl rfl (by kernel_rfl) (ex_boxT (.tmp 95) nv ⟨#[]⟩ (some ⟨rb, 0, none⟩) nm nm rfl (by kernel_rfl)) ?_
                  simp only [Act.put, List.setIfInBounds_toArray, List.set_cons_zero, List.set_cons_succ]
                  have hz6 := HBW.out.size
                  have HOA := Lib.hid ((HO.out.keep HBW.out.size (fun b hb _ => HBW.out.block b hb)).alloc (.cells (tbC ⟨nv, ⟨#[]⟩, ⟨some ⟨rb, 0, none⟩, nm, nm⟩⟩).toArray 46))
                  have HKA : Hid (Keep ([] ++ blkL (.slice Ao n0 co)) (w6.alloc (.cells (tbC ⟨nv, ⟨#[]⟩, ⟨some ⟨rb, 0, none⟩, nm, nm⟩⟩).toArray 46)) fun u => RdRu u (.slice (some ⟨rb, 0, none⟩) nm nm) (List.replicate nm zR)) := Lib.hid ((RdE.keepX (X := [] ++ blkL (.slice Ao n0 co)) (HRW.out.alloc (.cells (tbC ⟨nv, ⟨#[]⟩, ⟨some ⟨rb, 0, none⟩, nm, nm⟩⟩).toArray 46)) (fun b o s n2 c2 hv hb => by
                    injection hv with h1 _ _
                    injection h1 with h1
                    injection h1 with h1 _ _
                    have := (HO.out.own.lt b (mem_blkL.1 (by simpa using hb))).2
                    omega)).imp fun u hu => rdRu_made nm hu)
                  refine wpAny_only 13 (by kernel_rfl) rfl (by kernel_rfl) ?_
                  refine wp_appL rfl (.tmp 84) (.tmp 96) 39 46 rfl Tryd.underlying39 _ tbC 3 56 table_info rfl (by decide) tbC_len tbC_one w.heap.size (.slice Ao n0 co) xs rfl HOA.out.own (.slice (some ⟨w6.heap.size, 0, none⟩) 1 1) [⟨nv, ⟨#[]⟩, ⟨some ⟨rb, 0, none⟩, nm, nm⟩⟩] rfl (rdE_one_at tbC 3 tbC_len w6 _ rfl ⟨nv, ⟨#[]⟩, ⟨some ⟨rb, 0, none⟩, nm, nm⟩⟩ 46) (by simp only [List.length_singleton]; have := hxl.out; omega) (by decide) (by simp; have := HB.out.size; omega) ?_
                  intro v9 w9 hown9 hbel9 hgr9 hat9
                  obtain ⟨A9, c9, hv9⟩ := own_shape hown9
                  rw [List.length_append, hxl.out] at hv9
                  subst hv9
                  have HP9 : Hid (TR 46 [] w.heap.size w9 (.slice A9 (n0 + 1) c9) (ts ++ [Tb.mk nv ⟨#[]⟩ (List.replicate nm zR)]) (xs ++ [TbV.mk nv ⟨#[]⟩ ⟨some ⟨rb, 0, none⟩, nm, nm⟩])) := HOA.out.push (Tb.mk nv ⟨#[]⟩ (List.replicate nm zR)) (TbV.mk nv ⟨#[]⟩ ⟨some ⟨rb, 0, none⟩, nm, nm⟩) rfl rfl HKA.out hown9 hgr9 hat9
                  have hbn := hbel9 w.heap.size (w6.alloc (.cells (tbC ⟨nv, ⟨#[]⟩, ⟨some ⟨rb, 0, none⟩, nm, nm⟩⟩).toArray 46)) (Nat.le_refl _) (Below.refl _ _)
                  have hbn2 := ((Below.refl w.heap.size w6).alloc (by have := HB.out.size; omega) (.cells (tbC ⟨nv, ⟨#[]⟩, ⟨some ⟨rb, 0, none⟩, nm, nm⟩⟩).toArray 46)).trans hbn
                  have HB9 : Hid (Below w.heap.size w w9) := Lib.hid ((HB.out.trans (HBW.out.mono HB.out.size)).trans hbn2)
                  show wpAny _ _ _ _ _ _ (Act.put _ (some 97) (.slice A9 (n0 + 1) c9)) w9
                  simp only [Act.put, List.setIfInBounds_toArray, List.set_cons_zero, List.set_cons_succ]
                  refine wpAny_at (i := 14) (v := .slice A9 (n0 + 1) c9) (some 16) rfl rfl (by kernel_rfl) (by kernel_rfl) (by kernel_rfl) (fun _ _ _ h => h) (by kernel_rfl) (fun _ => ex_assign _ _ rfl (by kernel_rfl)) ?_
                  simp only [Act.put, List.setIfInBounds_toArray, List.set_cons_zero, List.set_cons_succ]
                  refine wpAny_done (by kernel_rfl) ?_ _
                  go_wp2_with fail
                  go_roundg (i - 1)
                  case measure => omega
                  case rel => exact ⟨ts ++ [Tb.mk nv ⟨#[]⟩ (List.replicate nm zR)], xs ++ [TbV.mk nv ⟨#[]⟩ ⟨some ⟨rb, 0, none⟩, nm, nm⟩], A9, n0 + 1, c9, i - 1, rfl, by (show Value.int .i64 _ = Value.int .i64 _); congr 1; omega, by (show _ = _); rw [List.length_append, HTL.out]; rfl, by omega, HP9.out, fun u hu => by (rcases List.mem_append.1 hu with hu | hu); exact HSM.out u hu; rw [List.mem_singleton.1 hu]; exact ⟨hnvs, Nat.zero_le 2⟩, HB9.out, by omega⟩
            · obtain rfl : i = 0 := by omega
              clear hi0 hgk
              have HVA := Lib.hid (fun (w' : World) (h : Below wr.heap.size wr w') => segValidate_any ts _ w' (HO.out.rd.below h (Nat.le_refl _)) (lim_in ts (by rw [HTL.out]; omega) HSM.out))
              have HVB := Lib.hid (fun (w' : World) (h : Below wr.heap.size wr w') => rValidate_any ts _ w' (HO.out.rd.below h (Nat.le_refl _)) (lim_in ts (by rw [HTL.out]; omega) HSM.out))
              obtain ⟨vt, hvt⟩ : ∃ vt, Hid (validT ts = vt) := ⟨_, rfl⟩
              rw [hvt.out] at HVA HVB
              unfold IntRet at HVA HVB
              clear hvt HO HSM HTL
              obtain ⟨m, hm⟩ : ∃ m : Nat, Hid (65535 + (kc : Int) = (m : Int)) := ⟨65535 + kc, by show _ = _; omega⟩
              have hm1 : m ≤ 65537 := by have := hm.out; omega
              have hm2 : 65535 ≤ m := by have := hm.out; omega
              have HMB := run_make_bytes m (by omega) wr
              rw [bytesN_zero] at HMB
              have hHB := HB.out.size
              have HB6 := Lib.hid (HB.out.alloc HB.out.size (.cells (bytesN 0 m) 5))
              have HZ6 : Hid ((wr.alloc (.cells (bytesN 0 m) 5)).heap[wr.heap.size]? = some (.cells (bytesN 0 m) 5)) := heap_alloc_new wr _
              have HL6 := Lib.hid ((Below.refl wr.heap.size wr).alloc (Nat.le_refl _) (.cells (bytesN 0 m) 5))
              have hmw : IntKind.i64.wrap (65535 + (kc : Int)) = (m : Int) := by rw [IntKind.wrap_i64, hm.out]; omega
              go_upto_region 20 with (go_at_call 14; refine (HPC.out _).mono ?_; rintro e w1 ⟨rfl, rfl⟩)
              clear HMB hmw HPC HPA HPB
              generalize hw6 : wr.alloc (.cells (bytesN 0 m) 5) = w6 at HB6 HZ6 HL6 ⊢
              generalize hpb : wr.heap.size = pb at HZ6 HL6 hHB HVA HVB ⊢
              clear hw6
              have hmi : (0 : Int) ≤ (m : Int) := by omega
              go_wp2_with fail
              obtain ⟨wo3, HWO3⟩ : ∃ wo3, Hid (wo3 = w6) := ⟨w6, rfl⟩
              go_loopg [19, 104] m (fun gk iv jv wx => ∃ j : Nat, jv = .int .i64 j ∧ j ≤ m ∧ Hid (wx.heap[pb]? = some (.cells (bytesN j m) 5)) ∧ Hid (Below pb wr wx) ∧ Hid (Below w.heap.size w wx) ∧ m - j ≤ gk)
              case atStart => exact ⟨0, rfl, by omega, HZ6.out, HL6.out, HB6.out, by omega⟩
              case round =>
                obtain ⟨wq, hwq⟩ : ∃ wq, Hid (wq = wr) := ⟨_, rfl⟩
                clear HWO3 HB6 HZ6 HL6
                obtain ⟨j, rfl, hj, HZJ, HLJ, HBJ, hgk⟩ := hrel
                by_cases hjm : j < m
                · have hji : (j : Int) < (m : Int) := by omega
                  have hj0 : (0 : Int) ≤ (j : Int) := by omega
                  have hjj : (j : Int) < (j : Int) + 1 := by omega
                  have hpbl : pb < wr.heap.size := (Array.getElem?_eq_some_iff.1 HZJ.out).1
                  have f1 : wr.frozen? ⟨pb, j, none⟩ = false := by unfold World.frozen?; rw [HZJ.out]; simp
                  have y1 : wr.cell? ⟨pb, j, none⟩ = some (.int .u8 0) := by rw [cell_of_row wr pb j _ _ _ HZJ.out, bytesN_get j m j hjm, if_neg (Nat.lt_irrefl j)]
                  have HZ' : Hid ((wr.setCell ⟨pb, j, none⟩ (.int .u8 10)).heap[pb]? = some (.cells (bytesN (j + 1) m) 5)) := by
                    have h := set_row1 HZJ.out j (.int .u8 10)
                    rw [bytesN_step j m hjm] at h
                    exact h
                  have HL' := Lib.hid (HLJ.out.setCell (p := ⟨pb, j, none⟩) (Nat.le_refl pb) (.int .u8 10))
                  have HB' := Lib.hid (HBJ.out.setCell (p := ⟨pb, j, none⟩) hHB (.int .u8 10))
                  go_wp2_with fail
                  go_roundg (m - (j + 1))
                  case measure => omega
                  case rel => exact ⟨j + 1, rfl, by omega, HZ'.out, HL'.out, HB'.out, by omega⟩
                · obtain rfl : j = m := by omega
                  have HNL := run_nl j pb wr HZJ.out
                  have HP3 := Lib.hid (segParse_any (nlF j) wr (HG.out _ HBJ.out))
                  have h3 := rulesF_nl j
                  unfold RetTbs at HP3
                  generalize rulesF (nlF j) = r3 at HP3 h3
                  obtain ⟨t3, k3, x3⟩ := r3
                  simp only at HP3 h3
                  have hpl : pb ≤ wr.heap.size := by have := HLJ.out.size; omega
                  have t9 : (vt == vt) = true := beq_self_eq_true _
                  generalize nlF j = nl at HNL HP3
                  by_cases hle : 65536 < j
                  · rw [if_pos hle] at h3
                    subst h3
                    have hlei : ¬ (j : Int) ≤ 65536 := by omega
                    have hled : decide ((j : Int) ≤ 65536) = false := decide_eq_false hlei
                    clear hpb hjm hgk hle hm1 hm2
                    go_wp2_with (first
                      | (go_at_call 20; refine HP3.out.mono ?_; rintro e w3 ⟨v3, rfl, hr3, hb3⟩; obtain ⟨A5, c5, hv5⟩ := hr3.shape; subst hv5; have HL3 := Lib.hid (HLJ.out.trans (hb3.mono hpl)); have HB3 := Lib.hid (HBJ.out.trans (hb3.mono HBJ.out.size)); have hpl3 := Nat.le_trans hpl hb3.size)
                      | (go_at_call 23; refine (HVA.out _ HL3.out).mono ?_; rintro e w4 ⟨rfl, hb4⟩; have HL4 := Lib.hid (HL3.out.trans (hb4.mono hpl3)); have HB4 := Lib.hid (HB3.out.trans (hb4.mono HB3.out.size)))
                      | (go_at_call 24; refine (HVB.out _ HL4.out).mono ?_; rintro e w5' ⟨rfl, hb5⟩; have HB5' := Lib.hid (HB4.out.trans (hb5.mono HB4.out.size)))
                      | (go_at_call 17; refine (HK.out _ HB5'.out).mono ?_; rintro e w7 ⟨rfl, hb7⟩))
                    go_ret
                    exact ⟨rfl, HB5'.out.trans (hb7.mono HB5'.out.size)⟩
                  · rw [if_neg hle] at h3
                    subst h3
                    have hlei : (j : Int) ≤ 65536 := by omega
                    have hled : decide ((j : Int) ≤ 65536) = true := decide_eq_true hlei
                    clear hpb hjm hgk hle hm1 hm2
                    go_wp2_with (first
                      | (go_at_call 20; refine HP3.out.mono ?_; rintro e w3 ⟨v3, rfl, hr3, hb3⟩; obtain ⟨A5, c5, hv5⟩ := hr3.shape; subst hv5; have HL3 := Lib.hid (HLJ.out.trans (hb3.mono hpl)); have HB3 := Lib.hid (HBJ.out.trans (hb3.mono HBJ.out.size)); have hpl3 := Nat.le_trans hpl hb3.size)
                      | (go_at_call 23; refine (HVA.out _ HL3.out).mono ?_; rintro e w4 ⟨rfl, hb4⟩; have HL4 := Lib.hid (HL3.out.trans (hb4.mono hpl3)); have HB4 := Lib.hid (HB3.out.trans (hb4.mono HB3.out.size)))
                      | (go_at_call 24; refine (HVB.out _ HL4.out).mono ?_; rintro e w5' ⟨rfl, hb5⟩; have HB5' := Lib.hid (HB4.out.trans (hb5.mono HB4.out.size)))
                      | (go_at_call 17; refine (HK.out _ HB5'.out).mono ?_; rintro e w7 ⟨rfl, hb7⟩))
                    go_ret
                    exact ⟨rfl, HB5'.out.trans (hb7.mono HB5'.out.size)⟩

end Go.Proofs.YtpboaadjbkaidaaDoor
