
/-
  The statement SegmentCascades: the walk.
-/
import Derived.Test.YtpboaadjbkaidaaDoorPackC4
import Derived.Test.YtpboaadjbkaidaaDoorPackC5
set_option linter.unusedVariables false
set_option linter.unusedSimpArgs false
namespace Go.Proofs.YtpboaadjbkaidaaDoor
set_option maxRecDepth 100000
open Go.RowKit

/-- A row of n zero elements. -/
theorem rdE_made {α : Type} (f : α → List Value) (m : Nat) (hm : ∀ x, (f x).length = m) (z : α) (n : Nat) (t : TypeId) (w : World) : RdE f m (w.alloc (.cells (madeCells (f z).toArray (n * m)) t)) (.slice (some ⟨w.heap.size, 0, none⟩) n n) (List.replicate n z) := by
  refine ⟨some ⟨w.heap.size, 0, none⟩, n, by simp, by simp, (fun h => by cases h), fun _ => ⟨w.heap.size, 0, rfl, by simp, fun i y j u hi hj => ?_⟩⟩
  have hin : i < n := by have := (List.getElem?_eq_some_iff.1 hi).1; simpa using this
  have hy : y = z := by
    rw [List.getElem?_replicate] at hi
    rw [if_pos hin] at hi
    exact (Option.some.inj hi).symm
  subst hy
  have hjm : j < m := by rw [← hm y]; exact (List.getElem?_eq_some_iff.1 hj).1
  have hlt : i * m + j < n * m := by
    have : (i + 1) * m ≤ n * m := Nat.mul_le_mul_right m hin
    rw [Nat.succ_mul] at this
    omega
  have h := cells_new w (madeCells (f y).toArray (n * m)).toList t (i * m + j) u (by
    unfold madeCells
    simp only [Array.toList_map, Array.toList_range, List.getElem?_map, List.getElem?_range hlt, Option.map_some]
    have e : (f y).toArray.size = m := by simpa using hm y
    rw [e, Nat.mul_comm i m, Nat.mul_add_mod, Nat.mod_eq_of_lt hjm]
    simp [getElem!_def, hj])
  rw [Addr.add_lit] at h
  simpa using h
theorem run_make_atoms (n : Nat) (hn : n ≤ 1000) (w : World) : (Instr.makeSlice 28 (.int .i64 (n : Int)) (.int .i64 (n : Int))).run Tryd.prog w = .ok (.slice (some ⟨w.heap.size, 0, none⟩) n n) (w.alloc (.cells (madeCells (atC zerA).toArray (n * 34)) 26)) := by
  obtain ⟨i, hi, hz, hs, hb⟩ := info_parts atom_info
  have h := run_make (P := Tryd.prog) w 28 26 i _ Tryd.underlying28 hi hz .i64 .i64 (n : Int) (n : Int) (by omega) (Int.le_refl _) (by rw [hb]; omega) (by omega)
  rw [hs] at h
  exact h

theorem casT_in (n : Nat) (h : n ≤ 6) : TbIn (casT n) := by
  refine ⟨by rw [casT_len]; unfold maxLen; omega, fun t ht => ?_⟩
  unfold casT at ht
  obtain ⟨i, _, rfl⟩ := List.mem_map.1 ht
  refine ⟨by unfold maxLen; exact (by decide : 2 ≤ 9223372036854775807), ?_⟩
  unfold casOne maxLen
  show (if i = 0 then (⟨#[]⟩ : ByteArray) else casN (i - 1)).size ≤ _
  split
  · decide
  · exact (by decide : 2 ≤ 9223372036854775807)
set_option maxRecDepth 100000 in
set_option maxHeartbeats 16000000 in
theorem walk_SegmentCascades (x : Int) (w : World) (hg : Got w) (hx0 : (Lit.int .i64 x).wf = true) :
    Calls Tryd.prog 11 #[.int .i64 x] w fun e w' => e = .returned (.bool true) ∧ Below w.heap.size w w' := by
  have hx := wf_i64 hx0
  have HK := Lib.hid (fun (w' : World) (h : Below w.heap.size w w') => known6_any w' (got_below hg h))
  go_enter Tryd.func11, Tryd.ntmps11
  go_upto_region 3 with fail
  obtain ⟨n, h1, h6, hn⟩ : ∃ n : Nat, 1 ≤ n ∧ n ≤ 6 ∧ Hid (wrap64 (1 + wrap64 ((IntKind.u64.wrap x).tmod 6)) = (n : Int)) := by
    have hu : 0 ≤ IntKind.u64.wrap x := by rw [IntKind.wrap_u64]; omega
    have e : (IntKind.u64.wrap x).tmod 6 = IntKind.u64.wrap x % 6 := Int.tmod_eq_emod_of_nonneg hu
    have h0 := Int.emod_nonneg (IntKind.u64.wrap x) (show (6 : Int) ≠ 0 by decide)
    have h5 := Int.emod_lt_of_pos (IntKind.u64.wrap x) (show (0 : Int) < 6 by decide)
    refine ⟨(1 + IntKind.u64.wrap x % 6).toNat, by omega, by omega, ?_⟩
    show _ = _
    rw [e]
    unfold wrap64
    omega
  rw [hn.out]
  clear hx hx0 hn
  go_wp2_with fail
  obtain ⟨wo, HWO⟩ : ∃ wo, Hid (wo = w) := ⟨w, rfl⟩
  go_loopg [3, 4] n (fun gk ov iv wr => ∃ (i : Nat) (xs : List TbV) (Ao : Option Addr) (co : Nat), ov = .slice Ao i co ∧ iv = .int .i64 i ∧ i ≤ n ∧ Hid (TR 46 [] w.heap.size wr (.slice Ao i co) (casT i) xs) ∧ Hid (Below w.heap.size w wr) ∧ n - i ≤ gk)
  case atStart => exact ⟨0, [], none, 0, rfl, rfl, by omega, TR.start (fun _ h => by simp at h), Below.refl _ _, by omega⟩
  case round =>
    clear HWO
    obtain ⟨i, xs, Ao, co, rfl, rfl, hi, HO, HB, hgk⟩ := hrel
    by_cases hil : i < n
    · have hii : (i : Int) < (n : Int) := by omega
      have hi5 : i ≤ 5 := by omega
      have hi0 : (0 : Int) ≤ (i : Int) := by omega
      have hmk := run_make_atoms i (by omega) wr
      have HA := Lib.hid (rdE_made atC 34 atC_len zerA i 26 wr)
      have HBA := Lib.hid ((Below.refl wr.heap.size wr).alloc (Nat.le_refl _) (.cells (madeCells (atC zerA).toArray (i * 34)) 26))
      have hza : (wr.alloc (.cells (madeCells (atC zerA).toArray (i * 34)) 26)).heap.size = wr.heap.size + 1 := by simp
      have HQ1 : Hid (((wr.alloc (.cells (madeCells (atC zerA).toArray (i * 34)) 26)).alloc (.cells #[.bool false, .slice (some ⟨wr.heap.size, 0, none⟩) i i, .slice none 0 0] 30)).heap[wr.heap.size + 1]? = some (.cells #[.bool false, .slice (some ⟨wr.heap.size, 0, none⟩) i i, .slice none 0 0] 30)) := by
        show _ = _
        rw [← hza]
        exact heap_alloc_new _ _
      have HB1 := Lib.hid (HBA.out.alloc (by omega) (.cells #[.bool false, .slice (some ⟨wr.heap.size, 0, none⟩) i i, .slice none 0 0] 30))
      have HA1 := Lib.hid (HA.out.below ((Below.refl (wr.alloc (.cells (madeCells (atC zerA).toArray (i * 34)) 26)).heap.size _).alloc (Nat.le_refl _) (.cells #[.bool false, .slice (some ⟨wr.heap.size, 0, none⟩) i i, .slice none 0 0] 30)) (Nat.le_refl _))
      have hz1 : wr.heap.size + 2 ≤ ((wr.alloc (.cells (madeCells (atC zerA).toArray (i * 34)) 26)).alloc (.cells #[.bool false, .slice (some ⟨wr.heap.size, 0, none⟩) i i, .slice none 0 0] 30)).heap.size := by simp
      go_upto_region 7 with fail
      clear HA HBA hza hmk
      generalize (wr.alloc (.cells (madeCells (atC zerA).toArray (i * 34)) 26)).alloc (.cells #[.bool false, .slice (some ⟨wr.heap.size, 0, none⟩) i i, .slice none 0 0] 30) = w1 at HQ1 HB1 HA1 hz1 ⊢
      obtain ⟨q, hq⟩ : ∃ q, Hid (q = wr.heap.size + 1) := ⟨_, rfl⟩
      have hqw : wr.heap.size < q := by rw [hq.out]; omega
      have hqw2 : q < w1.heap.size := by rw [hq.out]; omega
      rw [← hq.out] at HQ1 ⊢
      obtain ⟨pb, hpb⟩ : ∃ pb, Hid (pb = wr.heap.size) := ⟨_, rfl⟩
      have hpw : wr.heap.size ≤ pb := Nat.le_of_eq hpb.out.symm
      rw [← hpb.out] at HQ1 HA1 ⊢
      clear hq hz1
      obtain ⟨ch, hch⟩ : ∃ ch : ByteArray, Hid (ch = ⟨#[UInt8.ofNat (97 + i)]⟩) := ⟨_, rfl⟩
      have hcv : (convert 23 9 (.slice (some ⟨w1.heap.size, 0, none⟩) 1 1)).run Tryd.prog (w1.alloc (.cells #[.int .u8 (97 + (i : Int))] 5)) = .ok (.string ch) (w1.alloc (.cells #[.int .u8 (97 + (i : Int))] 5)) := by
        have h := run_string_of_byte (P := Tryd.prog) 23 9 5 Tryd.underlying23 Tryd.underlying5 Tryd.underlying9 (97 + (i : Int)) (by omega) (by omega) w1
        rw [show (97 + (i : Int)).toNat = 97 + i by omega] at h
        rw [hch.out]
        exact h
      have HQ2 : Hid ((w1.alloc (.cells #[.int .u8 (97 + (i : Int))] 5)).heap[q]? = some (.cells #[.bool false, .slice (some ⟨pb, 0, none⟩) i i, .slice none 0 0] 30)) := (Below.heap_alloc w1 _ q hqw2).trans HQ1.out
      have hcs : ch.size ≤ 1 := by rw [hch.out]; exact Nat.le_refl 1
      have hpbl : pb < w1.heap.size := by have := hpb.out; omega
      obtain ⟨nv, hnv⟩ : ∃ nv : ByteArray, Hid (nv = casN i) := ⟨_, rfl⟩
      have hcat : Hid ((⟨#[116]⟩ : ByteArray) ++ ch = nv) := by
        show _ = _
        rw [hnv.out, hch.out]
        exact cas_join _
      obtain ⟨rv, hrv⟩ : ∃ rv : RuV, Hid (rv = ⟨false, ⟨some ⟨pb, 0, none⟩, i, i⟩, ⟨none, 0, 0⟩⟩) := ⟨_, rfl⟩
      have HBW : Hid (Below wr.heap.size wr (((w1.alloc (.cells #[.int .u8 (97 + (i : Int))] 5)).alloc (.cells #[.bool false, .slice (some ⟨pb, 0, none⟩) i i, .slice none 0 0] 30)).alloc (.cells #[.string nv, .string ⟨#[]⟩, .slice (some ⟨w1.heap.size + 1, 0, none⟩) 1 1] 46))) :=
        Lib.hid (((HB1.out.alloc (by omega) _).alloc (by simp; omega) _).alloc (by simp; omega) _)
      have HZ : Hid ((((w1.alloc (.cells #[.int .u8 (97 + (i : Int))] 5)).alloc (.cells #[.bool false, .slice (some ⟨pb, 0, none⟩) i i, .slice none 0 0] 30)).alloc (.cells #[.string nv, .string ⟨#[]⟩, .slice (some ⟨w1.heap.size + 1, 0, none⟩) 1 1] 46)).heap[w1.heap.size + 1 + 1]? = some (.cells #[.string nv, .string ⟨#[]⟩, .slice (some ⟨w1.heap.size + 1, 0, none⟩) 1 1] 46)) := by
        have h := heap_alloc_new ((w1.alloc (.cells #[.int .u8 (97 + (i : Int))] 5)).alloc (.cells #[.bool false, .slice (some ⟨pb, 0, none⟩) i i, .slice none 0 0] 30)) (.cells #[.string nv, .string ⟨#[]⟩, .slice (some ⟨w1.heap.size + 1, 0, none⟩) 1 1] 46)
        have e : ((w1.alloc (.cells #[.int .u8 (97 + (i : Int))] 5)).alloc (.cells #[.bool false, .slice (some ⟨pb, 0, none⟩) i i, .slice none 0 0] 30)).heap.size = w1.heap.size + 1 + 1 := by simp
        rw [e] at h
        exact h
      have HXB : Hid (∀ b ∈ blkL (.slice Ao i co), b < wr.heap.size) := fun b hb => (HO.out.own.lt b (mem_blkL.1 hb)).2
      have HKR : Hid (Keep ((w1.heap.size + 1 + 1) :: ([] ++ blkL (.slice Ao i co))) (((w1.alloc (.cells #[.int .u8 (97 + (i : Int))] 5)).alloc (.cells #[.bool false, .slice (some ⟨pb, 0, none⟩) i i, .slice none 0 0] 30)).alloc (.cells #[.string nv, .string ⟨#[]⟩, .slice (some ⟨w1.heap.size + 1, 0, none⟩) 1 1] 46)) fun u => RdRu u (.slice (some ⟨w1.heap.size + 1, 0, none⟩) 1 1) [casR i]) := by
        have e1 : (w1.alloc (.cells #[.int .u8 (97 + (i : Int))] 5)).heap.size = w1.heap.size + 1 := by simp
        have r1 := (rdE_one_at ruC 3 ruC_len (w1.alloc (.cells #[.int .u8 (97 + (i : Int))] 5)) (w1.heap.size + 1) e1 (RuV.mk false ⟨some ⟨pb, 0, none⟩, i, i⟩ ⟨none, 0, 0⟩) 30).alloc (.cells #[.string nv, .string ⟨#[]⟩, .slice (some ⟨w1.heap.size + 1, 0, none⟩) 1 1] 46)
        have r2 := ((HA1.out.alloc (.cells #[.int .u8 (97 + (i : Int))] 5)).alloc (.cells #[.bool false, .slice (some ⟨pb, 0, none⟩) i i, .slice none 0 0] 30)).alloc (.cells #[.string nv, .string ⟨#[]⟩, .slice (some ⟨w1.heap.size + 1, 0, none⟩) 1 1] 46)
        have k1 := RdE.keepX (X := (w1.heap.size + 1 + 1) :: ([] ++ blkL (.slice Ao i co))) r1 fun b o s n2 c hv hb => by
          injection hv with h1 _ _
          injection h1 with h1
          injection h1 with h1 _ _
          rcases List.mem_cons.1 hb with h | h
          · omega
          · have := HXB.out b (by simpa using h); omega
        have k2 := RdE.keepX (X := (w1.heap.size + 1 + 1) :: ([] ++ blkL (.slice Ao i co))) r2 fun b o s n2 c hv hb => by
          injection hv with h1 _ _
          injection h1 with h1
          injection h1 with h1 _ _
          rcases List.mem_cons.1 hb with h | h
          · omega
          · have := HXB.out b (by simpa using h); omega
        refine Lib.hid ((k1.and k2).imp fun u hu => ⟨_, hu.1, rfl, fun j x r hx hr => ?_⟩)
        have hj : j = 0 := by have := (List.getElem?_eq_some_iff.1 hx).1; simp at this; exact this
        subst hj
        obtain rfl := Option.some.inj hx
        obtain rfl := Option.some.inj hr
        exact ⟨rfl, hu.2, RdE.nil⟩
      go_upto_region 8 with (refine wpList_load_row rfl 30 (.tmp 5) rfl q rfl 30 #[.bool false, .slice (some ⟨pb, 0, none⟩) i i, .slice none 0 0] (0, 0) _ HQ2.out Tryd.underlying30 rfl (by rw [box_info]; rfl) ?_)
      rw [hcat.out]
      generalize hrb : w1.heap.size + 1 = rb at HBW HZ HKR ⊢
      have hrw : wr.heap.size < rb := by omega
      generalize ((w1.alloc (.cells #[.int .u8 (97 + (i : Int))] 5)).alloc (.cells #[.bool false, .slice (some ⟨pb, 0, none⟩) i i, .slice none 0 0] 30)).alloc (.cells #[.string nv, .string ⟨#[]⟩, .slice (some ⟨rb, 0, none⟩) 1 1] 46) = w6 at HBW HZ HKR ⊢
      have hp6 : rb + 1 < w6.heap.size := (Array.getElem?_eq_some_iff.1 HZ.out).1
      clear hpbl HQ1 HB1 HA1 hqw hqw2 hpw hcv HQ2 hcs hch hrb hcat hrv
      have hxl : Hid (xs.length = i) := HO.out.len.trans (casT_len i)
      by_cases hi0p : 0 < i
      · have hi0i : (0 : Int) < (i : Int) := by omega
        obtain ⟨ch, hch⟩ : ∃ ch : ByteArray, Hid (ch = ⟨#[UInt8.ofNat (97 + (i - 1))]⟩) := ⟨_, rfl⟩
        have hcs : ch.size ≤ 1 := by rw [hch.out]; exact Nat.le_refl 1
        obtain ⟨pv, hpv⟩ : ∃ pv : ByteArray, Hid (pv = casN (i - 1)) := ⟨_, rfl⟩
        have hcat : Hid ((⟨#[116]⟩ : ByteArray) ++ ch = pv) := by
          show _ = _
          rw [hpv.out, hch.out]
          exact cas_join _
        have hw8 : IntKind.u8.wrap (97 + (i : Int) - 1) = 97 + (i : Int) - 1 := by rw [IntKind.wrap_u8]; omega
        have hw9 : IntKind.i64.wrap (97 + (i : Int) - 1) = 97 + (i : Int) - 1 := by rw [IntKind.wrap_i64]; omega
        have hcv : (convert 23 9 (.slice (some ⟨w6.heap.size, 0, none⟩) 1 1)).run Tryd.prog (w6.alloc (.cells #[.int .u8 (97 + (i : Int) - 1)] 5)) = .ok (.string ch) (w6.alloc (.cells #[.int .u8 (97 + (i : Int) - 1)] 5)) := by
          have h := run_string_of_byte (P := Tryd.prog) 23 9 5 Tryd.underlying23 Tryd.underlying5 Tryd.underlying9 (97 + (i : Int) - 1) (by omega) (by omega) w6
          rw [show (97 + (i : Int) - 1).toNat = 97 + (i - 1) by omega] at h
          rw [hch.out]
          exact h
        have HZ6 : Hid ((w6.alloc (.cells #[.int .u8 (97 + (i : Int) - 1)] 5)).heap[rb + 1]? = some (.cells #[.string nv, .string ⟨#[]⟩, .slice (some ⟨rb, 0, none⟩) 1 1] 46)) := (Below.heap_alloc w6 _ _ hp6).trans HZ.out
        have f1 := (box3 HZ6.out).2.2.2.2.1
        have y1 := (box3 HZ6.out).2.1
        have hp6a : rb + 1 < (w6.alloc (.cells #[.int .u8 (97 + (i : Int) - 1)] 5)).heap.size := by simp; omega
        go_upto_region 10 with fail
        rw [hcat.out]
        have hsz6 : (w6.setCell ⟨rb + 1, 1, none⟩ (.string pv)).heap.size = w6.heap.size := by simp [World.setCell]
        have HZ7 : Hid (((w6.setCell ⟨rb + 1, 1, none⟩ (.string pv)).alloc (.cells #[.int .u8 (97 + (i : Int) - 1)] 5)).heap[rb + 1]? = some (.cells #[.string nv, .string pv, .slice (some ⟨rb, 0, none⟩) 1 1] 46)) := (Below.heap_alloc _ _ _ (by rw [hsz6]; exact hp6)).trans (set_row1 HZ.out 1 _)
        have hsz7 : ((w6.setCell ⟨rb + 1, 1, none⟩ (.string pv)).alloc (.cells #[.int .u8 (97 + (i : Int) - 1)] 5)).heap.size = w6.heap.size + 1 := by simp [World.setCell]
        have HB7 : Hid (Below wr.heap.size wr ((w6.setCell ⟨rb + 1, 1, none⟩ (.string pv)).alloc (.cells #[.int .u8 (97 + (i : Int) - 1)] 5))) := Lib.hid ((HBW.out.setCell (p := ⟨rb + 1, 1, none⟩) (by show _ ≤ rb + 1; omega) _).alloc (by omega) _)
        have HK7 : Hid (Keep ((rb + 1) :: ([] ++ blkL (.slice Ao i co))) ((w6.setCell ⟨rb + 1, 1, none⟩ (.string pv)).alloc (.cells #[.int .u8 (97 + (i : Int) - 1)] 5)) fun u => RdRu u (.slice (some ⟨rb, 0, none⟩) 1 1) [casR i]) := Lib.hid (HKR.out.step (by rw [hsz7]; omega) (fun b hlt hX => ⟨(Below.heap_alloc _ _ b (by rw [hsz6]; exact hlt)).trans (heap_setCell_other _ _ _ _ (fun e => hX (by rw [e]; exact List.mem_cons_self ..))), hX⟩))
        have HT : Hid (Tb.mk nv pv [casR i] = casOne i) := by
          show _ = _
          rw [hnv.out, hpv.out]
          unfold casOne
          rw [if_neg (by omega)]
        clear HZ6 HKR HBW f1 y1 hp6a hcv hw8 hw9 HZ hch hcat hcs hpv
        generalize (w6.setCell ⟨rb + 1, 1, none⟩ (.string pv)).alloc (.cells #[.int .u8 (97 + (i : Int) - 1)] 5) = w7 at HZ7 HB7 HK7 hsz7 ⊢
        have hp7 : rb + 1 < w7.heap.size := by omega
        clear hsz7 hsz6 hp6
        have hz7 := HB7.out.size
        have HO7 := Lib.hid (HO.out.keep HB7.out.size (fun b hb _ => HB7.out.block b hb))
        have HOA := Lib.hid (HO7.out.alloc (.cells (tbC ⟨nv, pv, ⟨some ⟨rb, 0, none⟩, 1, 1⟩⟩).toArray 46))
        have HKA : Hid (Keep ([] ++ blkL (.slice Ao i co)) (w7.alloc (.cells (tbC ⟨nv, pv, ⟨some ⟨rb, 0, none⟩, 1, 1⟩⟩).toArray 46)) fun u => RdRu u (.slice (some ⟨rb, 0, none⟩) 1 1) [casR i]) := Lib.hid ((HK7.out.mono (fun b hb => List.mem_cons_of_mem _ hb)).step (by simp) (fun b hlt hX => ⟨Below.heap_alloc w7 _ b hlt, hX⟩))
        go_wp2_with (first
          | (refine wpList_load_row rfl 46 (.tmp 6) rfl (rb + 1) rfl 46 #[.string nv, .string pv, .slice (some ⟨rb, 0, none⟩) 1 1] (0, 0) _ HZ7.out Tryd.underlying46 rfl (by rw [table_size]; rfl) ?_)
          | (at_builtin; go_loud (refine wpList_appAt rfl (.tmp 42) (.tmp 44) 39 46 rfl Tryd.underlying39 _ tbC 3 56 table_info rfl (by decide) tbC_len tbC_one w.heap.size (.slice Ao i co) xs rfl HOA.out.own (.slice (some ⟨w7.heap.size, 0, none⟩) 1 1) [⟨nv, pv, ⟨some ⟨rb, 0, none⟩, 1, 1⟩⟩] rfl (rdE_one_at tbC 3 tbC_len w7 _ rfl ⟨nv, pv, ⟨some ⟨rb, 0, none⟩, 1, 1⟩⟩ 46) (by simp only [List.length_singleton]; have := hxl.out; omega) (by decide) (by simp; have := HB.out.size; omega) ?_; intro v9 w9 hown9 hbel9 hgr9 hat9; obtain ⟨A9, c9, hv9⟩ := own_shape hown9; rw [List.length_append, hxl.out] at hv9; subst hv9)))
        have HP9 : Hid (TR 46 [] w.heap.size w9 (.slice A9 (i + 1) c9) (casT (i + 1)) (xs ++ [⟨nv, pv, ⟨some ⟨rb, 0, none⟩, 1, 1⟩⟩])) := by
          have h := HOA.out.push ⟨nv, pv, [casR i]⟩ ⟨nv, pv, ⟨some ⟨rb, 0, none⟩, 1, 1⟩⟩ rfl rfl HKA.out hown9 hgr9 hat9
          rw [HT.out, ← casT_succ] at h
          exact h
        have hbn := hbel9 w.heap.size (w7.alloc (.cells (tbC ⟨nv, pv, ⟨some ⟨rb, 0, none⟩, 1, 1⟩⟩).toArray 46)) (Nat.le_refl _) (Below.refl _ _)
        have hbn2 := ((Below.refl w.heap.size w7).alloc (by have := HB.out.size; omega) (.cells (tbC ⟨nv, pv, ⟨some ⟨rb, 0, none⟩, 1, 1⟩⟩).toArray 46)).trans hbn
        have HB9 : Hid (Below w.heap.size w w9) := Lib.hid ((HB.out.trans (HB7.out.mono HB.out.size)).trans hbn2)
        clear hown9 hbel9 hgr9 hat9 hbn hbn2 HOA HKA HO HO7 HK7 HZ7 HB7 HB HT hnv
        go_wp2_with fail
        go_roundg (n - (i + 1))
        case measure => omega
        case rel => exact ⟨i + 1, xs ++ [TbV.mk nv pv ⟨some ⟨rb, 0, none⟩, 1, 1⟩], A9, c9, rfl, rfl, by omega, HP9.out, HB9.out, by omega⟩
      · have hi0i : ¬ (0 : Int) < (i : Int) := by omega
        obtain ⟨pv, hpv⟩ : ∃ pv : ByteArray, pv = ⟨#[]⟩ := ⟨_, rfl⟩
        have HT : Hid (Tb.mk nv pv [casR i] = casOne i) := by
          show _ = _
          rw [hnv.out, hpv]
          unfold casOne
          rw [if_pos (by omega)]
        subst hpv
        obtain ⟨pv, hpv⟩ : ∃ pv : ByteArray, Hid (pv = ⟨#[]⟩) := ⟨_, rfl⟩
        rw [← hpv.out] at HT HZ
        go_upto_region 10 with fail
        have HZ7 := HZ
        have HB7 := HBW
        have HK7 := HKR
        obtain ⟨w7, hw7⟩ : ∃ w7 : World, Hid (w7 = w6) := ⟨_, rfl⟩
        rw [← hw7.out] at HZ7 HB7 HK7 hp6 ⊢
        have hp7 := hp6
        clear HZ HBW HKR hpv hp6
        have hz7 := HB7.out.size
        have HO7 := Lib.hid (HO.out.keep HB7.out.size (fun b hb _ => HB7.out.block b hb))
        have HOA := Lib.hid (HO7.out.alloc (.cells (tbC ⟨nv, pv, ⟨some ⟨rb, 0, none⟩, 1, 1⟩⟩).toArray 46))
        have HKA : Hid (Keep ([] ++ blkL (.slice Ao i co)) (w7.alloc (.cells (tbC ⟨nv, pv, ⟨some ⟨rb, 0, none⟩, 1, 1⟩⟩).toArray 46)) fun u => RdRu u (.slice (some ⟨rb, 0, none⟩) 1 1) [casR i]) := Lib.hid ((HK7.out.mono (fun b hb => List.mem_cons_of_mem _ hb)).step (by simp) (fun b hlt hX => ⟨Below.heap_alloc w7 _ b hlt, hX⟩))
        go_wp2_with (first
          | (refine wpList_load_row rfl 46 (.tmp 6) rfl (rb + 1) rfl 46 #[.string nv, .string pv, .slice (some ⟨rb, 0, none⟩) 1 1] (0, 0) _ HZ7.out Tryd.underlying46 rfl (by rw [table_size]; rfl) ?_)
          | (at_builtin; go_loud (refine wpList_appAt rfl (.tmp 42) (.tmp 44) 39 46 rfl Tryd.underlying39 _ tbC 3 56 table_info rfl (by decide) tbC_len tbC_one w.heap.size (.slice Ao i co) xs rfl HOA.out.own (.slice (some ⟨w7.heap.size, 0, none⟩) 1 1) [⟨nv, pv, ⟨some ⟨rb, 0, none⟩, 1, 1⟩⟩] rfl (rdE_one_at tbC 3 tbC_len w7 _ rfl ⟨nv, pv, ⟨some ⟨rb, 0, none⟩, 1, 1⟩⟩ 46) (by simp only [List.length_singleton]; have := hxl.out; omega) (by decide) (by simp; have := HB.out.size; omega) ?_; intro v9 w9 hown9 hbel9 hgr9 hat9; obtain ⟨A9, c9, hv9⟩ := own_shape hown9; rw [List.length_append, hxl.out] at hv9; subst hv9)))
        have HP9 : Hid (TR 46 [] w.heap.size w9 (.slice A9 (i + 1) c9) (casT (i + 1)) (xs ++ [⟨nv, pv, ⟨some ⟨rb, 0, none⟩, 1, 1⟩⟩])) := by
          have h := HOA.out.push ⟨nv, pv, [casR i]⟩ ⟨nv, pv, ⟨some ⟨rb, 0, none⟩, 1, 1⟩⟩ rfl rfl HKA.out hown9 hgr9 hat9
          rw [HT.out, ← casT_succ] at h
          exact h
        have hbn := hbel9 w.heap.size (w7.alloc (.cells (tbC ⟨nv, pv, ⟨some ⟨rb, 0, none⟩, 1, 1⟩⟩).toArray 46)) (Nat.le_refl _) (Below.refl _ _)
        have hbn2 := ((Below.refl w.heap.size w7).alloc (by have := HB.out.size; omega) (.cells (tbC ⟨nv, pv, ⟨some ⟨rb, 0, none⟩, 1, 1⟩⟩).toArray 46)).trans hbn
        have HB9 : Hid (Below w.heap.size w w9) := Lib.hid ((HB.out.trans (HB7.out.mono HB.out.size)).trans hbn2)
        clear hown9 hbel9 hgr9 hat9 hbn hbn2 HOA HKA HO HO7 HK7 HZ7 HB7 HB HT hnv
        go_wp2_with fail
        go_roundg (n - (i + 1))
        case measure => omega
        case rel => exact ⟨i + 1, xs ++ [TbV.mk nv pv ⟨some ⟨rb, 0, none⟩, 1, 1⟩], A9, c9, rfl, rfl, by omega, HP9.out, HB9.out, by omega⟩
    · obtain rfl : i = n := by omega
      obtain ⟨m, rfl⟩ : ∃ m, i = m + 1 := ⟨i - 1, by omega⟩
      have hm6 : m ≤ 5 := by omega
      have HX := Lib.hid (HO.out.own.rd tbC_len)
      have hxl : Hid (xs.length = m + 1) := HO.out.len.trans (casT_len _)
      obtain ⟨b, o, rfl, hbl, hcell⟩ := HX.out.cells (by rw [hxl.out]; omega)
      have hcl : wr.cell? ⟨b, o + m * 3, none⟩ = some (.string (casN m)) := by
        have hml : m < xs.length := by rw [hxl.out]; omega
        have hx := List.getElem?_eq_getElem hml
        have h := hcell m xs[m] 0 (.string xs[m].nm) hx rfl
        rw [(HO.out.each m xs[m] (casOne m) hx (casT_get _ _ (by omega))).1] at h
        exact h
      have HV := Lib.hid (segResolve_any (casT (m + 1)) (.slice (some ⟨b, o, none⟩) (m + 1) co) (casN m) wr HO.out.rd (casT_in (m + 1) (by omega)))
      unfold RetRes at HV
      have hl : 4 < m + 1 → (resF (casT (m + 1)) (casN m)).2 = 3 := fun h => cas_long (m + 1) h h6
      have hs := fun h => cas_short (m + 1) (by omega) h
      rw [Nat.add_sub_cancel] at hs
      generalize resF (casT (m + 1)) (casN m) = r at HV hl hs
      obtain ⟨rs, k⟩ := r
      simp only at HV hl hs
      generalize casN m = nm at HV hcl
      clear HX HO hcell hgk hxl
      have HB2 := Lib.hid (fun (u : World) (h : Below wr.heap.size wr u) => HB.out.trans (h.mono HB.out.size))
      by_cases hn4 : 4 < m + 1
      · have hk : k = 3 := hl hn4
        subst hk
        clear hl hs
        have hn4i : (3 : Int) < (m : Int) := by omega
        have hn4j : (4 : Int) < (m : Int) + 1 := by omega
        go_wp2_with (first
          | (go_at_call 39; refine HV.out.mono ?_; rintro e w2 ⟨v, rfl, hrr, hb2⟩)
          | (go_at_call 17; refine (HK.out _ (HB2.out _ hb2)).mono ?_; rintro e w3 ⟨rfl, hb3⟩))
        all_goals
          go_ret
          exact ⟨rfl, (HB2.out _ hb2).trans (hb3.mono (HB2.out _ hb2).size)⟩
      · obtain ⟨hk, hlen, hbf⟩ := hs (by omega)
        subst hk
        clear hl
        have HBF := Lib.hid hbf
        clear hbf
        have hn4i : ¬ (3 : Int) < (m : Int) := by omega
        have hn4j : ¬ (4 : Int) < (m : Int) + 1 := by omega
        have hlen2 := Lib.hid hlen
        clear hlen hs
        go_upto_region 16 with (go_at_call 39; refine HV.out.mono ?_; rintro e w2 ⟨v, rfl, hrr, hb2⟩; obtain ⟨ys, hy1, hy2, hy3⟩ := hrr; obtain ⟨A2, c2, hv, _⟩ := hy1.shape; rw [hy2, hlen2.out] at hv; subst hv; have HY1 := Lib.hid hy1; have HY2 := Lib.hid hy2; have HY3 := Lib.hid hy3; have HBW := Lib.hid hb2; clear hy1 hy2 hy3 hb2)
        go_wp2_with fail
        go_loopg [9, 74] (m + 1) (fun gk iv jv wx => ∃ j : Nat, jv = .int .i64 j ∧ j ≤ m + 1 ∧ wx = w2 ∧ m + 1 - j ≤ gk)
        case atStart => exact ⟨0, rfl, by omega, rfl, by omega⟩
        case round =>
          obtain ⟨j, rfl, hj, rfl, hgk⟩ := hrel
          by_cases hjm : j < m + 1
          · have hji : (j : Int) < (m : Int) + 1 := by omega
            have hj0 : (0 : Int) ≤ (j : Int) := by omega
            obtain ⟨b2, o2, rfl, hb2l, hcell2⟩ := HY1.out.cells (by rw [HY2.out, hlen2.out]; omega)
            have hjl : j < ys.length := by rw [HY2.out, hlen2.out]; omega
            have hjr : j < rs.length := by rw [hlen2.out]; omega
            have hyk : ys[j]? = some ys[j] := List.getElem?_eq_getElem hjl
            have hrk : rs[j]? = some rs[j] := List.getElem?_eq_getElem hjr
            obtain ⟨_, hbf, _⟩ := HY3.out _ _ _ hyk hrk
            obtain ⟨A3, c3, hv3, _⟩ := hbf.shape
            have hle := HBF.out _ _ hrk
            have hp1 : wr.cell? ⟨b2, o2 + (j * 3 + 1), none⟩ = some (.slice A3 (m - j) c3) := by
              have h := hcell2 j _ 1 _ hyk rfl
              rw [hv3, hle] at h
              exact h
            have hp2 : wr.cell? ⟨b2, o2 + j * 3 + 1, none⟩ = some (.slice A3 (m - j) c3) := by rw [Nat.add_assoc]; exact hp1
            have e3 : ((m - j : Nat) : Int) = (m : Int) - (j : Int) := by omega
            have hwj : IntKind.i64.wrap ((m : Int) - (j : Int)) = (m : Int) - (j : Int) := by rw [IntKind.wrap_i64]; omega
            have hjj : (j : Int) < (j : Int) + 1 := by omega
            clear hyk hrk hbf hle hcell2
            go_wp2_with fail
            go_roundg (m + 1 - (j + 1))
            case measure => omega
            case rel => exact ⟨j + 1, rfl, by omega, rfl, by omega⟩
          · obtain rfl : j = m + 1 := by omega
            go_wp2_with (go_at_call 17; refine (HK.out _ (HB2.out _ HBW.out)).mono ?_; rintro e w3 ⟨rfl, hb3⟩)
            go_ret
            exact ⟨rfl, (HB2.out _ HBW.out).trans (hb3.mono (HB2.out _ HBW.out).size)⟩

end Go.Proofs.YtpboaadjbkaidaaDoor
