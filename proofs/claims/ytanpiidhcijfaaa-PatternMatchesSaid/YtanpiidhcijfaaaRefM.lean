
/-
  The reference's reach.
-/
import Derived.Test.YtanpiidhcijfaaaMatchB
import Derived.Test.YtanpiidhcijfaaaStillK
namespace Go.Proofs.Ytanpiidhcijfaaa
open Go.RowKit

def bC (b : Bool) : List Value := [.bool b]
theorem bC_one (b : Bool) : ∀ u ∈ bC b, u.oneCell' = true := by
  intro u hu
  simp [bC] at hu
  subst hu
  rfl
def bRow (n : Nat) (f : Nat → Bool) : List Bool := (List.range n).map f
theorem bRow_len (n : Nat) (f : Nat → Bool) : (bRow n f).length = n := by simp [bRow]
theorem rd_pl {w : World} {v : Value} {n : Nat} {f : Nat → Bool} (h : RdE bC 1 w v (bRow n f)) (hn : 0 < n) : PlIn w v n f := by
  obtain ⟨A, c, hv, _, _, hc⟩ := h
  rw [bRow_len] at hv hc
  obtain ⟨b, o, rfl, hb, hx⟩ := hc hn
  exact ⟨b, o, c, hv, hb, fun j hj => by
    have := hx j (f j) 0 (.bool (f j)) (by simp [bRow, hj]) rfl
    rwa [show o + (j * 1 + 0) = o + j by omega] at this⟩
theorem row_rd {w : World} {g n : Nat} {f : Nat → Bool} (h : w.rowIs g 4 n (fun j => .bool (f j))) : RdE bC 1 w (.slice (some ⟨g, 0, none⟩) n n) (bRow n f) :=
  ⟨some ⟨g, 0, none⟩, n, by rw [bRow_len], by rw [bRow_len]; exact Nat.le_refl _, (fun e => by cases e), fun _ => ⟨g, 0, rfl, h.lt, fun i x j u hi hj => by
    have hin : i < n := by have := (List.getElem?_eq_some_iff.1 hi).1; rwa [bRow_len] at this
    have hxi : x = f i := by simp [bRow, hin] at hi; exact hi.symm
    have hj0 : j = 0 := by have := (List.getElem?_eq_some_iff.1 hj).1; simp [bC] at this; exact this
    subst hj0
    have hu : u = .bool x := by simp [bC] at hj; exact hj.symm
    rw [hu, hxi, show 0 + (i * 1 + 0) = i by omega]
    exact h.cell hin⟩⟩
theorem PlIn.setOther {w : World} {g o n c : Nat} {f : Nat → Bool} (h : PlIn w (.slice (some ⟨g, o, none⟩) n c) n f) {b j : Nat} (hb : g < b) (u : Value) : PlIn (w.setCell ⟨b, j, none⟩ u) (.slice (some ⟨g, o, none⟩) n c) n f := by
  obtain ⟨b', o', c', hv, hl, hc⟩ := h
  injection hv with h1 _ _
  injection h1 with h1
  injection h1 with h1 h2 _
  subst h1 h2
  exact ⟨_, _, _, rfl, by simpa [World.setCell] using hl, fun i hi => by
    rw [World.cell?_of_block (w := w) (Below.heap_setCell _ _ _ _ (show g ≠ b by omega))]
    exact hc i hi⟩
theorem pl_cell {w : World} {g o n c : Nat} {f : Nat → Bool} (h : PlIn w (.slice (some ⟨g, o, none⟩) n c) n f) (j : Nat) (hj : j < n) : w.cell? ⟨g, o + j, none⟩ = some (.bool (f j)) := by
  obtain ⟨b', o', c', hv, hl, hc⟩ := h
  injection hv with h1 _ _
  injection h1 with h1
  injection h1 with h1 h2 _
  subst h1 h2
  exact hc j hj

set_option maxRecDepth 100000 in
set_option maxHeartbeats 8000000 in
theorem rreach_any (l : List At) (s : ByteArray) (lv pv : Value) (f : Nat → Bool) (w : World) (hp : RdE atC 34 w lv l) (hpl : RdE bC 1 w pv (bRow (s.size + 1) f)) (hs : s.size ≤ 2147483648) (hl : l.length ≤ 140737488355328) :
    Calls Try.prog 41 #[lv, .string s, pv] w (RetReach w (s.size + 1) (reachF s l f)) := by
  obtain ⟨A, c, rfl, hlc, _⟩ := hp.shape
  have HP := Lib.hid hp
  clear hp
  have hu := Try.underlying37
  have hi : (Try.prog.info? 37).map (·.size) = some 34 := atom_size
  have hmk := fun w => run_make_row' (P := Try.prog) 60 4 (.bool false) 1 Try.underlying60 bool_info rfl .i64 .i64 (s.size + 1) (by omega) (by omega) w
  rw [show ((s.size + 1 : Nat) : Int) = (s.size : Int) + 1 by omega] at hmk
  obtain ⟨R, HRR⟩ : ∃ R, Hid (R = reachF s l f) := ⟨_, rfl⟩
  rw [← HRR.out]
  have HPL := Lib.hid hpl
  have HR0 : Hid (reachF s (l.drop 0) f = R) := by show _ = _; rw [HRR.out]; rfl
  clear hpl HRR
  go_enter Try.func41, Try.ntmps41
  go_upto_region 2 with (refine wpList_appE rfl _ (.tmp 12) 60 4 rfl Try.underlying60 _ bC 1 1 bool_info rfl (by decide) (fun _ => rfl) bC_one w.heap.size (.slice none 0 0) [] rfl OwnE.nil _ _ rfl HPL.out (by rw [bRow_len]; simp only [List.length_nil]; omega) (by decide) (Nat.le_refl _) ?_; intro v1 w1 hown1 hbel1 hgrow1)
  have HG0 : Hid (PlIn w1 v1 (s.size + 1) f) := rd_pl (OwnE.rd (fun _ => rfl) hown1) (by omega)
  have HB0 := Lib.hid (hbel1 w.heap.size w (Nat.le_refl _) (Below.refl _ _))
  clear hown1 hbel1 hgrow1 HPL
  go_wp2_with fail
  go_loopg [7, 16] l.length (fun n av kv wr => ∃ (k : Nat) (g : Nat → Bool), kv = .int .i64 k ∧ k ≤ l.length ∧ Hid (PlIn wr av (s.size + 1) g) ∧ Hid (reachF s (l.drop k) g = R) ∧ Hid (Below w.heap.size w wr) ∧ l.length - k ≤ n)
  case atStart => exact ⟨0, f, rfl, by omega, HG0.out, HR0.out, HB0.out, by omega⟩
  case round =>
    clear HG0 HB0 HR0
    obtain ⟨k, g, rfl, hk, HG, HX, HB, hgk⟩ := hrel
    by_cases hkl : k < l.length
    · have hki : (k : Int) < (l.length : Int) := by omega
      have hk0 : (0 : Int) ≤ (k : Int) := by omega
      obtain ⟨b, o, rfl, hbl, hcell⟩ := HP.out.cells (by omega)
      have hx : l[k]? = some l[k] := List.getElem?_eq_getElem hkl
      have HX2 : Hid (reachF s (l.drop (k + 1)) (advF l[k] s g) = R) := by
        have h := HX.out
        rw [List.drop_eq_getElem_cons hkl] at h
        exact h
      have HCL : Hid (∀ j v, (atC l[k])[j]? = some v → w.cell? ⟨b, o + k * 34 + j, none⟩ = some v) := fun j v hj => by
        rw [Nat.add_assoc]
        exact hcell k _ j v hx hj
      clear HX hx hcell
      generalize l[k] = x at HX2 HCL
      obtain ⟨hub, HU⟩ : ∃ hub : World, Hid (hub = wr) := ⟨wr, rfl⟩
      clear HU hub
      have hzr := HB.out.size
      obtain ⟨ba, oa, ca, rfl, hba, hca⟩ := HG.out
      go_upto_region 6 with fail
      obtain ⟨N, HN⟩ : ∃ N, Hid (N = wr.heap.size) := ⟨_, rfl⟩
      have hN : w.heap.size ≤ N := by rw [HN.out]; exact hzr
      have hbaN : ba < N := by rw [HN.out]; exact hba
      have HR1 : Hid ((wr.alloc (.cells (madeCells #[.bool false] (s.size + 1)) 4)).rowIs N 4 (s.size + 1) (fun j => .bool (if j ≤ 0 then nxF x s g j else false))) := by
        have h := World.rowIs_made wr (.bool false) (s.size + 1) 4
        rw [← HN.out] at h
        exact h.congr fun j _ => by
          by_cases h0 : j ≤ 0
          · rw [if_pos h0, show j = 0 by omega]; rfl
          · rw [if_neg h0]
      have HG1 : Hid (PlIn (wr.alloc (.cells (madeCells #[.bool false] (s.size + 1)) 4)) (.slice (some ⟨ba, oa, none⟩) (s.size + 1) ca) (s.size + 1) g) := HG.out.below ((Below.refl _ wr).alloc (Nat.le_refl _) _) (Nat.le_refl _)
      have HB1 : Hid (Below w.heap.size w (wr.alloc (.cells (madeCells #[.bool false] (s.size + 1)) 4))) := HB.out.alloc hzr _
      rw [← HN.out]
      clear HG HB hzr hba hca
      generalize wr.alloc (.cells (madeCells #[.bool false] (s.size + 1)) 4) = w2 at HR1 HG1 HB1 ⊢
      clear HN
      go_wp2_with fail
      obtain ⟨wo, rfl⟩ : ∃ wo : World, wo = w2 := ⟨_, rfl⟩
      go_loopg [10] s.size (fun n iv wr => ∃ i : Nat, i ≤ s.size ∧ iv = .int .i64 i ∧ Hid (wr.rowIs N 4 (s.size + 1) (fun j => .bool (if j ≤ i then nxF x s g j else false))) ∧ Hid (PlIn wr (.slice (some ⟨ba, oa, none⟩) (s.size + 1) ca) (s.size + 1) g) ∧ Hid (Below w.heap.size w wr) ∧ s.size - i ≤ n)
      case atStart => exact ⟨0, by omega, rfl, HR1.out, HG1.out, HB1.out, by omega⟩
      case round =>
        clear HR1 HG1 HB1
        obtain ⟨i, hi1, rfl, HR, HG, HB, hgi⟩ := hrel
        by_cases hil : i < s.size
        · have hii : (i : Int) < (s.size : Int) := by omega
          have hi0 : (0 : Int) ≤ (i : Int) := by omega
          have hi2 : (i : Int) < (s.size : Int) + 1 := by omega
          have hi3 : (i : Int) + 1 < (s.size : Int) + 1 := by omega
          have hbl2 : b < wr.heap.size := Nat.lt_of_lt_of_le hbl HB.out.size
          have hrg0 : wr.rangeAt b (o + k * 34) (atC x) := fun j v hj => (HB.out.cell (p := ⟨b, o + k * 34 + j, none⟩) hbl).trans (HCL.out j v hj)
          have hrg : wr.drew.rangeAt b (o + k * 34) (atC x) := hrg0
          have qm : wr.cell? ⟨b, o + k * 34 + 33, none⟩ = some (.bool x.many) := hrg0 33 _ (atC_many x)
          have qa : wr.cell? ⟨ba, oa + i, none⟩ = some (.bool (g i)) := pl_cell HG.out i (by omega)
          have qn := HR.out.cell (i := i) (by omega)
          rw [if_pos (Nat.le_refl _)] at qn
          clear hrg0
          have hia : (Instr.indexAt 26 (.slice (some ⟨b, o, none⟩) l.length c) (.int .i64 k)).run Try.prog wr.drew = .ok (.pointer (some ⟨b, o + k * 34, none⟩)) wr.drew := by go_simp
          have hfa : (Instr.fieldAt 37 (.pointer (some ⟨b, o + k * 34, none⟩)) 2).run Try.prog wr.drew = .ok (.pointer (some ⟨b, o + k * 34 + 33, none⟩)) wr.drew := by go_simp
          have hla := run_loadAt_mid (P := Try.prog) wr.drew b (o + k * 34) 37 (atC x) _ hrg hu rfl (by rw [hi, atC_len])
          have HIA := Lib.hid hia
          have HFA := Lib.hid hfa
          have HLA := Lib.hid hla
          clear hia hfa hla
          obtain ⟨px, HPX⟩ : ∃ px : Bool, Hid (px = x.p (s[i].toNat)) := ⟨x.p (s[i].toNat), rfl⟩
          have HC := Lib.hid (fun w => rcontains_any x (s[i].toNat) w (UInt8.toNat_lt _))
          rw [← HPX.out] at HC
          have HV1 : Hid (nxF x s g (i + 1) = ((g i || (x.many && nxF x s g i)) && px)) := by
            show _ = _
            rw [HPX.out, ← bt_get s i hil]
            rfl
          clear HPX
          obtain ⟨ni, HNI⟩ : ∃ ni, Hid (ni = nxF x s g i) := ⟨_, rfl⟩
          obtain ⟨fi, HFI⟩ : ∃ fi, Hid (fi = g i) := ⟨_, rfl⟩
          obtain ⟨mm, HMM⟩ : ∃ mm, Hid (mm = x.many) := ⟨_, rfl⟩
          rw [← HNI.out] at qn HV1
          rw [← HFI.out] at qa HV1
          rw [← HMM.out] at qm HV1
          clear HNI HFI HMM
          go_upto_region 9 with fail
          cases fi with
          | true =>
            have HV0 : Hid (nxF x s g (i + 1) = (true && px)) := HV1.out
            clear HV1
            refine sw_region_tail 25 (by kernel_rfl) (by kernel_rfl) rfl rfl ?_
            refine sw_take (some 29) rfl (by kernel_rfl) (.slice (some ⟨ba, oa, none⟩) (s.size + 1) ca) (ex_move _ _ rfl (by kernel_rfl)) ?_
            simp only [Act.put, List.setIfInBounds_toArray, List.set_cons_zero, List.set_cons_succ]
            refine sw_take (some 30) rfl (by kernel_rfl) (.int .i64 i) (ex_move _ _ rfl (by kernel_rfl)) ?_
            simp only [Act.put, List.setIfInBounds_toArray, List.set_cons_zero, List.set_cons_succ]
            refine sw_take (some 31) rfl (by kernel_rfl) (.pointer (some ⟨ba, oa + i, none⟩)) (ex_indexAddr 60 _ _ (.slice (some ⟨ba, oa, none⟩) (s.size + 1) ca) (.int .i64 i) _ rfl (by kernel_rfl) (by kernel_rfl) (by go_simp)) ?_
            simp only [Act.put, List.setIfInBounds_toArray, List.set_cons_zero, List.set_cons_succ]
            refine sw_take (some 32) rfl (by kernel_rfl) (.bool true) (ex_load 4 _ (.pointer (some ⟨ba, oa + i, none⟩)) _ rfl (by kernel_rfl) (by go_simp)) ?_
            simp only [Act.put, List.setIfInBounds_toArray, List.set_cons_zero, List.set_cons_succ]
            refine sw_take (some 33) rfl (by kernel_rfl) (.bool true) (ex_move _ _ rfl (by kernel_rfl)) ?_
            simp only [Act.put, List.setIfInBounds_toArray, List.set_cons_zero, List.set_cons_succ]
            refine sw_pass (some 34) rfl (by kernel_rfl) ?_
            simp only [Act.put, List.setIfInBounds_toArray, List.set_cons_zero, List.set_cons_succ]
            refine sw_pass (some 35) rfl (by kernel_rfl) ?_
            simp only [Act.put, List.setIfInBounds_toArray, List.set_cons_zero, List.set_cons_succ]
            refine sw_pass (some 36) rfl (by kernel_rfl) ?_
            simp only [Act.put, List.setIfInBounds_toArray, List.set_cons_zero, List.set_cons_succ]
            refine sw_pass (some 37) rfl (by kernel_rfl) ?_
            simp only [Act.put, List.setIfInBounds_toArray, List.set_cons_zero, List.set_cons_succ]
            refine sw_pass (some 38) rfl (by kernel_rfl) ?_
            simp only [Act.put, List.setIfInBounds_toArray, List.set_cons_zero, List.set_cons_succ]
            refine sw_pass (some 39) rfl (by kernel_rfl) ?_
            simp only [Act.put, List.setIfInBounds_toArray, List.set_cons_zero, List.set_cons_succ]
            refine sw_pass (some 40) rfl (by kernel_rfl) ?_
            simp only [Act.put, List.setIfInBounds_toArray, List.set_cons_zero, List.set_cons_succ]
            refine sw_pass (some 41) rfl (by kernel_rfl) ?_
            simp only [Act.put, List.setIfInBounds_toArray, List.set_cons_zero, List.set_cons_succ]
            refine sw_pass (some 42) rfl (by kernel_rfl) ?_
            simp only [Act.put, List.setIfInBounds_toArray, List.set_cons_zero, List.set_cons_succ]
            refine sw_pass (some 43) rfl (by kernel_rfl) ?_
            simp only [Act.put, List.setIfInBounds_toArray, List.set_cons_zero, List.set_cons_succ]
            refine sw_pass (some 44) rfl (by kernel_rfl) ?_
            simp only [Act.put, List.setIfInBounds_toArray, List.set_cons_zero, List.set_cons_succ]
            refine sw_take (some 45) rfl (by kernel_rfl) (.bool true) (ex_pick _ _ _ true (.bool true) (undef) rfl (by kernel_rfl) (by kernel_rfl) (by kernel_rfl)) ?_
            simp only [Act.put, List.setIfInBounds_toArray, List.set_cons_zero, List.set_cons_succ]
            refine sw_take (some 46) rfl (by kernel_rfl) (.bool true) (ex_move _ _ rfl (by kernel_rfl)) ?_
            simp only [Act.put, List.setIfInBounds_toArray, List.set_cons_zero, List.set_cons_succ]
            refine sw_take (some 47) rfl (by kernel_rfl) (.slice (some ⟨b, o, none⟩) l.length c) (ex_move _ _ rfl (by kernel_rfl)) ?_
            simp only [Act.put, List.setIfInBounds_toArray, List.set_cons_zero, List.set_cons_succ]
            refine sw_take (some 48) rfl (by kernel_rfl) (.int .i64 k) (ex_move _ _ rfl (by kernel_rfl)) ?_
            simp only [Act.put, List.setIfInBounds_toArray, List.set_cons_zero, List.set_cons_succ]
            refine sw_take (some 49) rfl (by kernel_rfl) (.pointer (some ⟨b, o + k * 34, none⟩)) (ex_indexAddr 26 _ _ (.slice (some ⟨b, o, none⟩) l.length c) (.int .i64 k) _ rfl (by kernel_rfl) (by kernel_rfl) (HIA.out)) ?_
            simp only [Act.put, List.setIfInBounds_toArray, List.set_cons_zero, List.set_cons_succ]
            refine sw_take (some 50) rfl (by kernel_rfl) (.agg (atC x).toArray) (ex_load 37 _ (.pointer (some ⟨b, o + k * 34, none⟩)) _ rfl (by kernel_rfl) (HLA.out)) ?_
            simp only [Act.put, List.setIfInBounds_toArray, List.set_cons_zero, List.set_cons_succ]
            refine sw_take (some 51) rfl (by kernel_rfl) (.string s) (ex_move _ _ rfl (by kernel_rfl)) ?_
            simp only [Act.put, List.setIfInBounds_toArray, List.set_cons_zero, List.set_cons_succ]
            refine sw_take (some 52) rfl (by kernel_rfl) (.int .i64 i) (ex_move _ _ rfl (by kernel_rfl)) ?_
            simp only [Act.put, List.setIfInBounds_toArray, List.set_cons_zero, List.set_cons_succ]
            refine sw_take (some 53) rfl (by kernel_rfl) (.int .u8 (s[i].toNat)) (ex_index 9 _ _ (.string s) (.int .i64 i) _ rfl (by kernel_rfl) (by kernel_rfl) (by go_simp)) ?_
            simp only [Act.put, List.setIfInBounds_toArray, List.set_cons_zero, List.set_cons_succ]
            refine sw_nil ?_
            change wpList _ _ _ _ _ wr.drew
            have HR6 : Hid (wr.drew.rowIs N 4 (s.size + 1) (fun j => .bool (if j ≤ i then nxF x s g j else false))) := HR.out.drew
            have HG6 : Hid (PlIn wr.drew (.slice (some ⟨ba, oa, none⟩) (s.size + 1) ca) (s.size + 1) g) := HG.out
            have HB6 : Hid (Below w.heap.size w wr.drew) := HB.out.drew
            clear HR HG HB hrg qa qn qm
            generalize wr.drew = w6 at HR6 HG6 HB6 ⊢
            have hz6 := HR6.out.lt
            go_upto_if 55 with (go_at_call 57; refine (HC.out _).mono ?_; rintro e w7 ⟨rfl, hb7⟩)
            have HR7 := Lib.hid (HR6.out.of_block (hb7.block _ hz6))
            have HG7 := Lib.hid (HG6.out.below hb7 (Nat.le_refl _))
            have HB7 := Lib.hid (HB6.out.trans (hb7.mono HB6.out.size))
            clear HR6 HG6 HB6 hb7 HC
            have r0 := HR7.out.cell (i := i + 1) (by omega)
            have rf := HR7.out.frozen (i + 1)
            rw [if_neg (by omega)] at r0
            cases px with
            | false =>
              have HV : Hid (nxF x s g (i + 1) = false) := by show _ = _; rw [HV0.out]; exact Bool.and_false _
              clear r0 rf
              go_wp2_with fail
              have HRE : Hid (w7.rowIs N 4 (s.size + 1) (fun j => .bool (if j ≤ i + 1 then nxF x s g j else false))) := HR7.out.congr fun j hj => by
                by_cases h1 : j = i + 1
                · rw [if_neg (by omega), if_pos (by omega), h1, HV.out]
                · by_cases h2 : j ≤ i
                  · rw [if_pos h2, if_pos (by omega)]
                  · rw [if_neg h2, if_neg (by omega)]
              go_roundg (s.size - (i + 1))
              case measure => omega
              case rel => exact ⟨i + 1, by omega, by go_num, HRE.out, HG7.out, HB7.out, Nat.le_refl _⟩
            | true =>
              have HV : Hid (nxF x s g (i + 1) = true) := by show _ = _; rw [HV0.out]; exact Bool.and_true _
              go_wp2_with fail
              have HRE : Hid ((w7.setCell ⟨N, i + 1, none⟩ (.bool true)).rowIs N 4 (s.size + 1) (fun j => .bool (if j ≤ i + 1 then nxF x s g j else false))) := (HR7.out.set (i + 1) (.bool true)).congr fun j hj => by
                by_cases h1 : j = i + 1
                · rw [if_pos h1, if_pos (by omega), h1, HV.out]
                · by_cases h2 : j ≤ i
                  · rw [if_neg h1, if_pos h2, if_pos (by omega)]
                  · rw [if_neg h1, if_neg h2, if_neg (by omega)]
              go_roundg (s.size - (i + 1))
              case measure => omega
              case rel => exact ⟨i + 1, by omega, by go_num, HRE.out, HG7.out.setOther (by omega) _, HB7.out.setCell (p := ⟨N, i + 1, none⟩) hN _, Nat.le_refl _⟩
          | false =>
            cases mm with
            | false =>
              have HV : Hid (nxF x s g (i + 1) = false) := HV1.out
              refine sw_region_tail 25 (by kernel_rfl) (by kernel_rfl) rfl rfl ?_
              refine sw_take (some 29) rfl (by kernel_rfl) (.slice (some ⟨ba, oa, none⟩) (s.size + 1) ca) (ex_move _ _ rfl (by kernel_rfl)) ?_
              simp only [Act.put, List.setIfInBounds_toArray, List.set_cons_zero, List.set_cons_succ]
              refine sw_take (some 30) rfl (by kernel_rfl) (.int .i64 i) (ex_move _ _ rfl (by kernel_rfl)) ?_
              simp only [Act.put, List.setIfInBounds_toArray, List.set_cons_zero, List.set_cons_succ]
              refine sw_take (some 31) rfl (by kernel_rfl) (.pointer (some ⟨ba, oa + i, none⟩)) (ex_indexAddr 60 _ _ (.slice (some ⟨ba, oa, none⟩) (s.size + 1) ca) (.int .i64 i) _ rfl (by kernel_rfl) (by kernel_rfl) (by go_simp)) ?_
              simp only [Act.put, List.setIfInBounds_toArray, List.set_cons_zero, List.set_cons_succ]
              refine sw_take (some 32) rfl (by kernel_rfl) (.bool false) (ex_load 4 _ (.pointer (some ⟨ba, oa + i, none⟩)) _ rfl (by kernel_rfl) (by go_simp)) ?_
              simp only [Act.put, List.setIfInBounds_toArray, List.set_cons_zero, List.set_cons_succ]
              refine sw_take (some 33) rfl (by kernel_rfl) (.bool false) (ex_move _ _ rfl (by kernel_rfl)) ?_
              simp only [Act.put, List.setIfInBounds_toArray, List.set_cons_zero, List.set_cons_succ]
              refine sw_take (some 34) rfl (by kernel_rfl) (.slice (some ⟨b, o, none⟩) l.length c) (ex_move _ _ rfl (by kernel_rfl)) ?_
              simp only [Act.put, List.setIfInBounds_toArray, List.set_cons_zero, List.set_cons_succ]
              refine sw_take (some 35) rfl (by kernel_rfl) (.int .i64 k) (ex_move _ _ rfl (by kernel_rfl)) ?_
              simp only [Act.put, List.setIfInBounds_toArray, List.set_cons_zero, List.set_cons_succ]
              refine sw_take (some 36) rfl (by kernel_rfl) (.pointer (some ⟨b, o + k * 34, none⟩)) (ex_indexAddr 26 _ _ (.slice (some ⟨b, o, none⟩) l.length c) (.int .i64 k) _ rfl (by kernel_rfl) (by kernel_rfl) (HIA.out)) ?_
              simp only [Act.put, List.setIfInBounds_toArray, List.set_cons_zero, List.set_cons_succ]
              refine sw_take (some 37) rfl (by kernel_rfl) (.pointer (some ⟨b, o + k * 34 + 33, none⟩)) (ex_fieldAddr 37 _ 2 (.pointer (some ⟨b, o + k * 34, none⟩)) _ rfl (by kernel_rfl) (HFA.out)) ?_
              simp only [Act.put, List.setIfInBounds_toArray, List.set_cons_zero, List.set_cons_succ]
              refine sw_take (some 38) rfl (by kernel_rfl) (.bool false) (ex_load 4 _ (.pointer (some ⟨b, o + k * 34 + 33, none⟩)) _ rfl (by kernel_rfl) (by go_simp)) ?_
              simp only [Act.put, List.setIfInBounds_toArray, List.set_cons_zero, List.set_cons_succ]
              refine sw_take (some 39) rfl (by kernel_rfl) (.bool false) (ex_move _ _ rfl (by kernel_rfl)) ?_
              simp only [Act.put, List.setIfInBounds_toArray, List.set_cons_zero, List.set_cons_succ]
              refine sw_pass (some 40) rfl (by kernel_rfl) ?_
              simp only [Act.put, List.setIfInBounds_toArray, List.set_cons_zero, List.set_cons_succ]
              refine sw_pass (some 41) rfl (by kernel_rfl) ?_
              simp only [Act.put, List.setIfInBounds_toArray, List.set_cons_zero, List.set_cons_succ]
              refine sw_pass (some 42) rfl (by kernel_rfl) ?_
              simp only [Act.put, List.setIfInBounds_toArray, List.set_cons_zero, List.set_cons_succ]
              refine sw_pass (some 43) rfl (by kernel_rfl) ?_
              simp only [Act.put, List.setIfInBounds_toArray, List.set_cons_zero, List.set_cons_succ]
              refine sw_take (some 44) rfl (by kernel_rfl) (.bool false) (ex_pick _ _ _ false (undef) (.bool false) rfl (by kernel_rfl) (by kernel_rfl) (by kernel_rfl)) ?_
              simp only [Act.put, List.setIfInBounds_toArray, List.set_cons_zero, List.set_cons_succ]
              refine sw_take (some 45) rfl (by kernel_rfl) (.bool false) (ex_pick _ _ _ false (.bool true) (.bool false) rfl (by kernel_rfl) (by kernel_rfl) (by kernel_rfl)) ?_
              simp only [Act.put, List.setIfInBounds_toArray, List.set_cons_zero, List.set_cons_succ]
              refine sw_take (some 46) rfl (by kernel_rfl) (.bool false) (ex_move _ _ rfl (by kernel_rfl)) ?_
              simp only [Act.put, List.setIfInBounds_toArray, List.set_cons_zero, List.set_cons_succ]
              refine sw_pass (some 47) rfl (by kernel_rfl) ?_
              simp only [Act.put, List.setIfInBounds_toArray, List.set_cons_zero, List.set_cons_succ]
              refine sw_pass (some 48) rfl (by kernel_rfl) ?_
              simp only [Act.put, List.setIfInBounds_toArray, List.set_cons_zero, List.set_cons_succ]
              refine sw_pass (some 49) rfl (by kernel_rfl) ?_
              simp only [Act.put, List.setIfInBounds_toArray, List.set_cons_zero, List.set_cons_succ]
              refine sw_pass (some 50) rfl (by kernel_rfl) ?_
              simp only [Act.put, List.setIfInBounds_toArray, List.set_cons_zero, List.set_cons_succ]
              refine sw_pass (some 51) rfl (by kernel_rfl) ?_
              simp only [Act.put, List.setIfInBounds_toArray, List.set_cons_zero, List.set_cons_succ]
              refine sw_pass (some 52) rfl (by kernel_rfl) ?_
              simp only [Act.put, List.setIfInBounds_toArray, List.set_cons_zero, List.set_cons_succ]
              refine sw_pass (some 53) rfl (by kernel_rfl) ?_
              simp only [Act.put, List.setIfInBounds_toArray, List.set_cons_zero, List.set_cons_succ]
              refine sw_nil ?_
              change wpList _ _ _ _ _ wr.drew
              have HR6 : Hid (wr.drew.rowIs N 4 (s.size + 1) (fun j => .bool (if j ≤ i then nxF x s g j else false))) := HR.out.drew
              have HG6 : Hid (PlIn wr.drew (.slice (some ⟨ba, oa, none⟩) (s.size + 1) ca) (s.size + 1) g) := HG.out
              have HB6 : Hid (Below w.heap.size w wr.drew) := HB.out.drew
              clear hrg qa qm qn HR HG HB
              generalize wr.drew = w6 at HR6 HG6 HB6 ⊢
              go_wp2_with fail
              have HRE : Hid (w6.rowIs N 4 (s.size + 1) (fun j => .bool (if j ≤ i + 1 then nxF x s g j else false))) := HR6.out.congr fun j hj => by
                by_cases h1 : j = i + 1
                · rw [if_neg (by omega), if_pos (by omega), h1, HV.out]
                · by_cases h2 : j ≤ i
                  · rw [if_pos h2, if_pos (by omega)]
                  · rw [if_neg h2, if_neg (by omega)]
              go_roundg (s.size - (i + 1))
              case measure => omega
              case rel => exact ⟨i + 1, by omega, by go_num, HRE.out, HG6.out, HB6.out, Nat.le_refl _⟩
            | true =>
              cases ni with
              | false =>
                have HV : Hid (nxF x s g (i + 1) = false) := HV1.out
                refine sw_region_tail 25 (by kernel_rfl) (by kernel_rfl) rfl rfl ?_
                refine sw_take (some 29) rfl (by kernel_rfl) (.slice (some ⟨ba, oa, none⟩) (s.size + 1) ca) (ex_move _ _ rfl (by kernel_rfl)) ?_
                simp only [Act.put, List.setIfInBounds_toArray, List.set_cons_zero, List.set_cons_succ]
                refine sw_take (some 30) rfl (by kernel_rfl) (.int .i64 i) (ex_move _ _ rfl (by kernel_rfl)) ?_
                simp only [Act.put, List.setIfInBounds_toArray, List.set_cons_zero, List.set_cons_succ]
                refine sw_take (some 31) rfl (by kernel_rfl) (.pointer (some ⟨ba, oa + i, none⟩)) (ex_indexAddr 60 _ _ (.slice (some ⟨ba, oa, none⟩) (s.size + 1) ca) (.int .i64 i) _ rfl (by kernel_rfl) (by kernel_rfl) (by go_simp)) ?_
                simp only [Act.put, List.setIfInBounds_toArray, List.set_cons_zero, List.set_cons_succ]
                refine sw_take (some 32) rfl (by kernel_rfl) (.bool false) (ex_load 4 _ (.pointer (some ⟨ba, oa + i, none⟩)) _ rfl (by kernel_rfl) (by go_simp)) ?_
                simp only [Act.put, List.setIfInBounds_toArray, List.set_cons_zero, List.set_cons_succ]
                refine sw_take (some 33) rfl (by kernel_rfl) (.bool false) (ex_move _ _ rfl (by kernel_rfl)) ?_
                simp only [Act.put, List.setIfInBounds_toArray, List.set_cons_zero, List.set_cons_succ]
                refine sw_take (some 34) rfl (by kernel_rfl) (.slice (some ⟨b, o, none⟩) l.length c) (ex_move _ _ rfl (by kernel_rfl)) ?_
                simp only [Act.put, List.setIfInBounds_toArray, List.set_cons_zero, List.set_cons_succ]
                refine sw_take (some 35) rfl (by kernel_rfl) (.int .i64 k) (ex_move _ _ rfl (by kernel_rfl)) ?_
                simp only [Act.put, List.setIfInBounds_toArray, List.set_cons_zero, List.set_cons_succ]
                refine sw_take (some 36) rfl (by kernel_rfl) (.pointer (some ⟨b, o + k * 34, none⟩)) (ex_indexAddr 26 _ _ (.slice (some ⟨b, o, none⟩) l.length c) (.int .i64 k) _ rfl (by kernel_rfl) (by kernel_rfl) (HIA.out)) ?_
                simp only [Act.put, List.setIfInBounds_toArray, List.set_cons_zero, List.set_cons_succ]
                refine sw_take (some 37) rfl (by kernel_rfl) (.pointer (some ⟨b, o + k * 34 + 33, none⟩)) (ex_fieldAddr 37 _ 2 (.pointer (some ⟨b, o + k * 34, none⟩)) _ rfl (by kernel_rfl) (HFA.out)) ?_
                simp only [Act.put, List.setIfInBounds_toArray, List.set_cons_zero, List.set_cons_succ]
                refine sw_take (some 38) rfl (by kernel_rfl) (.bool true) (ex_load 4 _ (.pointer (some ⟨b, o + k * 34 + 33, none⟩)) _ rfl (by kernel_rfl) (by go_simp)) ?_
                simp only [Act.put, List.setIfInBounds_toArray, List.set_cons_zero, List.set_cons_succ]
                refine sw_take (some 39) rfl (by kernel_rfl) (.bool true) (ex_move _ _ rfl (by kernel_rfl)) ?_
                simp only [Act.put, List.setIfInBounds_toArray, List.set_cons_zero, List.set_cons_succ]
                refine sw_take (some 40) rfl (by kernel_rfl) (.slice (some ⟨N, 0, none⟩) (s.size + 1) (s.size + 1)) (ex_move _ _ rfl (by kernel_rfl)) ?_
                simp only [Act.put, List.setIfInBounds_toArray, List.set_cons_zero, List.set_cons_succ]
                refine sw_take (some 41) rfl (by kernel_rfl) (.int .i64 i) (ex_move _ _ rfl (by kernel_rfl)) ?_
                simp only [Act.put, List.setIfInBounds_toArray, List.set_cons_zero, List.set_cons_succ]
                refine sw_take (some 42) rfl (by kernel_rfl) (.pointer (some ⟨N, i, none⟩)) (ex_indexAddr 60 _ _ (.slice (some ⟨N, 0, none⟩) (s.size + 1) (s.size + 1)) (.int .i64 i) _ rfl (by kernel_rfl) (by kernel_rfl) (by go_simp)) ?_
                simp only [Act.put, List.setIfInBounds_toArray, List.set_cons_zero, List.set_cons_succ]
                refine sw_take (some 43) rfl (by kernel_rfl) (.bool false) (ex_load 4 _ (.pointer (some ⟨N, i, none⟩)) _ rfl (by kernel_rfl) (by go_simp)) ?_
                simp only [Act.put, List.setIfInBounds_toArray, List.set_cons_zero, List.set_cons_succ]
                refine sw_take (some 44) rfl (by kernel_rfl) (.bool false) (ex_pick _ _ _ true (.bool false) (.bool false) rfl (by kernel_rfl) (by kernel_rfl) (by kernel_rfl)) ?_
                simp only [Act.put, List.setIfInBounds_toArray, List.set_cons_zero, List.set_cons_succ]
                refine sw_take (some 45) rfl (by kernel_rfl) (.bool false) (ex_pick _ _ _ false (.bool true) (.bool false) rfl (by kernel_rfl) (by kernel_rfl) (by kernel_rfl)) ?_
                simp only [Act.put, List.setIfInBounds_toArray, List.set_cons_zero, List.set_cons_succ]
                refine sw_take (some 46) rfl (by kernel_rfl) (.bool false) (ex_move _ _ rfl (by kernel_rfl)) ?_
                simp only [Act.put, List.setIfInBounds_toArray, List.set_cons_zero, List.set_cons_succ]
                refine sw_pass (some 47) rfl (by kernel_rfl) ?_
                simp only [Act.put, List.setIfInBounds_toArray, List.set_cons_zero, List.set_cons_succ]
                refine sw_pass (some 48) rfl (by kernel_rfl) ?_
                simp only [Act.put, List.setIfInBounds_toArray, List.set_cons_zero, List.set_cons_succ]
                refine sw_pass (some 49) rfl (by kernel_rfl) ?_
                simp only [Act.put, List.setIfInBounds_toArray, List.set_cons_zero, List.set_cons_succ]
                refine sw_pass (some 50) rfl (by kernel_rfl) ?_
                simp only [Act.put, List.setIfInBounds_toArray, List.set_cons_zero, List.set_cons_succ]
                refine sw_pass (some 51) rfl (by kernel_rfl) ?_
                simp only [Act.put, List.setIfInBounds_toArray, List.set_cons_zero, List.set_cons_succ]
                refine sw_pass (some 52) rfl (by kernel_rfl) ?_
                simp only [Act.put, List.setIfInBounds_toArray, List.set_cons_zero, List.set_cons_succ]
                refine sw_pass (some 53) rfl (by kernel_rfl) ?_
                simp only [Act.put, List.setIfInBounds_toArray, List.set_cons_zero, List.set_cons_succ]
                refine sw_nil ?_
                change wpList _ _ _ _ _ wr.drew
                have HR6 : Hid (wr.drew.rowIs N 4 (s.size + 1) (fun j => .bool (if j ≤ i then nxF x s g j else false))) := HR.out.drew
                have HG6 : Hid (PlIn wr.drew (.slice (some ⟨ba, oa, none⟩) (s.size + 1) ca) (s.size + 1) g) := HG.out
                have HB6 : Hid (Below w.heap.size w wr.drew) := HB.out.drew
                clear hrg qa qm qn HR HG HB
                generalize wr.drew = w6 at HR6 HG6 HB6 ⊢
                go_wp2_with fail
                have HRE : Hid (w6.rowIs N 4 (s.size + 1) (fun j => .bool (if j ≤ i + 1 then nxF x s g j else false))) := HR6.out.congr fun j hj => by
                  by_cases h1 : j = i + 1
                  · rw [if_neg (by omega), if_pos (by omega), h1, HV.out]
                  · by_cases h2 : j ≤ i
                    · rw [if_pos h2, if_pos (by omega)]
                    · rw [if_neg h2, if_neg (by omega)]
                go_roundg (s.size - (i + 1))
                case measure => omega
                case rel => exact ⟨i + 1, by omega, by go_num, HRE.out, HG6.out, HB6.out, Nat.le_refl _⟩
              | true =>
                have HV0 : Hid (nxF x s g (i + 1) = (true && px)) := HV1.out
                clear HV1
                refine sw_region_tail 25 (by kernel_rfl) (by kernel_rfl) rfl rfl ?_
                refine sw_take (some 29) rfl (by kernel_rfl) (.slice (some ⟨ba, oa, none⟩) (s.size + 1) ca) (ex_move _ _ rfl (by kernel_rfl)) ?_
                simp only [Act.put, List.setIfInBounds_toArray, List.set_cons_zero, List.set_cons_succ]
                refine sw_take (some 30) rfl (by kernel_rfl) (.int .i64 i) (ex_move _ _ rfl (by kernel_rfl)) ?_
                simp only [Act.put, List.setIfInBounds_toArray, List.set_cons_zero, List.set_cons_succ]
                refine sw_take (some 31) rfl (by kernel_rfl) (.pointer (some ⟨ba, oa + i, none⟩)) (ex_indexAddr 60 _ _ (.slice (some ⟨ba, oa, none⟩) (s.size + 1) ca) (.int .i64 i) _ rfl (by kernel_rfl) (by kernel_rfl) (by go_simp)) ?_
                simp only [Act.put, List.setIfInBounds_toArray, List.set_cons_zero, List.set_cons_succ]
                refine sw_take (some 32) rfl (by kernel_rfl) (.bool false) (ex_load 4 _ (.pointer (some ⟨ba, oa + i, none⟩)) _ rfl (by kernel_rfl) (by go_simp)) ?_
                simp only [Act.put, List.setIfInBounds_toArray, List.set_cons_zero, List.set_cons_succ]
                refine sw_take (some 33) rfl (by kernel_rfl) (.bool false) (ex_move _ _ rfl (by kernel_rfl)) ?_
                simp only [Act.put, List.setIfInBounds_toArray, List.set_cons_zero, List.set_cons_succ]
                refine sw_take (some 34) rfl (by kernel_rfl) (.slice (some ⟨b, o, none⟩) l.length c) (ex_move _ _ rfl (by kernel_rfl)) ?_
                simp only [Act.put, List.setIfInBounds_toArray, List.set_cons_zero, List.set_cons_succ]
                refine sw_take (some 35) rfl (by kernel_rfl) (.int .i64 k) (ex_move _ _ rfl (by kernel_rfl)) ?_
                simp only [Act.put, List.setIfInBounds_toArray, List.set_cons_zero, List.set_cons_succ]
                refine sw_take (some 36) rfl (by kernel_rfl) (.pointer (some ⟨b, o + k * 34, none⟩)) (ex_indexAddr 26 _ _ (.slice (some ⟨b, o, none⟩) l.length c) (.int .i64 k) _ rfl (by kernel_rfl) (by kernel_rfl) (HIA.out)) ?_
                simp only [Act.put, List.setIfInBounds_toArray, List.set_cons_zero, List.set_cons_succ]
                refine sw_take (some 37) rfl (by kernel_rfl) (.pointer (some ⟨b, o + k * 34 + 33, none⟩)) (ex_fieldAddr 37 _ 2 (.pointer (some ⟨b, o + k * 34, none⟩)) _ rfl (by kernel_rfl) (HFA.out)) ?_
                simp only [Act.put, List.setIfInBounds_toArray, List.set_cons_zero, List.set_cons_succ]
                refine sw_take (some 38) rfl (by kernel_rfl) (.bool true) (ex_load 4 _ (.pointer (some ⟨b, o + k * 34 + 33, none⟩)) _ rfl (by kernel_rfl) (by go_simp)) ?_
                simp only [Act.put, List.setIfInBounds_toArray, List.set_cons_zero, List.set_cons_succ]
                refine sw_take (some 39) rfl (by kernel_rfl) (.bool true) (ex_move _ _ rfl (by kernel_rfl)) ?_
                simp only [Act.put, List.setIfInBounds_toArray, List.set_cons_zero, List.set_cons_succ]
                refine sw_take (some 40) rfl (by kernel_rfl) (.slice (some ⟨N, 0, none⟩) (s.size + 1) (s.size + 1)) (ex_move _ _ rfl (by kernel_rfl)) ?_
                simp only [Act.put, List.setIfInBounds_toArray, List.set_cons_zero, List.set_cons_succ]
                refine sw_take (some 41) rfl (by kernel_rfl) (.int .i64 i) (ex_move _ _ rfl (by kernel_rfl)) ?_
                simp only [Act.put, List.setIfInBounds_toArray, List.set_cons_zero, List.set_cons_succ]
                refine sw_take (some 42) rfl (by kernel_rfl) (.pointer (some ⟨N, i, none⟩)) (ex_indexAddr 60 _ _ (.slice (some ⟨N, 0, none⟩) (s.size + 1) (s.size + 1)) (.int .i64 i) _ rfl (by kernel_rfl) (by kernel_rfl) (by go_simp)) ?_
                simp only [Act.put, List.setIfInBounds_toArray, List.set_cons_zero, List.set_cons_succ]
                refine sw_take (some 43) rfl (by kernel_rfl) (.bool true) (ex_load 4 _ (.pointer (some ⟨N, i, none⟩)) _ rfl (by kernel_rfl) (by go_simp)) ?_
                simp only [Act.put, List.setIfInBounds_toArray, List.set_cons_zero, List.set_cons_succ]
                refine sw_take (some 44) rfl (by kernel_rfl) (.bool true) (ex_pick _ _ _ true (.bool true) (.bool false) rfl (by kernel_rfl) (by kernel_rfl) (by kernel_rfl)) ?_
                simp only [Act.put, List.setIfInBounds_toArray, List.set_cons_zero, List.set_cons_succ]
                refine sw_take (some 45) rfl (by kernel_rfl) (.bool true) (ex_pick _ _ _ false (.bool true) (.bool true) rfl (by kernel_rfl) (by kernel_rfl) (by kernel_rfl)) ?_
                simp only [Act.put, List.setIfInBounds_toArray, List.set_cons_zero, List.set_cons_succ]
                refine sw_take (some 46) rfl (by kernel_rfl) (.bool true) (ex_move _ _ rfl (by kernel_rfl)) ?_
                simp only [Act.put, List.setIfInBounds_toArray, List.set_cons_zero, List.set_cons_succ]
                refine sw_take (some 47) rfl (by kernel_rfl) (.slice (some ⟨b, o, none⟩) l.length c) (ex_move _ _ rfl (by kernel_rfl)) ?_
                simp only [Act.put, List.setIfInBounds_toArray, List.set_cons_zero, List.set_cons_succ]
                refine sw_take (some 48) rfl (by kernel_rfl) (.int .i64 k) (ex_move _ _ rfl (by kernel_rfl)) ?_
                simp only [Act.put, List.setIfInBounds_toArray, List.set_cons_zero, List.set_cons_succ]
                refine sw_take (some 49) rfl (by kernel_rfl) (.pointer (some ⟨b, o + k * 34, none⟩)) (ex_indexAddr 26 _ _ (.slice (some ⟨b, o, none⟩) l.length c) (.int .i64 k) _ rfl (by kernel_rfl) (by kernel_rfl) (HIA.out)) ?_
                simp only [Act.put, List.setIfInBounds_toArray, List.set_cons_zero, List.set_cons_succ]
                refine sw_take (some 50) rfl (by kernel_rfl) (.agg (atC x).toArray) (ex_load 37 _ (.pointer (some ⟨b, o + k * 34, none⟩)) _ rfl (by kernel_rfl) (HLA.out)) ?_
                simp only [Act.put, List.setIfInBounds_toArray, List.set_cons_zero, List.set_cons_succ]
                refine sw_take (some 51) rfl (by kernel_rfl) (.string s) (ex_move _ _ rfl (by kernel_rfl)) ?_
                simp only [Act.put, List.setIfInBounds_toArray, List.set_cons_zero, List.set_cons_succ]
                refine sw_take (some 52) rfl (by kernel_rfl) (.int .i64 i) (ex_move _ _ rfl (by kernel_rfl)) ?_
                simp only [Act.put, List.setIfInBounds_toArray, List.set_cons_zero, List.set_cons_succ]
                refine sw_take (some 53) rfl (by kernel_rfl) (.int .u8 (s[i].toNat)) (ex_index 9 _ _ (.string s) (.int .i64 i) _ rfl (by kernel_rfl) (by kernel_rfl) (by go_simp)) ?_
                simp only [Act.put, List.setIfInBounds_toArray, List.set_cons_zero, List.set_cons_succ]
                refine sw_nil ?_
                change wpList _ _ _ _ _ wr.drew
                have HR6 : Hid (wr.drew.rowIs N 4 (s.size + 1) (fun j => .bool (if j ≤ i then nxF x s g j else false))) := HR.out.drew
                have HG6 : Hid (PlIn wr.drew (.slice (some ⟨ba, oa, none⟩) (s.size + 1) ca) (s.size + 1) g) := HG.out
                have HB6 : Hid (Below w.heap.size w wr.drew) := HB.out.drew
                clear HR HG HB hrg qa qn qm
                generalize wr.drew = w6 at HR6 HG6 HB6 ⊢
                have hz6 := HR6.out.lt
                go_upto_if 55 with (go_at_call 57; refine (HC.out _).mono ?_; rintro e w7 ⟨rfl, hb7⟩)
                have HR7 := Lib.hid (HR6.out.of_block (hb7.block _ hz6))
                have HG7 := Lib.hid (HG6.out.below hb7 (Nat.le_refl _))
                have HB7 := Lib.hid (HB6.out.trans (hb7.mono HB6.out.size))
                clear HR6 HG6 HB6 hb7 HC
                have r0 := HR7.out.cell (i := i + 1) (by omega)
                have rf := HR7.out.frozen (i + 1)
                rw [if_neg (by omega)] at r0
                cases px with
                | false =>
                  have HV : Hid (nxF x s g (i + 1) = false) := by show _ = _; rw [HV0.out]; exact Bool.and_false _
                  clear r0 rf
                  go_wp2_with fail
                  have HRE : Hid (w7.rowIs N 4 (s.size + 1) (fun j => .bool (if j ≤ i + 1 then nxF x s g j else false))) := HR7.out.congr fun j hj => by
                    by_cases h1 : j = i + 1
                    · rw [if_neg (by omega), if_pos (by omega), h1, HV.out]
                    · by_cases h2 : j ≤ i
                      · rw [if_pos h2, if_pos (by omega)]
                      · rw [if_neg h2, if_neg (by omega)]
                  go_roundg (s.size - (i + 1))
                  case measure => omega
                  case rel => exact ⟨i + 1, by omega, by go_num, HRE.out, HG7.out, HB7.out, Nat.le_refl _⟩
                | true =>
                  have HV : Hid (nxF x s g (i + 1) = true) := by show _ = _; rw [HV0.out]; exact Bool.and_true _
                  go_wp2_with fail
                  have HRE : Hid ((w7.setCell ⟨N, i + 1, none⟩ (.bool true)).rowIs N 4 (s.size + 1) (fun j => .bool (if j ≤ i + 1 then nxF x s g j else false))) := (HR7.out.set (i + 1) (.bool true)).congr fun j hj => by
                    by_cases h1 : j = i + 1
                    · rw [if_pos h1, if_pos (by omega), h1, HV.out]
                    · by_cases h2 : j ≤ i
                      · rw [if_neg h1, if_pos h2, if_pos (by omega)]
                      · rw [if_neg h1, if_neg h2, if_neg (by omega)]
                  go_roundg (s.size - (i + 1))
                  case measure => omega
                  case rel => exact ⟨i + 1, by omega, by go_num, HRE.out, HG7.out.setOther (by omega) _, HB7.out.setCell (p := ⟨N, i + 1, none⟩) hN _, Nat.le_refl _⟩
        · obtain rfl : i = s.size := by omega
          have hii : ¬ (s.size : Int) < (s.size : Int) := by omega
          have HR2 : Hid (wr.rowIs N 4 (s.size + 1) (fun j => .bool (if j < 0 then advF x s g j else nxF x s g j))) := HR.out.congr fun j hj => by rw [if_pos (by omega), if_neg (by omega)]
          clear HR
          go_wp2_with fail
          obtain ⟨wp, rfl⟩ : ∃ wp : World, wp = wr := ⟨_, rfl⟩
          go_loopg [62] (s.size + 1) (fun n iv wr => ∃ i : Nat, i ≤ s.size + 1 ∧ iv = .int .i64 i ∧ Hid (wr.rowIs N 4 (s.size + 1) (fun j => .bool (if j < i then advF x s g j else nxF x s g j))) ∧ Hid (PlIn wr (.slice (some ⟨ba, oa, none⟩) (s.size + 1) ca) (s.size + 1) g) ∧ Hid (Below w.heap.size w wr) ∧ s.size + 1 - i ≤ n)
          case atStart => exact ⟨0, by omega, rfl, HR2.out, HG.out, HB.out, by omega⟩
          case round =>
            clear HR2 HG HB
            obtain ⟨i, hi1, rfl, HR, HG, HB, hgi⟩ := hrel
            by_cases hil : i < s.size + 1
            · have hi2 : (i : Int) < (s.size : Int) + 1 := by omega
              have qm : wr.cell? ⟨b, o + k * 34 + 32, none⟩ = some (.int .i64 x.mn) := (HB.out.cell (p := ⟨b, o + k * 34 + 32, none⟩) hbl).trans (HCL.out 32 _ (atC_mn x))
              have qa : wr.cell? ⟨ba, oa + i, none⟩ = some (.bool (g i)) := pl_cell HG.out i (by omega)
              have qn := HR.out.cell (i := i) (by omega)
              rw [if_neg (Nat.lt_irrefl _)] at qn
              have rf := HR.out.frozen i
              have HV1 : Hid (advF x s g i = (nxF x s g i || (decide (x.mn ≤ 0) && g i))) := by
                show _ = _
                unfold advF
                congr 2
                rw [decide_eq_decide]
                omega
              obtain ⟨ni, HNI⟩ : ∃ ni, Hid (ni = nxF x s g i) := ⟨_, rfl⟩
              obtain ⟨fi, HFI⟩ : ∃ fi, Hid (fi = g i) := ⟨_, rfl⟩
              rw [← HNI.out] at qn HV1
              rw [← HFI.out] at qa HV1
              clear HNI HFI
              go_upto_region 14 with fail
              cases ni with
              | true =>
                have HV : Hid (advF x s g i = true) := HV1.out
                have HRE : Hid ((wr.setCell ⟨N, i, none⟩ (.bool true)).rowIs N 4 (s.size + 1) (fun j => .bool (if j < i + 1 then advF x s g j else nxF x s g j))) :=
                  (HR.out.set i (.bool true)).congr fun j hj => by
                    by_cases h1 : j = i
                    · rw [if_pos h1, h1, if_pos (by omega), HV.out]
                    · rw [if_neg h1]
                      by_cases h2 : j < i
                      · rw [if_pos h2, if_pos (by omega)]
                      · rw [if_neg h2, if_neg (by omega)]
                go_wp2_with fail
                go_roundg (s.size + 1 - (i + 1))
                case measure => omega
                case rel => exact ⟨i + 1, by omega, by go_num, HRE.out, HG.out.setOther (by omega) _, HB.out.setCell (p := ⟨N, i, none⟩) hN _, Nat.le_refl _⟩
              | false =>
                by_cases hm : x.mn ≤ 0
                · have HV : Hid (advF x s g i = fi) := by show _ = _; rw [HV1.out, decide_eq_true hm]; rfl
                  have HRE : Hid ((wr.setCell ⟨N, i, none⟩ (.bool fi)).rowIs N 4 (s.size + 1) (fun j => .bool (if j < i + 1 then advF x s g j else nxF x s g j))) :=
                    (HR.out.set i (.bool fi)).congr fun j hj => by
                      by_cases h1 : j = i
                      · rw [if_pos h1, h1, if_pos (by omega), HV.out]
                      · rw [if_neg h1]
                        by_cases h2 : j < i
                        · rw [if_pos h2, if_pos (by omega)]
                        · rw [if_neg h2, if_neg (by omega)]
                  go_wp2_with fail
                  go_roundg (s.size + 1 - (i + 1))
                  case measure => omega
                  case rel => exact ⟨i + 1, by omega, by go_num, HRE.out, HG.out.setOther (by omega) _, HB.out.setCell (p := ⟨N, i, none⟩) hN _, Nat.le_refl _⟩
                · have HV : Hid (advF x s g i = false) := by show _ = _; rw [HV1.out, decide_eq_false hm]; rfl
                  have HRE : Hid ((wr.setCell ⟨N, i, none⟩ (.bool false)).rowIs N 4 (s.size + 1) (fun j => .bool (if j < i + 1 then advF x s g j else nxF x s g j))) :=
                    (HR.out.set i (.bool false)).congr fun j hj => by
                      by_cases h1 : j = i
                      · rw [if_pos h1, h1, if_pos (by omega), HV.out]
                      · rw [if_neg h1]
                        by_cases h2 : j < i
                        · rw [if_pos h2, if_pos (by omega)]
                        · rw [if_neg h2, if_neg (by omega)]
                  go_wp2_with fail
                  go_roundg (s.size + 1 - (i + 1))
                  case measure => omega
                  case rel => exact ⟨i + 1, by omega, by go_num, HRE.out, HG.out.setOther (by omega) _, HB.out.setCell (p := ⟨N, i, none⟩) hN _, Nat.le_refl _⟩
            · obtain rfl : i = s.size + 1 := by omega
              have hi2 : ¬ (((s.size + 1 : Nat)) : Int) < (s.size : Int) + 1 := by omega
              have HRE : Hid (wr.rowIs N 4 (s.size + 1) (fun j => .bool (advF x s g j))) := HR.out.congr fun j hj => by rw [if_pos hj]
              go_wp2_with fail
              go_roundg (l.length - (k + 1))
              case measure => omega
              case rel => exact ⟨k + 1, advF x s g, by go_num, by omega, row_pl HRE.out, HX2.out, HB.out, Nat.le_refl _⟩
    · have hki : ¬ (k : Int) < (l.length : Int) := by omega
      have HE : Hid (g = R) := by
        have h := HX.out
        rw [List.drop_eq_nil_of_le (by omega)] at h
        exact h
      go_wp2_with fail
      go_ret
      rw [HE.out] at HG
      exact ⟨_, rfl, HG.out, HB.out⟩

end Go.Proofs.Ytanpiidhcijfaaa
