
/-
  The reference's Match, Prefix, Suffix, Longest, Validate, Reverse.
-/
import Derived.Test.YtanpiidhcijfaaaRefM
import Derived.Test.YtanpiidhcijfaaaMatchC
import Derived.Test.YtanpiidhcijfaaaRevB
namespace Go.Proofs.Ytanpiidhcijfaaa
open Go.RowKit

set_option maxRecDepth 100000 in
set_option maxHeartbeats 4000000 in
theorem rstart_any (s : ByteArray) (w : World) (hs : s.size ≤ 2147483648) :
    Calls Try.prog 42 #[.string s] w (RetPl w (s.size + 1) startF) := by
  have hmk := fun w => run_make_row' (P := Try.prog) 60 4 (.bool false) 1 Try.underlying60 bool_info rfl .i64 .i64 (s.size + 1) (by omega) (by omega) w
  rw [show ((s.size + 1 : Nat) : Int) = (s.size : Int) + 1 by omega] at hmk
  go_enter Try.func42, Try.ntmps42
  have HR0 : Hid ((w.alloc (.cells (madeCells #[.bool false] (s.size + 1)) 4)).rowIs w.heap.size 4 (s.size + 1) (fun _ => .bool false)) := World.rowIs_made w (.bool false) (s.size + 1) 4
  have HB0 := Lib.hid ((Below.refl w.heap.size w).alloc (Nat.le_refl _) (.cells (madeCells #[.bool false] (s.size + 1)) 4))
  go_upto_region 2 with fail
  generalize w.alloc (.cells (madeCells #[.bool false] (s.size + 1)) 4) = w1 at HR0 HB0 ⊢
  have r0 := HR0.out.cell (i := 0) (by omega)
  have rf := HR0.out.frozen 0
  have HR1 : Hid ((w1.setCell ⟨w.heap.size, 0, none⟩ (.bool true)).rowIs w.heap.size 4 (s.size + 1) (fun j => .bool (startF j))) := (HR0.out.set 0 (.bool true)).congr fun j _ => by
    unfold startF
    by_cases h : j = 0
    · rw [if_pos h, h]; rfl
    · rw [if_neg h, show (j == 0) = false from beq_eq_false_iff_ne.2 h]
  have hse : (0 : Int) < (s.size : Int) + 1 := by omega
  go_wp2_with fail
  go_ret
  exact ⟨w.heap.size, rfl, Nat.le_refl _, HR1.out, HB0.out.setCell (p := ⟨w.heap.size, 0, none⟩) (Nat.le_refl _) _⟩

set_option maxRecDepth 100000 in
set_option maxHeartbeats 4000000 in
theorem rmatch_any (p : List At) (s : ByteArray) (pv : Value) (w : World) (hp : RdE atC 34 w pv p) (hs : s.size ≤ 2147483648) (hl : p.length ≤ 140737488355328) :
    Calls Try.prog 27 #[pv, .string s] w fun e w' => e = .returned (.bool (matchF p s)) ∧ Below w.heap.size w w' := by
  go_enter Try.func27, Try.ntmps27
  have hse : (s.size : Int) < (s.size : Int) + 1 := by omega
  obtain ⟨V, HV⟩ : ∃ V, Hid (V = matchF p s) := ⟨_, rfl⟩
  rw [← HV.out]
  go_wp2_with (first
    | (go_at_call 42; refine (rstart_any s _ hs).mono ?_; rintro e w1 ⟨g1, rfl, hg1, hr1, hb1⟩)
    | (go_at_call 41; refine (rreach_any p s pv _ _ _ (by exact hp.below hb1 (Nat.le_refl _)) (by exact row_rd hr1) hs hl).mono ?_; rintro e w2 ⟨v2, rfl, hv2, hb2⟩; obtain ⟨b2, o2, c2, rfl, hbl2, hc2⟩ := hv2; have qe := hc2 s.size (by omega)))
  go_ret
  exact ⟨ret_bool (by rw [HV.out]; rfl), hb1.trans (hb2.mono hb1.size)⟩

set_option maxRecDepth 100000 in
set_option maxHeartbeats 4000000 in
theorem rlongest_any (p : List At) (s : ByteArray) (pv : Value) (w : World) (hp : RdE atC 34 w pv p) (hs : s.size ≤ 2147483648) (hl : p.length ≤ 140737488355328) :
    Calls Try.prog 30 #[pv, .string s] w fun e w' => e = .returned (.int .i64 (longestF p s)) ∧ Below w.heap.size w w' := by
  obtain ⟨V, HV⟩ : ∃ V, Hid (V = longestF p s) := ⟨_, rfl⟩
  rw [← HV.out]
  go_enter Try.func30, Try.ntmps30
  go_wp2_with (first
    | (go_at_call 42; refine (rstart_any s _ hs).mono ?_; rintro e w1 ⟨g1, rfl, hg1, hr1, hb1⟩)
    | (go_at_call 41; refine (rreach_any p s pv _ _ _ (by exact hp.below hb1 (Nat.le_refl _)) (by exact row_rd hr1) hs hl).mono ?_; rintro e w2 ⟨v2, rfl, hv2, hb2⟩; obtain ⟨b2, o2, c2, rfl, hbl2, hc2⟩ := hv2))
  obtain ⟨R, HR⟩ : ∃ R, Hid (R = reachF s p startF) := ⟨_, rfl⟩
  rw [← HR.out] at hc2
  have HC := Lib.hid hc2
  have HB2 := Lib.hid (hb1.trans (hb2.mono hb1.size))
  have HV0 : Hid (longF R (s.size + 1) = V) := by show _ = _; rw [HV.out, HR.out]; rfl
  clear hc2 hb1 hb2 hr1 HV HR hp
  go_loopg [5, 14] (s.size + 1) (fun n bv iv wr => ∃ k : Nat, k ≤ s.size + 1 ∧ bv = .int .i64 (longF R k) ∧ iv = .int .i64 (k : Nat) ∧ w2 = wr ∧ s.size + 1 - k ≤ n)
  case atStart => exact ⟨0, by omega, rfl, rfl, rfl, by omega⟩
  case round =>
    obtain ⟨k, hk, rfl, rfl, rfl, hgk⟩ := hrel
    by_cases hkl : k < s.size + 1
    · have hki : (k : Int) < (s.size : Int) + 1 := by omega
      have q := HC.out k hkl
      have HS : Hid (longF R (k + 1) = if R k = true then (k : Int) else longF R k) := rfl
      generalize longF R k = y at HS
      cases hRk : R k with
      | true =>
        rw [hRk] at q HS
        rw [if_pos rfl] at HS
        go_wp2_with fail
        go_roundg (s.size + 1 - (k + 1))
        case measure => omega
        case rel => exact ⟨k + 1, by omega, by rw [HS.out], by go_num, rfl, Nat.le_refl _⟩
      | false =>
        rw [hRk] at q HS
        rw [if_neg Bool.false_ne_true] at HS
        go_wp2_with fail
        go_roundg (s.size + 1 - (k + 1))
        case measure => omega
        case rel => exact ⟨k + 1, by omega, by rw [HS.out], by go_num, rfl, Nat.le_refl _⟩
    · obtain rfl : k = s.size + 1 := by omega
      have hki : ¬ (((s.size + 1 : Nat)) : Int) < (s.size : Int) + 1 := by omega
      rw [HV0.out]
      go_wp2_with fail
      go_ret
      exact ⟨rfl, HB2.out⟩

set_option maxRecDepth 100000 in
set_option maxHeartbeats 4000000 in
theorem rprefix_any (p : List At) (s : ByteArray) (pv : Value) (w : World) (hp : RdE atC 34 w pv p) (hs : s.size ≤ 2147483648) (hl : p.length ≤ 140737488355328) :
    Calls Try.prog 28 #[pv, .string s] w fun e w' => e = .returned (.bool (prefixF p s)) ∧ Below w.heap.size w w' := by
  have HL := Lib.hid (rlongest_any p s pv w hp hs hl)
  have HP : Hid (prefixF p s = decide (0 ≤ longestF p s)) := rfl
  go_enter Try.func28, Try.ntmps28
  generalize longestF p s = z at HL HP
  go_wp2_with (go_at_call 30; refine HL.out.mono ?_; rintro e w1 ⟨rfl, hb1⟩)
  go_ret
  exact ⟨ret_bool (by rw [HP.out]), hb1⟩

set_option maxRecDepth 100000 in
set_option maxHeartbeats 4000000 in
theorem rsuffix_any (p : List At) (s : ByteArray) (pv : Value) (w : World) (hp : RdE atC 34 w pv p) (hs : s.size ≤ 2147483648) (hl : p.length ≤ 140737488355328) :
    Calls Try.prog 29 #[pv, .string s] w fun e w' => e = .returned (.bool (suffixF p s)) ∧ Below w.heap.size w w' := by
  have hmk := fun w => run_make_row' (P := Try.prog) 60 4 (.bool false) 1 Try.underlying60 bool_info rfl .i64 .i64 (s.size + 1) (by omega) (by omega) w
  rw [show ((s.size + 1 : Nat) : Int) = (s.size : Int) + 1 by omega] at hmk
  obtain ⟨V, HV⟩ : ∃ V, Hid (V = suffixF p s) := ⟨_, rfl⟩
  rw [← HV.out]
  go_enter Try.func29, Try.ntmps29
  have HR0 : Hid ((w.alloc (.cells (madeCells #[.bool false] (s.size + 1)) 4)).rowIs w.heap.size 4 (s.size + 1) (fun j => .bool (decide (j < 0)))) := (World.rowIs_made w (.bool false) (s.size + 1) 4).congr fun j _ => by rw [decide_eq_false (by omega)]
  have HB0 := Lib.hid ((Below.refl w.heap.size w).alloc (Nat.le_refl _) (.cells (madeCells #[.bool false] (s.size + 1)) 4))
  go_wp2_with fail
  generalize w.alloc (.cells (madeCells #[.bool false] (s.size + 1)) 4) = w1 at HR0 HB0
  go_loopg [13] (s.size + 1) (fun n kv wr => ∃ k : Nat, k ≤ s.size + 1 ∧ kv = .int .i64 k ∧ Hid (wr.rowIs w.heap.size 4 (s.size + 1) (fun j => .bool (decide (j < k)))) ∧ Hid (Below w.heap.size w wr) ∧ s.size + 1 - k ≤ n)
  case atStart => exact ⟨0, by omega, rfl, HR0.out, HB0.out, by omega⟩
  case round =>
    clear HR0 HB0
    obtain ⟨k, hk, rfl, HR, HB, hgk⟩ := hrel
    by_cases hkl : k < s.size + 1
    · have hki : (k : Int) < (s.size : Int) + 1 := by omega
      have r0 := HR.out.cell (i := k) hkl
      have rf := HR.out.frozen k
      have HR1 : Hid ((wr.setCell ⟨w.heap.size, k, none⟩ (.bool true)).rowIs w.heap.size 4 (s.size + 1) (fun j => .bool (decide (j < k + 1)))) := (HR.out.set k (.bool true)).congr fun j _ => by
        by_cases h : j = k
        · rw [if_pos h, decide_eq_true (by omega)]
        · rw [if_neg h]
          congr 1
          rw [decide_eq_decide]
          omega
      go_wp2_with fail
      go_roundg (s.size + 1 - (k + 1))
      case measure => omega
      case rel => exact ⟨k + 1, by omega, by go_num, HR1.out, HB.out.setCell (p := ⟨w.heap.size, k, none⟩) (Nat.le_refl _) _, Nat.le_refl _⟩
    · obtain rfl : k = s.size + 1 := by omega
      have hki : ¬ (((s.size + 1 : Nat)) : Int) < (s.size : Int) + 1 := by omega
      have HR1 : Hid (wr.rowIs w.heap.size 4 (s.size + 1) (fun j => .bool (allF j))) := HR.out.congr fun j hj => by rw [decide_eq_true hj]; rfl
      have HP := Lib.hid (hp.below HB.out (Nat.le_refl _))
      have HX := Lib.hid (rreach_any p s pv _ _ _ HP.out (row_rd HR1.out) hs hl)
      have hse : (s.size : Int) < (s.size : Int) + 1 := by omega
      go_wp2_with (go_at_call 41; refine HX.out.mono ?_; rintro e w2 ⟨v2, rfl, hv2, hb2⟩; obtain ⟨b2, o2, c2, rfl, hbl2, hc2⟩ := hv2; have qe := hc2 s.size (by omega))
      go_ret
      exact ⟨ret_bool (by rw [HV.out]; rfl), HB.out.trans (hb2.mono HB.out.size)⟩

set_option maxRecDepth 100000 in
set_option maxHeartbeats 4000000 in
theorem rvalid_any (p : List At) (pv : Value) (w : World) (hp : RdE atC 34 w pv p) (hl : p.length ≤ 140737488355328) :
    Calls Try.prog 31 #[pv] w fun e w' => e = .returned (.int .i64 (validF p)) ∧ Below w.heap.size w w' := by
  obtain ⟨A, c, rfl, hlc, _⟩ := hp.shape
  have HP := Lib.hid hp
  clear hp
  obtain ⟨V, HV⟩ : ∃ V, Hid (V = validF p) := ⟨_, rfl⟩
  rw [← HV.out]
  go_enter Try.func31, Try.ntmps31
  by_cases h32 : 32 < p.length
  · have h32i : (32 : Int) < (p.length : Int) := by omega
    have HE : Hid (V = 3) := by show _ = _; rw [HV.out]; unfold validF; rw [if_pos h32]
    go_wp2_with fail
    go_ret
    exact ⟨ret_int HE.out.symm, Below.refl _ _⟩
  have h32i : ¬ (32 : Int) < (p.length : Int) := by omega
  have HV1 : Hid (V = if p.all (fun x => x.mn == 0 || x.mn == 1) = true then 0 else 1) := by show _ = _; rw [HV.out]; unfold validF; rw [if_neg h32]
  clear HV
  go_wp2_with fail
  obtain ⟨w0, HW0⟩ : ∃ w0, Hid (w0 = w) := ⟨w, rfl⟩
  go_loopg [9] p.length (fun n kv wr => ∃ k : Nat, k ≤ p.length ∧ kv = .int .i64 k ∧ Hid (∀ j (h : j < p.length), j < k → (p[j].mn == 0 || p[j].mn == 1) = true) ∧ Hid (Below w.heap.size w wr) ∧ p.length - k ≤ n)
  case atStart => exact ⟨0, by omega, rfl, fun j _ h => absurd h (Nat.not_lt_zero j), Below.refl _ _, by omega⟩
  case round =>
    obtain ⟨k, hk, rfl, HA, HB, hgk⟩ := hrel
    by_cases hkl : k < p.length
    · have hki : (k : Int) < (p.length : Int) := by omega
      have hk0 : (0 : Int) ≤ (k : Int) := by omega
      obtain ⟨b, o, rfl, hbl, hcell⟩ := HP.out.cells (by omega)
      have hx : p[k]? = some p[k] := List.getElem?_eq_getElem hkl
      have qm : wr.cell? ⟨b, o + k * 34 + 32, none⟩ = some (.int .i64 p[k].mn) := by
        rw [Nat.add_assoc]
        exact (HB.out.cell (p := ⟨b, o + (k * 34 + 32), none⟩) hbl).trans (hcell k _ 32 _ hx (atC_mn _))
      clear hcell hx
      obtain ⟨x, HX⟩ : ∃ x : At, Hid (x = p[k]) := ⟨p[k], rfl⟩
      rw [← HX.out] at qm
      by_cases h0 : x.mn = 0
      · have t0 : (x.mn != 0) = false := bne_eq_false_iff_eq.2 h0
        have HA2 : Hid (∀ j (h : j < p.length), j < k + 1 → (p[j].mn == 0 || p[j].mn == 1) = true) := fun j hj hjk => by
          by_cases hj2 : j = k
          · subst hj2; rw [← HX.out, h0]; rfl
          · exact HA.out j hj (by omega)
        clear h0
        go_wp2_with fail
        go_roundg (p.length - (k + 1))
        case measure => omega
        case rel => exact ⟨k + 1, by omega, by go_num, HA2.out, HB.out, Nat.le_refl _⟩
      · have t0 : (x.mn != 0) = true := bne_iff_ne.2 h0
        by_cases h1 : x.mn = 1
        · have t1 : (x.mn != 1) = false := bne_eq_false_iff_eq.2 h1
          have HA2 : Hid (∀ j (h : j < p.length), j < k + 1 → (p[j].mn == 0 || p[j].mn == 1) = true) := fun j hj hjk => by
            by_cases hj2 : j = k
            · subst hj2; rw [← HX.out, h1]; rfl
            · exact HA.out j hj (by omega)
          clear h0 h1
          go_wp2_with fail
          go_roundg (p.length - (k + 1))
          case measure => omega
          case rel => exact ⟨k + 1, by omega, by go_num, HA2.out, HB.out, Nat.le_refl _⟩
        · have t1 : (x.mn != 1) = true := bne_iff_ne.2 h1
          have HE : Hid (V = 1) := by
            show _ = _
            rw [HV1.out, if_neg]
            intro ha
            have := List.all_eq_true.1 ha p[k] (List.getElem_mem _)
            rw [← HX.out] at this
            simp at this
            omega
          clear h0 h1
          go_wp2_with fail
          go_ret
          exact ⟨ret_int HE.out.symm, HB.out⟩
    · have hki : ¬ (k : Int) < (p.length : Int) := by omega
      have HE : Hid (V = 0) := by
        show _ = _
        rw [HV1.out, if_pos]
        refine List.all_eq_true.2 fun x hx => ?_
        obtain ⟨j, hj, rfl⟩ := List.mem_iff_getElem.1 hx
        exact HA.out j hj (by omega)
      go_wp2_with fail
      go_ret
      exact ⟨ret_int HE.out.symm, HB.out⟩

set_option maxRecDepth 100000 in
set_option maxHeartbeats 4000000 in
theorem rrev_any (l : List At) (v : Value) (w : World) (hp : RdE atC 34 w v l) (hl : l.length ≤ 140737488355) :
    Calls Try.prog 32 #[v] w (RetRd w w.heap.size l.reverse) := by
  obtain ⟨A, c, rfl, hlc, _⟩ := hp.shape
  have HP := Lib.hid hp
  clear hp
  have hu := Try.underlying37
  have hi : (Try.prog.info? 37).map (·.size) = some 34 := atom_size
  obtain ⟨R, HRR⟩ : ∃ R, Hid (R = RetRd w w.heap.size l.reverse) := ⟨_, rfl⟩
  rw [← HRR.out]
  go_enter Try.func32, Try.ntmps32
  go_wp2_with fail
  obtain ⟨w0, HW0⟩ : ∃ w0, Hid (w0 = w) := ⟨w, rfl⟩
  go_loopg [3, 4] l.length (fun n ov iv wr => ∃ (k : Nat) (q : List At) (A1 : Option Addr) (c1 : Nat), ov = .slice A1 q.length c1 ∧ iv = .int .i64 ((k : Int) - 1) ∧ k ≤ l.length ∧ Hid (q = (l.drop k).reverse) ∧ Hid (OwnE 37 atC 34 wr w.heap.size (.slice A1 q.length c1) q) ∧ Hid (Below w.heap.size w wr) ∧ k ≤ n)
  case atStart => exact ⟨l.length, [], none, 0, rfl, by (show Value.int .i64 _ = Value.int .i64 _); congr 1, Nat.le_refl _, by (show _ = _); rw [List.drop_length]; rfl, OwnE.nil, Below.refl _ _, Nat.le_refl _⟩
  case round =>
    obtain ⟨k, q, A1, c1, rfl, rfl, hk, HQ, HO, HB, hgk⟩ := hrel
    cases k with
    | zero =>
      rw [show ((0 : Nat) : Int) - 1 = -1 from rfl]
      go_wp2_with fail
      rw [HRR.out]
      have e : q = l.reverse := HQ.out
      refine ⟨_, rfl, ?_, HB.out⟩
      show RdE atC 34 wr (.slice A1 q.length c1) l.reverse
      rw [← e]
      exact OwnE.rd atC_len HO.out
    | succ m =>
      rw [show ((m + 1 : Nat) : Int) - 1 = (m : Int) by omega]
      have hm0 : (0 : Int) ≤ (m : Int) := by omega
      have hml : (m : Int) < (l.length : Int) := by omega
      have hql : q.length ≤ l.length := by rw [HQ.out, List.length_reverse, List.length_drop]; omega
      obtain ⟨b, o, rfl, hbl, hcell⟩ := HP.out.cells (by omega)
      have hx : l[m]? = some l[m] := List.getElem?_eq_getElem (by omega)
      have hrg : wr.rangeAt b (o + m * 34) (atC l[m]) := fun j v hj => by
        rw [Nat.add_assoc]
        exact (HB.out.cell (p := ⟨b, o + (m * 34 + j), none⟩) hbl).trans (hcell m _ j v hx hj)
      have HQ2 : Hid (q ++ [l[m]] = (l.drop m).reverse) := by
        show _ = _
        rw [List.drop_eq_getElem_cons (show m < l.length by omega), List.reverse_cons, HQ.out]
      clear hcell hx
      generalize l[m] = x at hrg HQ2
      have hsz := HB.out.size
      go_wp2_with (first
        | (refine wpList_load_mid rfl 37 (.tmp 15) rfl b (o + m * 34) rfl (atC x) _ hrg hu rfl (by rw [hi, atC_len]) ?_)
        | (refine wpList_buildOne rfl (.tmp 16) (by rfl) x (by rfl) ?_)
        | (refine wpList_app1 rfl (.tmp 12) (.tmp 17) 26 37 rfl Try.underlying26 _ 34 48 atom_info rfl (by decide) w.heap.size (.slice A1 q.length c1) q.length (q.flatMap atC) rfl (own_below HO.out ((Below.refl _ wr).alloc (Nat.le_refl _) _) (Nat.le_refl _)) ⟨wr.heap.size, 0, none⟩ 1 (atC x) rfl (atC_len _) (cells_new wr (atC x) 37) (atC_one _) (by omega) (by decide) (by simp; omega) ?_; intro g2 cap w9 hown9 hbg9 hbel9 hgrow9))
      have hbn := hbel9 w.heap.size (wr.alloc (.cells (atC x).toArray 37)) (Nat.le_refl _) (Below.refl _ _)
      have HB9 := Lib.hid ((HB.out.alloc hsz (.cells (atC x).toArray 37)).trans hbn)
      have HO9 : Hid (OwnE 37 atC 34 w9 w.heap.size (.slice (some ⟨g2, 0, none⟩) (q.length + 1) cap) (q ++ [x])) := OwnE.snoc hown9
      clear hown9 hbel9 hgrow9 hbn hrg
      go_wp2_with fail
      go_roundg m
      case measure => omega
      case rel => exact ⟨m, q ++ [x], some ⟨g2, 0, none⟩, cap, by (show Value.slice _ _ _ = Value.slice _ _ _); rw [List.length_append]; rfl, rfl, by omega, HQ2.out, by (show OwnE _ _ _ _ _ _ _); rw [List.length_append]; exact HO9.out, HB9.out, Nat.le_refl _⟩

end Go.Proofs.Ytanpiidhcijfaaa
