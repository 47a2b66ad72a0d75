
/-
  Patterns: the program's longest match, suffixes, the check of patterns.
-/
import Derived.Test.YtanpiidhcijfaaaMatchB
namespace Go.Proofs.Ytanpiidhcijfaaa
open Go.RowKit

set_option maxRecDepth 100000 in
set_option maxHeartbeats 4000000 in
theorem longest_any (p : List At) (s : ByteArray) (pv : Value) (w : World) (hp : RdE atC 34 w pv p) (hs : s.size ≤ 2147483648) (hl : p.length ≤ 140737488355328) :
    Calls Try.prog 23 #[pv, .string s] w fun e w' => e = .returned (.int .i64 (longestF p s)) ∧ Below w.heap.size w w' := by
  obtain ⟨V, HV⟩ : ∃ V, Hid (V = longestF p s) := ⟨_, rfl⟩
  rw [← HV.out]
  go_enter Try.func23, Try.ntmps23
  go_wp2_with (first
    | (go_at_call 37; refine (start_any s _ hs).mono ?_; rintro e w1 ⟨g1, rfl, hg1, hr1, hb1⟩)
    | (go_at_call 36; refine (reach_any p s pv _ _ _ (by exact hp.below hb1 (Nat.le_refl _)) (by exact row_pl hr1) hs hl).mono ?_; rintro e w2 ⟨v2, rfl, hv2, hb2⟩; obtain ⟨b2, o2, c2, rfl, hbl2, hc2⟩ := hv2))
  obtain ⟨R, HR⟩ : ∃ R, Hid (R = reachF s p startF) := ⟨_, rfl⟩
  rw [← HR.out] at hc2
  have HC := Lib.hid hc2
  have HB2 := Lib.hid (hb1.trans (hb2.mono hb1.size))
  have HV0 : Hid (longF R (s.size + 1) = V) := by show _ = _; rw [HV.out, HR.out]; rfl
  clear hc2 hb1 hb2 hr1 HV HR hp
  go_loopg [6] (s.size + 1) (fun n iv wr => ∃ k : Nat, k ≤ s.size + 1 ∧ iv = .int .i64 ((k : Int) - 1) ∧ Hid (longF R k = V) ∧ w2 = wr ∧ k ≤ n)
  case atStart => exact ⟨s.size + 1, by omega, by (show Value.int .i64 _ = Value.int .i64 _); congr 1; omega, HV0.out, rfl, Nat.le_refl _⟩
  case round =>
    clear HV0
    obtain ⟨k, hk, rfl, HK, rfl, hgk⟩ := hrel
    cases k with
    | zero =>
      have HE : Hid (V = -1) := HK.out.symm
      rw [show ((0 : Nat) : Int) - 1 = -1 from rfl]
      go_wp2_with fail
      go_ret
      exact ⟨ret_int HE.out.symm, HB2.out⟩
    | succ m =>
      rw [show ((m + 1 : Nat) : Int) - 1 = (m : Int) by omega]
      have q := HC.out m (by omega)
      have hm0 : (0 : Int) ≤ (m : Int) := by omega
      have hm1 : (m : Int) < (s.size : Int) + 1 := by omega
      have HS : Hid ((if R m = true then (m : Int) else longF R m) = V) := HK.out
      clear HK
      cases hRm : R m with
      | true =>
        have HE : Hid (V = (m : Int)) := by show _ = _; rw [← HS.out, if_pos hRm]
        clear HS
        rw [hRm] at q
        go_wp2_with fail
        go_ret
        exact ⟨ret_int HE.out.symm, HB2.out⟩
      | false =>
        have HE : Hid (longF R m = V) := by show _ = _; rw [← HS.out, if_neg (by rw [hRm]; exact Bool.false_ne_true)]
        clear HS
        rw [hRm] at q
        go_wp2_with fail
        go_roundg m
        case measure => omega
        case rel => exact ⟨m, by omega, rfl, HE.out, rfl, Nat.le_refl _⟩

set_option maxRecDepth 100000 in
set_option maxHeartbeats 4000000 in
theorem prefix_any (p : List At) (s : ByteArray) (pv : Value) (w : World) (hp : RdE atC 34 w pv p) (hs : s.size ≤ 2147483648) (hl : p.length ≤ 140737488355328) :
    Calls Try.prog 24 #[pv, .string s] w fun e w' => e = .returned (.bool (prefixF p s)) ∧ Below w.heap.size w w' := by
  have HL := Lib.hid (longest_any p s pv w hp hs hl)
  have HP : Hid (prefixF p s = decide (0 ≤ longestF p s)) := rfl
  go_enter Try.func24, Try.ntmps24
  generalize longestF p s = z at HL HP
  go_wp2_with (go_at_call 23; refine HL.out.mono ?_; rintro e w1 ⟨rfl, hb1⟩)
  go_ret
  exact ⟨ret_bool (by rw [HP.out]), hb1⟩

set_option maxRecDepth 100000 in
set_option maxHeartbeats 4000000 in
theorem suffix_any (p : List At) (s : ByteArray) (pv : Value) (w : World) (hp : RdE atC 34 w pv p) (hs : s.size ≤ 2147483648) (hl : p.length ≤ 140737488355328) :
    Calls Try.prog 25 #[pv, .string s] w fun e w' => e = .returned (.bool (suffixF p s)) ∧ Below w.heap.size w w' := by
  have hmk := fun w => run_make_row' (P := Try.prog) 60 4 (.bool false) 1 Try.underlying60 bool_info rfl .i64 .i64 (s.size + 1) (by omega) (by omega) w
  rw [show ((s.size + 1 : Nat) : Int) = (s.size : Int) + 1 by omega] at hmk
  obtain ⟨V, HV⟩ : ∃ V, Hid (V = suffixF p s) := ⟨_, rfl⟩
  rw [← HV.out]
  go_enter Try.func25, Try.ntmps25
  have HR0 : Hid ((w.alloc (.cells (madeCells #[.bool false] (s.size + 1)) 4)).rowIs w.heap.size 4 (s.size + 1) (fun j => .bool (decide (j < 0)))) := (World.rowIs_made w (.bool false) (s.size + 1) 4).congr fun j _ => by rw [decide_eq_false (by omega)]
  have HB0 := Lib.hid ((Below.refl w.heap.size w).alloc (Nat.le_refl _) (.cells (madeCells #[.bool false] (s.size + 1)) 4))
  go_wp2_with fail
  generalize w.alloc (.cells (madeCells #[.bool false] (s.size + 1)) 4) = w1 at HR0 HB0
  go_loopg [13] (s.size + 1) (fun n kv wr => ∃ k : Nat, k ≤ s.size + 1 ∧ kv = .int .i64 k ∧ Hid (wr.rowIs w.heap.size 4 (s.size + 1) (fun j => .bool (decide (j < k)))) ∧ Hid (Below w.heap.size w wr) ∧ s.size + 1 - k ≤ n)
  case atStart => exact ⟨0, by omega, rfl, HR0.out, HB0.out, by omega⟩
  case round =>
    clear HR0 HB0
    obtain ⟨k, hk, rfl, HR, HB, hgk⟩ := hrel
    by_cases hkl : k < s.size + 1
    · have hki : (k : Int) < (s.size : Int) + 1 := by omega
      have r0 := HR.out.cell (i := k) hkl
      have rf := HR.out.frozen k
      have HR1 : Hid ((wr.setCell ⟨w.heap.size, k, none⟩ (.bool true)).rowIs w.heap.size 4 (s.size + 1) (fun j => .bool (decide (j < k + 1)))) := (HR.out.set k (.bool true)).congr fun j _ => by
        by_cases h : j = k
        · rw [if_pos h, decide_eq_true (by omega)]
        · rw [if_neg h]
          congr 1
          rw [decide_eq_decide]
          omega
      go_wp2_with fail
      go_roundg (s.size + 1 - (k + 1))
      case measure => omega
      case rel => exact ⟨k + 1, by omega, by go_num, HR1.out, HB.out.setCell (p := ⟨w.heap.size, k, none⟩) (Nat.le_refl _) _, Nat.le_refl _⟩
    · obtain rfl : k = s.size + 1 := by omega
      have hki : ¬ (((s.size + 1 : Nat)) : Int) < (s.size : Int) + 1 := by omega
      have HR1 : Hid (wr.rowIs w.heap.size 4 (s.size + 1) (fun j => .bool (allF j))) := HR.out.congr fun j hj => by rw [decide_eq_true hj]; rfl
      have HP := Lib.hid (hp.below HB.out (Nat.le_refl _))
      have HX := Lib.hid (reach_any p s pv _ _ _ HP.out (row_pl HR1.out (c := s.size + 1)) hs hl)
      have hse : (s.size : Int) < (s.size : Int) + 1 := by omega
      go_wp2_with (go_at_call 36; refine HX.out.mono ?_; rintro e w2 ⟨v2, rfl, hv2, hb2⟩; obtain ⟨b2, o2, c2, rfl, hbl2, hc2⟩ := hv2; have qe := hc2 s.size (by omega))
      go_ret
      exact ⟨ret_bool (by rw [HV.out]; rfl), HB.out.trans (hb2.mono HB.out.size)⟩

set_option maxRecDepth 100000 in
set_option maxHeartbeats 4000000 in
theorem valid_any (p : List At) (pv : Value) (w : World) (hp : RdE atC 34 w pv p) (hl : p.length ≤ 140737488355328) :
    Calls Try.prog 22 #[pv] w fun e w' => e = .returned (.int .i64 (validF p)) ∧ Below w.heap.size w w' := by
  obtain ⟨A, c, rfl, hlc, _⟩ := hp.shape
  have HP := Lib.hid hp
  clear hp
  have hu := Try.underlying37
  have hi : (Try.prog.info? 37).map (·.size) = some 34 := atom_size
  obtain ⟨V, HV⟩ : ∃ V, Hid (V = validF p) := ⟨_, rfl⟩
  rw [← HV.out]
  go_enter Try.func22, Try.ntmps22
  by_cases h32 : 32 < p.length
  · have h32i : (32 : Int) < (p.length : Int) := by omega
    have HE : Hid (V = 3) := by show _ = _; rw [HV.out]; unfold validF; rw [if_pos h32]
    go_wp2_with fail
    go_ret
    exact ⟨ret_int HE.out.symm, Below.refl _ _⟩
  have h32i : ¬ (32 : Int) < (p.length : Int) := by omega
  have HV1 : Hid (V = if p.all (fun x => x.mn == 0 || x.mn == 1) = true then 0 else 1) := by show _ = _; rw [HV.out]; unfold validF; rw [if_neg h32]
  clear HV
  go_wp2_with fail
  go_loopg [10] p.length (fun n kv wr => ∃ k : Nat, k ≤ p.length ∧ kv = .int .i64 k ∧ Hid (∀ j (h : j < p.length), j < k → (p[j].mn == 0 || p[j].mn == 1) = true) ∧ Hid (Below w.heap.size w wr) ∧ p.length - k ≤ n)
  case atStart => exact ⟨0, by omega, rfl, fun j _ h => absurd h (Nat.not_lt_zero j), Below.refl _ _, by omega⟩
  case round =>
    obtain ⟨k, hk, rfl, HA, HB, hgk⟩ := hrel
    by_cases hkl : k < p.length
    · have hki : (k : Int) < (p.length : Int) := by omega
      obtain ⟨b, o, rfl, hbl, hcell⟩ := HP.out.cells (by omega)
      have hx : p[k]? = some p[k] := List.getElem?_eq_getElem hkl
      have hrg : wr.rangeAt b (o + k * 34) (atC p[k]) := fun j v hj => by
        rw [Nat.add_assoc]
        exact (HB.out.cell (p := ⟨b, o + (k * 34 + j), none⟩) hbl).trans (hcell k _ j v hx hj)
      clear hcell hx
      obtain ⟨x, HX⟩ : ∃ x : At, Hid (x = p[k]) := ⟨p[k], rfl⟩
      rw [← HX.out] at hrg
      have hz := HB.out.size
      have HA1 := Lib.hid ((at_zero wr).row x)
      have HB1 : Hid (Below w.heap.size w ((wr.alloc (.cells #[.int .u8 0, .int .u8 0, .int .u8 0, .int .u8 0, .int .u8 0, .int .u8 0, .int .u8 0, .int .u8 0, .int .u8 0, .int .u8 0, .int .u8 0, .int .u8 0, .int .u8 0, .int .u8 0, .int .u8 0, .int .u8 0, .int .u8 0, .int .u8 0, .int .u8 0, .int .u8 0, .int .u8 0, .int .u8 0, .int .u8 0, .int .u8 0, .int .u8 0, .int .u8 0, .int .u8 0, .int .u8 0, .int .u8 0, .int .u8 0, .int .u8 0, .int .u8 0, .int .i64 0, .bool false] 37)).setRow wr.heap.size (atC x).toArray)) := below_setRow (HB.out.alloc hz _) hz _
      go_upto_region 6 with (first
        | (refine wpList_load_mid rfl 37 (.tmp 12) rfl b (o + k * 34) rfl (atC x) _ hrg hu rfl (by rw [hi, atC_len]) ?_)
        | (refine wpList_store_row rfl 37 (.tmp 4) (.tmp 13) rfl (wr.heap.size) (atC x).toArray rfl rfl 37 (atC ⟨noP, 0, false⟩).toArray (at_zero wr) (by rw [atom_size, atC_size]) (by simp only [atC_size]) (atC_oneA _) ?_))
      clear HB hrg
      generalize hg3 : wr.heap.size = g3 at HA1 HB1 hz ⊢
      generalize (wr.alloc (.cells #[.int .u8 0, .int .u8 0, .int .u8 0, .int .u8 0, .int .u8 0, .int .u8 0, .int .u8 0, .int .u8 0, .int .u8 0, .int .u8 0, .int .u8 0, .int .u8 0, .int .u8 0, .int .u8 0, .int .u8 0, .int .u8 0, .int .u8 0, .int .u8 0, .int .u8 0, .int .u8 0, .int .u8 0, .int .u8 0, .int .u8 0, .int .u8 0, .int .u8 0, .int .u8 0, .int .u8 0, .int .u8 0, .int .u8 0, .int .u8 0, .int .u8 0, .int .u8 0, .int .i64 0, .bool false] 37)).setRow g3 (atC x).toArray = w2 at HA1 HB1 ⊢
      clear hg3
      have q := HA1.out.mn
      by_cases h0 : x.mn = 0
      · have t0 : (x.mn != 0) = false := bne_eq_false_iff_eq.2 h0
        have HA2 : Hid (∀ j (h : j < p.length), j < k + 1 → (p[j].mn == 0 || p[j].mn == 1) = true) := fun j hj hjk => by
          by_cases hj2 : j = k
          · subst hj2; rw [← HX.out, h0]; rfl
          · exact HA.out j hj (by omega)
        clear h0
        go_wp2_with fail
        go_roundg (p.length - (k + 1))
        case measure => omega
        case rel => exact ⟨k + 1, by omega, by go_num, HA2.out, HB1.out, Nat.le_refl _⟩
      · have t0 : (x.mn != 0) = true := bne_iff_ne.2 h0
        by_cases h1 : x.mn = 1
        · have t1 : (x.mn != 1) = false := bne_eq_false_iff_eq.2 h1
          have HA2 : Hid (∀ j (h : j < p.length), j < k + 1 → (p[j].mn == 0 || p[j].mn == 1) = true) := fun j hj hjk => by
            by_cases hj2 : j = k
            · subst hj2; rw [← HX.out, h1]; rfl
            · exact HA.out j hj (by omega)
          clear h0 h1
          go_wp2_with fail
          go_roundg (p.length - (k + 1))
          case measure => omega
          case rel => exact ⟨k + 1, by omega, by go_num, HA2.out, HB1.out, Nat.le_refl _⟩
        · have t1 : (x.mn != 1) = true := bne_iff_ne.2 h1
          have HE : Hid (V = 1) := by
            show _ = _
            rw [HV1.out, if_neg]
            intro ha
            have := List.all_eq_true.1 ha p[k] (List.getElem_mem _)
            rw [← HX.out] at this
            simp at this
            omega
          clear h0 h1
          go_wp2_with fail
          go_ret
          exact ⟨ret_int HE.out.symm, HB1.out⟩
    · have hki : ¬ (k : Int) < (p.length : Int) := by omega
      have HE : Hid (V = 0) := by
        show _ = _
        rw [HV1.out, if_pos]
        refine List.all_eq_true.2 fun x hx => ?_
        obtain ⟨j, hj, rfl⟩ := List.mem_iff_getElem.1 hx
        exact HA.out j hj (by omega)
      go_wp2_with fail
      go_ret
      exact ⟨ret_int HE.out.symm, HB.out⟩

end Go.Proofs.Ytanpiidhcijfaaa
