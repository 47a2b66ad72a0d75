
/-
  The reference of chapter 5: sets.
-/
import Derived.Test.YtanpiidhcijfaaaRefC
namespace Go.Proofs.Ytanpiidhcijfaaa
open Go.RowKit

theorem full_byte (k : Nat) : byteOf (notP noP) k = 255 := by simp [byteOf, b2n, notP, noP]
theorem RetSet.ok {w w' : World} {r : SR} {e : Ending} (h : RetSet w r e w') (hb : r.bad = false) : e = .returned (.tuple #[.agg (setC r.p).toArray, .int .i64 (r.j : Nat), .int .i64 (-1)]) ∧ Below w.heap.size w w' := by
  obtain ⟨⟨p, hp, he⟩, hw⟩ := h
  rw [setC_congr (hp hb), hb] at he
  exact ⟨he, hw⟩
theorem RetSet.no {w w' : World} {r : SR} {e : Ending} (h : RetSet w r e w') (hb : r.bad = true) : (∃ p, e = .returned (.tuple #[.agg (setC p).toArray, .int .i64 0, .int .i64 (r.j : Nat)])) ∧ Below w.heap.size w w' := by
  obtain ⟨⟨p, _, he⟩, hw⟩ := h
  rw [hb] at he
  exact ⟨⟨p, he⟩, hw⟩

set_option maxRecDepth 100000 in
set_option maxHeartbeats 8000000 in
theorem rset_any (w : World) (s : ByteArray) (i : Nat) (hi : i < s.size) (hs : s.size ≤ 2147483648) :
    Calls Try.prog 35 #[.string s, .int .i64 i] w (RetSet w (outF s i)) := by
  have HA0 : Hid (SetIn ((w.alloc (.cells #[.int .u8 0, .int .u8 0, .int .u8 0, .int .u8 0, .int .u8 0, .int .u8 0, .int .u8 0, .int .u8 0, .int .u8 0, .int .u8 0, .int .u8 0, .int .u8 0, .int .u8 0, .int .u8 0, .int .u8 0, .int .u8 0, .int .u8 0, .int .u8 0, .int .u8 0, .int .u8 0, .int .u8 0, .int .u8 0, .int .u8 0, .int .u8 0, .int .u8 0, .int .u8 0, .int .u8 0, .int .u8 0, .int .u8 0, .int .u8 0, .int .u8 0, .int .u8 0] 35)).alloc (.cells #[.int .u8 0, .int .u8 0, .int .u8 0, .int .u8 0, .int .u8 0, .int .u8 0, .int .u8 0, .int .u8 0, .int .u8 0, .int .u8 0, .int .u8 0, .int .u8 0, .int .u8 0, .int .u8 0, .int .u8 0, .int .u8 0, .int .u8 0, .int .u8 0, .int .u8 0, .int .u8 0, .int .u8 0, .int .u8 0, .int .u8 0, .int .u8 0, .int .u8 0, .int .u8 0, .int .u8 0, .int .u8 0, .int .u8 0, .int .u8 0, .int .u8 0, .int .u8 0] 35)) w.heap.size 35 noP) := (zero_in w 35).keep (Below.heap_alloc _ _ _ (by simp))
  have HS0 : Hid (SetIn ((w.alloc (.cells #[.int .u8 0, .int .u8 0, .int .u8 0, .int .u8 0, .int .u8 0, .int .u8 0, .int .u8 0, .int .u8 0, .int .u8 0, .int .u8 0, .int .u8 0, .int .u8 0, .int .u8 0, .int .u8 0, .int .u8 0, .int .u8 0, .int .u8 0, .int .u8 0, .int .u8 0, .int .u8 0, .int .u8 0, .int .u8 0, .int .u8 0, .int .u8 0, .int .u8 0, .int .u8 0, .int .u8 0, .int .u8 0, .int .u8 0, .int .u8 0, .int .u8 0, .int .u8 0] 35)).alloc (.cells #[.int .u8 0, .int .u8 0, .int .u8 0, .int .u8 0, .int .u8 0, .int .u8 0, .int .u8 0, .int .u8 0, .int .u8 0, .int .u8 0, .int .u8 0, .int .u8 0, .int .u8 0, .int .u8 0, .int .u8 0, .int .u8 0, .int .u8 0, .int .u8 0, .int .u8 0, .int .u8 0, .int .u8 0, .int .u8 0, .int .u8 0, .int .u8 0, .int .u8 0, .int .u8 0, .int .u8 0, .int .u8 0, .int .u8 0, .int .u8 0, .int .u8 0, .int .u8 0] 35)) (w.heap.size + 1) 35 noP) := by
    have h := zero_in (w.alloc (.cells #[.int .u8 0, .int .u8 0, .int .u8 0, .int .u8 0, .int .u8 0, .int .u8 0, .int .u8 0, .int .u8 0, .int .u8 0, .int .u8 0, .int .u8 0, .int .u8 0, .int .u8 0, .int .u8 0, .int .u8 0, .int .u8 0, .int .u8 0, .int .u8 0, .int .u8 0, .int .u8 0, .int .u8 0, .int .u8 0, .int .u8 0, .int .u8 0, .int .u8 0, .int .u8 0, .int .u8 0, .int .u8 0, .int .u8 0, .int .u8 0, .int .u8 0, .int .u8 0] 35)) 35
    rw [show (w.alloc (.cells #[.int .u8 0, .int .u8 0, .int .u8 0, .int .u8 0, .int .u8 0, .int .u8 0, .int .u8 0, .int .u8 0, .int .u8 0, .int .u8 0, .int .u8 0, .int .u8 0, .int .u8 0, .int .u8 0, .int .u8 0, .int .u8 0, .int .u8 0, .int .u8 0, .int .u8 0, .int .u8 0, .int .u8 0, .int .u8 0, .int .u8 0, .int .u8 0, .int .u8 0, .int .u8 0, .int .u8 0, .int .u8 0, .int .u8 0, .int .u8 0, .int .u8 0, .int .u8 0] 35)).heap.size = w.heap.size + 1 by simp] at h
    exact h
  have HB0 := Lib.hid (((Below.refl w.heap.size w).alloc (Nat.le_refl _) (.cells #[.int .u8 0, .int .u8 0, .int .u8 0, .int .u8 0, .int .u8 0, .int .u8 0, .int .u8 0, .int .u8 0, .int .u8 0, .int .u8 0, .int .u8 0, .int .u8 0, .int .u8 0, .int .u8 0, .int .u8 0, .int .u8 0, .int .u8 0, .int .u8 0, .int .u8 0, .int .u8 0, .int .u8 0, .int .u8 0, .int .u8 0, .int .u8 0, .int .u8 0, .int .u8 0, .int .u8 0, .int .u8 0, .int .u8 0, .int .u8 0, .int .u8 0, .int .u8 0] 35)).alloc (by simp) (.cells #[.int .u8 0, .int .u8 0, .int .u8 0, .int .u8 0, .int .u8 0, .int .u8 0, .int .u8 0, .int .u8 0, .int .u8 0, .int .u8 0, .int .u8 0, .int .u8 0, .int .u8 0, .int .u8 0, .int .u8 0, .int .u8 0, .int .u8 0, .int .u8 0, .int .u8 0, .int .u8 0, .int .u8 0, .int .u8 0, .int .u8 0, .int .u8 0, .int .u8 0, .int .u8 0, .int .u8 0, .int .u8 0, .int .u8 0, .int .u8 0, .int .u8 0, .int .u8 0] 35))
  have hii : (i : Int) < (s.size : Int) := by omega
  go_enter Try.func35, Try.ntmps35
  go_upto_region 2 with fail
  generalize (w.alloc (.cells #[.int .u8 0, .int .u8 0, .int .u8 0, .int .u8 0, .int .u8 0, .int .u8 0, .int .u8 0, .int .u8 0, .int .u8 0, .int .u8 0, .int .u8 0, .int .u8 0, .int .u8 0, .int .u8 0, .int .u8 0, .int .u8 0, .int .u8 0, .int .u8 0, .int .u8 0, .int .u8 0, .int .u8 0, .int .u8 0, .int .u8 0, .int .u8 0, .int .u8 0, .int .u8 0, .int .u8 0, .int .u8 0, .int .u8 0, .int .u8 0, .int .u8 0, .int .u8 0] 35)).alloc (.cells #[.int .u8 0, .int .u8 0, .int .u8 0, .int .u8 0, .int .u8 0, .int .u8 0, .int .u8 0, .int .u8 0, .int .u8 0, .int .u8 0, .int .u8 0, .int .u8 0, .int .u8 0, .int .u8 0, .int .u8 0, .int .u8 0, .int .u8 0, .int .u8 0, .int .u8 0, .int .u8 0, .int .u8 0, .int .u8 0, .int .u8 0, .int .u8 0, .int .u8 0, .int .u8 0, .int .u8 0, .int .u8 0, .int .u8 0, .int .u8 0, .int .u8 0, .int .u8 0] 35) = w1 at HA0 HS0 HB0 ⊢
  obtain ⟨c, HC⟩ : ∃ c, Hid (c = bt s i) := ⟨_, rfl⟩
  have hg : s[i].toNat = c := by rw [HC.out, bt_get s i hi]
  have hcc : c < 256 := by rw [HC.out]; exact bt_lt s i
  by_cases h46 : c = 46
  · have t46 : ((s[i].toNat : Int) == 46) = true := beq_iff_eq.2 (by omega)
    have HF : Hid (outF s i = ⟨notP noP, 0, false, i + 1, false⟩) := by
      show _ = _
      unfold outF
      rw [← HC.out, if_pos h46]
    clear h46 hg
    go_wp2_with fail
    obtain ⟨wo, rfl⟩ : ∃ wo : World, wo = w1 := ⟨_, rfl⟩
    have HM0 : Hid (SetIn wo (w.heap.size + 1) 35 (mixP noP (notP noP) 0)) := HS0.out.congr fun n _ => by unfold mixP; rw [if_neg (by omega)]
    clear HS0
    go_loopg [16] 32 (fun n kv wr => ∃ k : Nat, k ≤ 32 ∧ kv = .int .i64 k ∧ Hid (SetIn wr w.heap.size 35 noP) ∧ Hid (SetIn wr (w.heap.size + 1) 35 (mixP noP (notP noP) k)) ∧ Hid (Below w.heap.size w wr) ∧ 32 - k ≤ n)
    case atStart => exact ⟨0, by omega, rfl, HA0.out, HM0.out, HB0.out, by omega⟩
    case round =>
      clear HA0 HM0 HB0
      obtain ⟨k, hk, rfl, HA, HS, HB, hgn⟩ := hrel
      by_cases hkl : k < 32
      · have q2 := HS.out.cell k hkl
        have qf := HS.out.free k
        rw [mix_byte, if_neg (by omega)] at q2
        have HS2 := Lib.hid (HS.out.mix hkl)
        rw [full_byte k] at HS2
        generalize byteOf noP k = v at q2
        go_wp2_with fail
        go_roundg (32 - (k + 1))
        case measure => omega
        case rel => exact ⟨k + 1, by omega, by go_num, HA.out.keep (Below.heap_setCell _ _ _ _ (by show w.heap.size ≠ w.heap.size + 1; omega)), HS2.out, HB.out.setCell (p := ⟨w.heap.size + 1, k, none⟩) (Nat.le_succ _) _, Nat.le_refl _⟩
      · obtain rfl : k = 32 := by omega
        have HI : Hid (SetIn wr (w.heap.size + 1) 35 (notP noP)) := HS.out.congr fun n hn => by unfold mixP; rw [if_pos (by omega)]
        go_wp2_with (first
          | (refine wpList_load_row rfl 35 (.tmp 7) rfl ((w.heap.size + 1)) rfl 35 (setC (notP noP)).toArray (0, 0) _ HI.out Try.underlying35 rfl (by rw [rset_size, setC_size]) ?_)
          | (refine wpList_store_row rfl 35 (.tmp 4) (.tmp 22) rfl (w.heap.size) (setC (notP noP)).toArray rfl rfl 35 (setC noP).toArray HA.out (by rw [rset_size, setC_size]) (by simp only [setC_size]) (setC_one _) ?_))
        exact bodyPost_ret (v := .tuple #[.agg (setC (notP noP)).toArray, .int .i64 ((i + 1 : Nat) : Int), .int .i64 (-1)]) (rres_set3 Try.results35 _ _ w.heap.size 35 (notP noP) _ _ rfl rfl rfl (HA.out.row (notP noP))) rfl ⟨⟨(notP noP), by rw [HF.out]; exact fun _ _ _ => rfl, by (rw [HF.out] <;> rfl)⟩, below_setRow HB.out (Nat.le_refl _) _⟩
  have t46 : ((s[i].toNat : Int) == 46) = false := beq_eq_false_iff_ne.2 (by omega)
  by_cases h91 : c = 91
  · have t91 : ((s[i].toNat : Int) == 91) = true := beq_iff_eq.2 (by omega)
    have HF : Hid (outF s i = bracketsF s i) := by
      show _ = _
      unfold outF
      rw [← HC.out, if_neg h46, if_neg (by omega), if_pos h91]
    clear h46 h91 hg
    obtain ⟨r, HRR⟩ : ∃ r, Hid (bracketsF s i = r) := ⟨_, rfl⟩
    rw [HRR.out] at HF
    by_cases hb : r.bad = true
    · have HBR := Lib.hid ((rbrackets_any w1 s i hi hs).mono fun e w' h => RetSet.no h (by rw [HRR.out]; exact hb))
      rw [HRR.out] at HBR
      go_wp2_with (first
        | (go_at_call 50; refine HBR.out.mono ?_; rintro e w3 ⟨⟨p, rfl⟩, hb3⟩)
        | (refine wpList_store_row rfl 35 (.tmp 4) (.tmp 33) rfl (w.heap.size) (setC p).toArray rfl rfl 35 (setC noP).toArray (HA0.out.below hb3) (by rw [rset_size, setC_size]) (by simp only [setC_size]) (setC_one _) ?_))
      have HB3 := Lib.hid (HB0.out.trans (hb3.mono HB0.out.size))
      exact bodyPost_ret (v := .tuple #[.agg (setC p).toArray, .int .i64 0, .int .i64 (r.j : Nat)]) (rres_set3 Try.results35 _ _ w.heap.size 35 p _ _ rfl rfl rfl ((HA0.out.below hb3).row p)) rfl ⟨⟨p, by (rw [HF.out]; exact fun h => by rw [hb] at h; exact Bool.noConfusion h), by (rw [HF.out, hb] <;> rfl)⟩, below_setRow HB3.out (Nat.le_refl _) _⟩
    · have hb' : r.bad = false := by simpa using hb
      have HBR := Lib.hid ((rbrackets_any w1 s i hi hs).mono fun e w' h => RetSet.ok h (by rw [HRR.out]; exact hb'))
      rw [HRR.out] at HBR
      go_wp2_with (first
        | (go_at_call 50; refine HBR.out.mono ?_; rintro e w3 ⟨rfl, hb3⟩)
        | (refine wpList_store_row rfl 35 (.tmp 4) (.tmp 33) rfl (w.heap.size) (setC r.p).toArray rfl rfl 35 (setC noP).toArray (HA0.out.below hb3) (by rw [rset_size, setC_size]) (by simp only [setC_size]) (setC_one _) ?_))
      have HB3 := Lib.hid (HB0.out.trans (hb3.mono HB0.out.size))
      exact bodyPost_ret (v := .tuple #[.agg (setC r.p).toArray, .int .i64 (r.j : Nat), .int .i64 (-1)]) (rres_set3 Try.results35 _ _ w.heap.size 35 r.p _ _ rfl rfl rfl ((HA0.out.below hb3).row r.p)) rfl ⟨⟨r.p, by (rw [HF.out]; exact fun _ _ _ => rfl), by (rw [HF.out, hb'] <;> rfl)⟩, below_setRow HB3.out (Nat.le_refl _) _⟩
  have t91 : ((s[i].toNat : Int) == 91) = false := beq_eq_false_iff_ne.2 (by omega)
  by_cases h92 : c = 92
  · have t92 : ((s[i].toNat : Int) == 92) = true := beq_iff_eq.2 (by omega)
    have HE : Hid (outF s i = escF s i) := by
      show _ = _
      unfold outF
      rw [← HC.out, if_neg h46, if_pos h92]
    clear h46 h91 h92 hg
    by_cases h1 : i + 1 < s.size
    · have h1i : ¬ (s.size : Int) ≤ (i : Int) + 1 := by omega
      have h1j : (i : Int) + 1 < (s.size : Int) := by omega
      by_cases hok : okL (bt s (i + 1)) = true
      · have HF : Hid (outF s i = ⟨setL (bt s (i + 1)), bt s (i + 1), false, i + 2, false⟩) := by show _ = _; rw [HE.out, esc_cls s i h1 hok]
        have HCL := Lib.hid (fun w => rclass_ok (bt s (i + 1)) w (bt_lt _ _) hok)
        clear HE
        rw [show bt s (i + 1) = s[i + 1].toNat from bt_get s (i + 1) h1] at HCL HF
        clear hok
        generalize setL (s[i + 1].toNat) = q at HF HCL
        go_upto_region 15 with (first
          | (go_at_call 51; refine (HCL.out _).mono ?_; rintro e w3 ⟨rfl, hb3⟩)
          | (refine wpList_store_row rfl 35 (.tmp 9) (.tmp 55) rfl (w3.heap.size) (setC q).toArray rfl rfl 35 (setC noP).toArray (zero_in w3 35) (by rw [rset_size, setC_size]) (by simp only [setC_size]) (setC_one _) ?_))
        have HB := HB0
        have HA := HA0
        have HS := HS0
        have hsz3 := HB.out.size
        have hlt3 := HS.out.lt
        have hsz4 := hb3.size
        have HA5 : Hid (SetIn ((w3.alloc (.cells #[.int .u8 0, .int .u8 0, .int .u8 0, .int .u8 0, .int .u8 0, .int .u8 0, .int .u8 0, .int .u8 0, .int .u8 0, .int .u8 0, .int .u8 0, .int .u8 0, .int .u8 0, .int .u8 0, .int .u8 0, .int .u8 0, .int .u8 0, .int .u8 0, .int .u8 0, .int .u8 0, .int .u8 0, .int .u8 0, .int .u8 0, .int .u8 0, .int .u8 0, .int .u8 0, .int .u8 0, .int .u8 0, .int .u8 0, .int .u8 0, .int .u8 0, .int .u8 0] 35)).setRow w3.heap.size (setC q).toArray) w.heap.size 35 noP) := ((HA.out.below hb3).keep (Below.heap_alloc _ _ _ (by omega))).keep (setRow_other _ _ _ _ (by omega))
        have HS5 : Hid (SetIn ((w3.alloc (.cells #[.int .u8 0, .int .u8 0, .int .u8 0, .int .u8 0, .int .u8 0, .int .u8 0, .int .u8 0, .int .u8 0, .int .u8 0, .int .u8 0, .int .u8 0, .int .u8 0, .int .u8 0, .int .u8 0, .int .u8 0, .int .u8 0, .int .u8 0, .int .u8 0, .int .u8 0, .int .u8 0, .int .u8 0, .int .u8 0, .int .u8 0, .int .u8 0, .int .u8 0, .int .u8 0, .int .u8 0, .int .u8 0, .int .u8 0, .int .u8 0, .int .u8 0, .int .u8 0] 35)).setRow w3.heap.size (setC q).toArray) (w.heap.size + 1) 35 noP) := ((HS.out.below hb3).keep (Below.heap_alloc _ _ _ (by omega))).keep (setRow_other _ _ _ _ (by omega))
        have HC5 : Hid (SetIn ((w3.alloc (.cells #[.int .u8 0, .int .u8 0, .int .u8 0, .int .u8 0, .int .u8 0, .int .u8 0, .int .u8 0, .int .u8 0, .int .u8 0, .int .u8 0, .int .u8 0, .int .u8 0, .int .u8 0, .int .u8 0, .int .u8 0, .int .u8 0, .int .u8 0, .int .u8 0, .int .u8 0, .int .u8 0, .int .u8 0, .int .u8 0, .int .u8 0, .int .u8 0, .int .u8 0, .int .u8 0, .int .u8 0, .int .u8 0, .int .u8 0, .int .u8 0, .int .u8 0, .int .u8 0] 35)).setRow w3.heap.size (setC q).toArray) w3.heap.size 35 q) := (zero_in w3 35).row q
        have HB5 : Hid (Below w.heap.size w ((w3.alloc (.cells #[.int .u8 0, .int .u8 0, .int .u8 0, .int .u8 0, .int .u8 0, .int .u8 0, .int .u8 0, .int .u8 0, .int .u8 0, .int .u8 0, .int .u8 0, .int .u8 0, .int .u8 0, .int .u8 0, .int .u8 0, .int .u8 0, .int .u8 0, .int .u8 0, .int .u8 0, .int .u8 0, .int .u8 0, .int .u8 0, .int .u8 0, .int .u8 0, .int .u8 0, .int .u8 0, .int .u8 0, .int .u8 0, .int .u8 0, .int .u8 0, .int .u8 0, .int .u8 0] 35)).setRow w3.heap.size (setC q).toArray)) := below_setRow ((HB.out.trans (hb3.mono (by omega))).alloc (by omega) _) (by omega) _
        have hgg : w.heap.size + 1 < w3.heap.size := by omega
        clear HA HS HB HA0 HS0 HB0 hb3 HCL hsz3 hlt3 hsz4
        generalize hw3 : w3.heap.size = g at HA5 HS5 HC5 HB5 hgg ⊢
        generalize (w3.alloc (.cells #[.int .u8 0, .int .u8 0, .int .u8 0, .int .u8 0, .int .u8 0, .int .u8 0, .int .u8 0, .int .u8 0, .int .u8 0, .int .u8 0, .int .u8 0, .int .u8 0, .int .u8 0, .int .u8 0, .int .u8 0, .int .u8 0, .int .u8 0, .int .u8 0, .int .u8 0, .int .u8 0, .int .u8 0, .int .u8 0, .int .u8 0, .int .u8 0, .int .u8 0, .int .u8 0, .int .u8 0, .int .u8 0, .int .u8 0, .int .u8 0, .int .u8 0, .int .u8 0] 35)).setRow g (setC q).toArray = w5 at HA5 HS5 HC5 HB5 ⊢
        clear hw3
        go_wp2_with (first
          | (refine wpList_load_row rfl 35 (.tmp 9) rfl (g) rfl 35 (setC q).toArray (0, 0) _ HC5.out Try.underlying35 rfl (by rw [rset_size, setC_size]) ?_)
          | (refine wpList_store_row rfl 35 (.tmp 4) (.tmp 58) rfl (w.heap.size) (setC q).toArray rfl rfl 35 (setC noP).toArray HA5.out (by rw [rset_size, setC_size]) (by simp only [setC_size]) (setC_one _) ?_))
        exact bodyPost_ret (v := .tuple #[.agg (setC q).toArray, .int .i64 ((i + 2 : Nat) : Int), .int .i64 (-1)]) (rres_set3 Try.results35 _ _ w.heap.size 35 q _ _ rfl rfl rfl (HA5.out.row q)) rfl ⟨⟨q, by rw [HF.out]; exact fun _ _ _ => rfl, by (rw [HF.out] <;> rfl)⟩, below_setRow HB5.out (Nat.le_refl _) _⟩
      · have hok' : okL (bt s (i + 1)) = false := by simpa using hok
        have HCL := Lib.hid (fun w => rclass_no (bt s (i + 1)) w (bt_lt _ _) hok')
        rw [show bt s (i + 1) = s[i + 1].toNat from bt_get s (i + 1) h1] at HCL
        go_upto_region 15 with (first
          | (go_at_call 51; refine (HCL.out _).mono ?_; rintro e w3 ⟨⟨q, rfl⟩, hb3⟩)
          | (refine wpList_store_row rfl 35 (.tmp 9) (.tmp 55) rfl (w3.heap.size) (setC q).toArray rfl rfl 35 (setC noP).toArray (zero_in w3 35) (by rw [rset_size, setC_size]) (by simp only [setC_size]) (setC_one _) ?_))
        have HB := HB0
        have HA := HA0
        have HS := HS0
        have hsz3 := HB.out.size
        have hlt3 := HS.out.lt
        have hsz4 := hb3.size
        have HA5 : Hid (SetIn ((w3.alloc (.cells #[.int .u8 0, .int .u8 0, .int .u8 0, .int .u8 0, .int .u8 0, .int .u8 0, .int .u8 0, .int .u8 0, .int .u8 0, .int .u8 0, .int .u8 0, .int .u8 0, .int .u8 0, .int .u8 0, .int .u8 0, .int .u8 0, .int .u8 0, .int .u8 0, .int .u8 0, .int .u8 0, .int .u8 0, .int .u8 0, .int .u8 0, .int .u8 0, .int .u8 0, .int .u8 0, .int .u8 0, .int .u8 0, .int .u8 0, .int .u8 0, .int .u8 0, .int .u8 0] 35)).setRow w3.heap.size (setC q).toArray) w.heap.size 35 noP) := ((HA.out.below hb3).keep (Below.heap_alloc _ _ _ (by omega))).keep (setRow_other _ _ _ _ (by omega))
        have HS5 : Hid (SetIn ((w3.alloc (.cells #[.int .u8 0, .int .u8 0, .int .u8 0, .int .u8 0, .int .u8 0, .int .u8 0, .int .u8 0, .int .u8 0, .int .u8 0, .int .u8 0, .int .u8 0, .int .u8 0, .int .u8 0, .int .u8 0, .int .u8 0, .int .u8 0, .int .u8 0, .int .u8 0, .int .u8 0, .int .u8 0, .int .u8 0, .int .u8 0, .int .u8 0, .int .u8 0, .int .u8 0, .int .u8 0, .int .u8 0, .int .u8 0, .int .u8 0, .int .u8 0, .int .u8 0, .int .u8 0] 35)).setRow w3.heap.size (setC q).toArray) (w.heap.size + 1) 35 noP) := ((HS.out.below hb3).keep (Below.heap_alloc _ _ _ (by omega))).keep (setRow_other _ _ _ _ (by omega))
        have HC5 : Hid (SetIn ((w3.alloc (.cells #[.int .u8 0, .int .u8 0, .int .u8 0, .int .u8 0, .int .u8 0, .int .u8 0, .int .u8 0, .int .u8 0, .int .u8 0, .int .u8 0, .int .u8 0, .int .u8 0, .int .u8 0, .int .u8 0, .int .u8 0, .int .u8 0, .int .u8 0, .int .u8 0, .int .u8 0, .int .u8 0, .int .u8 0, .int .u8 0, .int .u8 0, .int .u8 0, .int .u8 0, .int .u8 0, .int .u8 0, .int .u8 0, .int .u8 0, .int .u8 0, .int .u8 0, .int .u8 0] 35)).setRow w3.heap.size (setC q).toArray) w3.heap.size 35 q) := (zero_in w3 35).row q
        have HB5 : Hid (Below w.heap.size w ((w3.alloc (.cells #[.int .u8 0, .int .u8 0, .int .u8 0, .int .u8 0, .int .u8 0, .int .u8 0, .int .u8 0, .int .u8 0, .int .u8 0, .int .u8 0, .int .u8 0, .int .u8 0, .int .u8 0, .int .u8 0, .int .u8 0, .int .u8 0, .int .u8 0, .int .u8 0, .int .u8 0, .int .u8 0, .int .u8 0, .int .u8 0, .int .u8 0, .int .u8 0, .int .u8 0, .int .u8 0, .int .u8 0, .int .u8 0, .int .u8 0, .int .u8 0, .int .u8 0, .int .u8 0] 35)).setRow w3.heap.size (setC q).toArray)) := below_setRow ((HB.out.trans (hb3.mono (by omega))).alloc (by omega) _) (by omega) _
        have hgg : w.heap.size + 1 < w3.heap.size := by omega
        clear HA HS HB HA0 HS0 HB0 hb3 HCL hsz3 hlt3 hsz4
        generalize hw3 : w3.heap.size = g at HA5 HS5 HC5 HB5 hgg ⊢
        generalize (w3.alloc (.cells #[.int .u8 0, .int .u8 0, .int .u8 0, .int .u8 0, .int .u8 0, .int .u8 0, .int .u8 0, .int .u8 0, .int .u8 0, .int .u8 0, .int .u8 0, .int .u8 0, .int .u8 0, .int .u8 0, .int .u8 0, .int .u8 0, .int .u8 0, .int .u8 0, .int .u8 0, .int .u8 0, .int .u8 0, .int .u8 0, .int .u8 0, .int .u8 0, .int .u8 0, .int .u8 0, .int .u8 0, .int .u8 0, .int .u8 0, .int .u8 0, .int .u8 0, .int .u8 0] 35)).setRow g (setC q).toArray = w5 at HA5 HS5 HC5 HB5 ⊢
        clear hw3
        clear HC5
        by_cases h5 : clsN (bt s (i + 1) : Int) = 5
        · have HF : Hid (outF s i = ⟨oneP (bt s (i + 1)), bt s (i + 1), true, i + 2, false⟩) := by show _ = _; rw [HE.out]; unfold escF; rw [if_pos h1, if_pos h5]
          have t5 : (clsN (bt s (i + 1) : Int) != 5) = false := by simpa using h5
          rw [bt_get s (i + 1) h1] at t5 HF
          clear h5 hok hok' HE
          go_wp2_with (first
            | (go_at_call 52; refine (cls_byte _ _).mono ?_; rintro e w' ⟨rfl, rfl⟩)
            | fail
            | (go_at_call 53; refine (put_any noP (w.heap.size + 1) s[i + 1].toNat _ _ (by exact HS5.out) (by first | omega | exact UInt8.toNat_lt _)).mono ?_; rintro e w2 ⟨rfl, hs2, ho2⟩)
            | (refine wpList_load_row rfl 35 (.tmp 7) rfl ((w.heap.size + 1)) rfl 35 (setC (oneP (s[i + 1].toNat))).toArray (0, 0) _ hs2 Try.underlying35 rfl (by rw [rset_size, setC_size]) ?_)
            | (refine wpList_store_row rfl 35 (.tmp 4) (.tmp 75) rfl (w.heap.size) (setC (oneP (s[i + 1].toNat))).toArray rfl rfl 35 (setC noP).toArray (HA5.out.keep (ho2.block _ HA5.out.lt (by omega))) (by rw [rset_size, setC_size]) (by simp only [setC_size]) (setC_one _) ?_))
          have HB6 := Lib.hid (HB5.out.trans (ho2.below (B := w.heap.size) (Nat.le_succ _) HB5.out.size))
          exact bodyPost_ret (v := .tuple #[.agg (setC (oneP (s[i + 1].toNat))).toArray, .int .i64 ((i + 2 : Nat) : Int), .int .i64 (-1)]) (rres_set3 Try.results35 _ _ w.heap.size 35 (oneP (s[i + 1].toNat)) _ _ rfl rfl rfl ((HA5.out.keep (ho2.block _ HA5.out.lt (by omega))).row (oneP (s[i + 1].toNat)))) rfl ⟨⟨(oneP (s[i + 1].toNat)), by rw [HF.out]; exact fun _ _ _ => rfl, by (rw [HF.out] <;> rfl)⟩, below_setRow HB6.out (Nat.le_refl _) _⟩
        · have HF : Hid (outF s i = badR (i + 1)) := by show _ = _; rw [HE.out]; unfold escF; rw [if_pos h1, if_neg h5, classP_okL _ (bt_lt _ _) hok]
          have t5 : (clsN (bt s (i + 1) : Int) != 5) = true := by simpa using h5
          rw [bt_get s (i + 1) h1] at t5
          clear h5 hok hok' HE
          go_wp2_with (first
            | (go_at_call 52; refine (cls_byte _ _).mono ?_; rintro e w' ⟨rfl, rfl⟩)
            | (refine wpList_load_row rfl 35 (.tmp 7) rfl ((w.heap.size + 1)) rfl 35 (setC noP).toArray (0, 0) _ HS5.out Try.underlying35 rfl (by rw [rset_size, setC_size]) ?_)
            | (refine wpList_store_row rfl 35 (.tmp 4) (.tmp 67) rfl (w.heap.size) (setC noP).toArray rfl rfl 35 (setC noP).toArray HA5.out (by rw [rset_size, setC_size]) (by simp only [setC_size]) (setC_one _) ?_))
          exact bodyPost_ret (v := .tuple #[.agg (setC noP).toArray, .int .i64 0, .int .i64 ((i + 1 : Nat) : Int)]) (rres_set3 Try.results35 _ _ w.heap.size 35 noP _ _ rfl rfl rfl (HA5.out.row noP)) rfl ⟨⟨noP, by rw [HF.out]; exact fun h => Bool.noConfusion h, by (rw [HF.out] <;> rfl)⟩, below_setRow HB5.out (Nat.le_refl _) _⟩
    · have h1i : (s.size : Int) ≤ (i : Int) + 1 := by omega
      have HF : Hid (outF s i = badR s.size) := by show _ = _; rw [HE.out]; unfold escF; rw [if_neg h1, show s.size = i + 1 by omega]
      clear HE
      go_wp2_with (first
        | (refine wpList_load_row rfl 35 (.tmp 7) rfl ((w.heap.size + 1)) rfl 35 (setC noP).toArray (0, 0) _ HS0.out Try.underlying35 rfl (by rw [rset_size, setC_size]) ?_)
        | (refine wpList_store_row rfl 35 (.tmp 4) (.tmp 46) rfl (w.heap.size) (setC noP).toArray rfl rfl 35 (setC noP).toArray HA0.out (by rw [rset_size, setC_size]) (by simp only [setC_size]) (setC_one _) ?_))
      exact bodyPost_ret (v := .tuple #[.agg (setC noP).toArray, .int .i64 0, .int .i64 (s.size : Int)]) (rres_set3 Try.results35 _ _ w.heap.size 35 noP _ _ rfl rfl rfl (HA0.out.row noP)) rfl ⟨⟨noP, by rw [HF.out]; exact fun h => Bool.noConfusion h, by (rw [HF.out] <;> rfl)⟩, below_setRow HB0.out (Nat.le_refl _) _⟩
  have t92 : ((s[i].toNat : Int) == 92) = false := beq_eq_false_iff_ne.2 (by omega)
  have HPL := Lib.hid (fun w => plain_any c (⟨#[42, 43, 63, 40, 41, 124, 93, 123, 125]⟩ : ByteArray) w hcc (by decide))
  rw [plain_out] at HPL
  by_cases hp : (wrB c && !inOut c) = true
  · have HF : Hid (outF s i = ⟨oneP c, c, true, i + 1, false⟩) := by
      show _ = _
      unfold outF
      rw [← HC.out, if_neg h46, if_neg h92, if_neg h91, if_pos (by simpa using hp)]
    rw [hp, ← hg] at HPL
    rw [← hg] at HF
    clear hp h46 h91 h92 hg HC hcc
    go_wp2_with (first
      | (go_at_call 52; refine (cls_byte _ _).mono ?_; rintro e w' ⟨rfl, rfl⟩)
      | (go_at_call 54; refine (HPL.out _).mono ?_; rintro e w' ⟨rfl, rfl⟩)
      | (go_at_call 53; refine (put_any noP (w.heap.size + 1) s[i].toNat _ _ (by exact HS0.out) (by first | omega | exact UInt8.toNat_lt _)).mono ?_; rintro e w2 ⟨rfl, hs2, ho2⟩)
      | (refine wpList_load_row rfl 35 (.tmp 7) rfl ((w.heap.size + 1)) rfl 35 (setC (oneP (s[i].toNat))).toArray (0, 0) _ hs2 Try.underlying35 rfl (by rw [rset_size, setC_size]) ?_)
      | (refine wpList_store_row rfl 35 (.tmp 4) (.tmp 87) rfl (w.heap.size) (setC (oneP (s[i].toNat))).toArray rfl rfl 35 (setC noP).toArray (HA0.out.keep (ho2.block _ HA0.out.lt (by omega))) (by rw [rset_size, setC_size]) (by simp only [setC_size]) (setC_one _) ?_))
    have HB6 := Lib.hid (HB0.out.trans (ho2.below (B := w.heap.size) (Nat.le_succ _) HB0.out.size))
    exact bodyPost_ret (v := .tuple #[.agg (setC (oneP (s[i].toNat))).toArray, .int .i64 ((i + 1 : Nat) : Int), .int .i64 (-1)]) (rres_set3 Try.results35 _ _ w.heap.size 35 (oneP (s[i].toNat)) _ _ rfl rfl rfl ((HA0.out.keep (ho2.block _ HA0.out.lt (by omega))).row (oneP (s[i].toNat)))) rfl ⟨⟨(oneP (s[i].toNat)), by rw [HF.out]; exact fun _ _ _ => rfl, by (rw [HF.out] <;> rfl)⟩, below_setRow HB6.out (Nat.le_refl _) _⟩
  · have HF : Hid (outF s i = badR i) := by
      show _ = _
      unfold outF
      rw [← HC.out, if_neg h46, if_neg h92, if_neg h91, if_neg (by simpa using hp)]
    rw [(Bool.not_eq_true _).mp hp, ← hg] at HPL
    clear hp h46 h91 h92 hg HC hcc
    go_wp2_with (first
      | (go_at_call 54; refine (HPL.out _).mono ?_; rintro e w' ⟨rfl, rfl⟩)
      | (refine wpList_load_row rfl 35 (.tmp 7) rfl ((w.heap.size + 1)) rfl 35 (setC noP).toArray (0, 0) _ HS0.out Try.underlying35 rfl (by rw [rset_size, setC_size]) ?_)
      | (refine wpList_store_row rfl 35 (.tmp 4) (.tmp 90) rfl (w.heap.size) (setC noP).toArray rfl rfl 35 (setC noP).toArray HA0.out (by rw [rset_size, setC_size]) (by simp only [setC_size]) (setC_one _) ?_))
    exact bodyPost_ret (v := .tuple #[.agg (setC noP).toArray, .int .i64 0, .int .i64 ((i : Nat) : Int)]) (rres_set3 Try.results35 _ _ w.heap.size 35 noP _ _ rfl rfl rfl (HA0.out.row noP)) rfl ⟨⟨noP, by rw [HF.out]; exact fun h => Bool.noConfusion h, by (rw [HF.out] <;> rfl)⟩, below_setRow HB0.out (Nat.le_refl _) _⟩

end Go.Proofs.Ytanpiidhcijfaaa
