
/-
  The reference of chapter 5: sets in brackets.
-/
import Derived.Test.YtanpiidhcijfaaaMathRef
import Derived.Deep.LoopGhost
import Derived.Deep.DeepCutAuto
import Derived.Deep.CutBlock
namespace Go.Proofs.Ytanpiidhcijfaaa
open Go.RowKit

theorem rclass_ok (c : Nat) (w : World) (hc : c < 256) (h : okL c = true) :
    Calls Try.prog 51 #[.int .u8 c] w fun e w' => e = .returned (.tuple #[.agg (setC (setL c)).toArray, .bool true]) ∧ Below w.heap.size w w' :=
  (rclass_any c w hc).mono fun e w' ⟨⟨p, hp, he⟩, hb⟩ => ⟨by rw [he, hp h, h], hb⟩
theorem rclass_no (c : Nat) (w : World) (hc : c < 256) (h : okL c = false) :
    Calls Try.prog 51 #[.int .u8 c] w fun e w' => (∃ p, e = .returned (.tuple #[.agg (setC p).toArray, .bool false])) ∧ Below w.heap.size w w' :=
  (rclass_any c w hc).mono fun e w' ⟨⟨p, hp, he⟩, hb⟩ => ⟨⟨p, by rw [he, h]⟩, hb⟩
theorem rres_set3 {fn : Func} {p u v : Tmp} (h : fn.results = #[.cell p 35, .tmp u, .tmp v]) (tmps : Array Value) (w : World) (g : Nat) (t : TypeId) (q : Nat → Bool) (x y : Value) (hp : tmps.getD p undef = .pointer (some ⟨g, 0, none⟩)) (hu : tmps.getD u undef = x) (hv : tmps.getD v undef = y) (hs : SetIn w g t q) :
    (results fn tmps).run Try.prog w = .ok (.tuple #[.agg (setC q).toArray, x, y]) w := by
  rw [results_cell_tmp2 h, hp, hu, hv]
  have hl := run_loadVar_row (P := Try.prog) w g t 35 (setC q).toArray (0, 0) _ hs Try.underlying35 rfl (by rw [rset_size, setC_size])
  simp [asAddr, Result.andThen, hl]
def neg94 (s : ByteArray) (i : Nat) : Bool := decide (i + 1 < s.size ∧ bt s (i + 1) = 94)
def cls92 (s : ByteArray) (j : Nat) : Bool := decide (bt s j = 92 ∧ j + 1 < s.size)
/-- What follows behind a member. -/
def goM (s : ByteArray) (f : Nat) (R : (Nat → Bool) × Nat × Bool) : (Nat → Bool) × Nat × Bool := if R.2.2 = true then (noP, R.2.1, true) else memsF s f R.2.1 true R.1

set_option maxRecDepth 100000 in
set_option maxHeartbeats 16000000 in
theorem rbrackets_any (w : World) (s : ByteArray) (i : Nat) (hi : i < s.size) (hs : s.size ≤ 2147483648) :
    Calls Try.prog 50 #[.string s, .int .i64 i] w (RetSet w (bracketsF s i)) := by
  have HA0 : Hid (SetIn ((w.alloc (.cells #[.int .u8 0, .int .u8 0, .int .u8 0, .int .u8 0, .int .u8 0, .int .u8 0, .int .u8 0, .int .u8 0, .int .u8 0, .int .u8 0, .int .u8 0, .int .u8 0, .int .u8 0, .int .u8 0, .int .u8 0, .int .u8 0, .int .u8 0, .int .u8 0, .int .u8 0, .int .u8 0, .int .u8 0, .int .u8 0, .int .u8 0, .int .u8 0, .int .u8 0, .int .u8 0, .int .u8 0, .int .u8 0, .int .u8 0, .int .u8 0, .int .u8 0, .int .u8 0] 35)).alloc (.cells #[.int .u8 0, .int .u8 0, .int .u8 0, .int .u8 0, .int .u8 0, .int .u8 0, .int .u8 0, .int .u8 0, .int .u8 0, .int .u8 0, .int .u8 0, .int .u8 0, .int .u8 0, .int .u8 0, .int .u8 0, .int .u8 0, .int .u8 0, .int .u8 0, .int .u8 0, .int .u8 0, .int .u8 0, .int .u8 0, .int .u8 0, .int .u8 0, .int .u8 0, .int .u8 0, .int .u8 0, .int .u8 0, .int .u8 0, .int .u8 0, .int .u8 0, .int .u8 0] 35)) w.heap.size 35 noP) := (zero_in w 35).keep (Below.heap_alloc _ _ _ (by simp))
  have HS0 : Hid (SetIn ((w.alloc (.cells #[.int .u8 0, .int .u8 0, .int .u8 0, .int .u8 0, .int .u8 0, .int .u8 0, .int .u8 0, .int .u8 0, .int .u8 0, .int .u8 0, .int .u8 0, .int .u8 0, .int .u8 0, .int .u8 0, .int .u8 0, .int .u8 0, .int .u8 0, .int .u8 0, .int .u8 0, .int .u8 0, .int .u8 0, .int .u8 0, .int .u8 0, .int .u8 0, .int .u8 0, .int .u8 0, .int .u8 0, .int .u8 0, .int .u8 0, .int .u8 0, .int .u8 0, .int .u8 0] 35)).alloc (.cells #[.int .u8 0, .int .u8 0, .int .u8 0, .int .u8 0, .int .u8 0, .int .u8 0, .int .u8 0, .int .u8 0, .int .u8 0, .int .u8 0, .int .u8 0, .int .u8 0, .int .u8 0, .int .u8 0, .int .u8 0, .int .u8 0, .int .u8 0, .int .u8 0, .int .u8 0, .int .u8 0, .int .u8 0, .int .u8 0, .int .u8 0, .int .u8 0, .int .u8 0, .int .u8 0, .int .u8 0, .int .u8 0, .int .u8 0, .int .u8 0, .int .u8 0, .int .u8 0] 35)) (w.heap.size + 1) 35 noP) := by
    have h := zero_in (w.alloc (.cells #[.int .u8 0, .int .u8 0, .int .u8 0, .int .u8 0, .int .u8 0, .int .u8 0, .int .u8 0, .int .u8 0, .int .u8 0, .int .u8 0, .int .u8 0, .int .u8 0, .int .u8 0, .int .u8 0, .int .u8 0, .int .u8 0, .int .u8 0, .int .u8 0, .int .u8 0, .int .u8 0, .int .u8 0, .int .u8 0, .int .u8 0, .int .u8 0, .int .u8 0, .int .u8 0, .int .u8 0, .int .u8 0, .int .u8 0, .int .u8 0, .int .u8 0, .int .u8 0] 35)) 35
    rw [show (w.alloc (.cells #[.int .u8 0, .int .u8 0, .int .u8 0, .int .u8 0, .int .u8 0, .int .u8 0, .int .u8 0, .int .u8 0, .int .u8 0, .int .u8 0, .int .u8 0, .int .u8 0, .int .u8 0, .int .u8 0, .int .u8 0, .int .u8 0, .int .u8 0, .int .u8 0, .int .u8 0, .int .u8 0, .int .u8 0, .int .u8 0, .int .u8 0, .int .u8 0, .int .u8 0, .int .u8 0, .int .u8 0, .int .u8 0, .int .u8 0, .int .u8 0, .int .u8 0, .int .u8 0] 35)).heap.size = w.heap.size + 1 by simp] at h
    exact h
  have HB0 := Lib.hid (((Below.refl w.heap.size w).alloc (Nat.le_refl _) (.cells #[.int .u8 0, .int .u8 0, .int .u8 0, .int .u8 0, .int .u8 0, .int .u8 0, .int .u8 0, .int .u8 0, .int .u8 0, .int .u8 0, .int .u8 0, .int .u8 0, .int .u8 0, .int .u8 0, .int .u8 0, .int .u8 0, .int .u8 0, .int .u8 0, .int .u8 0, .int .u8 0, .int .u8 0, .int .u8 0, .int .u8 0, .int .u8 0, .int .u8 0, .int .u8 0, .int .u8 0, .int .u8 0, .int .u8 0, .int .u8 0, .int .u8 0, .int .u8 0] 35)).alloc (by simp) (.cells #[.int .u8 0, .int .u8 0, .int .u8 0, .int .u8 0, .int .u8 0, .int .u8 0, .int .u8 0, .int .u8 0, .int .u8 0, .int .u8 0, .int .u8 0, .int .u8 0, .int .u8 0, .int .u8 0, .int .u8 0, .int .u8 0, .int .u8 0, .int .u8 0, .int .u8 0, .int .u8 0, .int .u8 0, .int .u8 0, .int .u8 0, .int .u8 0, .int .u8 0, .int .u8 0, .int .u8 0, .int .u8 0, .int .u8 0, .int .u8 0, .int .u8 0, .int .u8 0] 35))
  obtain ⟨fin, HFI⟩ : ∃ fin, Hid (bracketsF s i = fin) := ⟨_, rfl⟩
  rw [HFI.out]
  go_enter Try.func50, Try.ntmps50
  go_upto_region 2 with fail
  generalize (w.alloc (.cells #[.int .u8 0, .int .u8 0, .int .u8 0, .int .u8 0, .int .u8 0, .int .u8 0, .int .u8 0, .int .u8 0, .int .u8 0, .int .u8 0, .int .u8 0, .int .u8 0, .int .u8 0, .int .u8 0, .int .u8 0, .int .u8 0, .int .u8 0, .int .u8 0, .int .u8 0, .int .u8 0, .int .u8 0, .int .u8 0, .int .u8 0, .int .u8 0, .int .u8 0, .int .u8 0, .int .u8 0, .int .u8 0, .int .u8 0, .int .u8 0, .int .u8 0, .int .u8 0] 35)).alloc (.cells #[.int .u8 0, .int .u8 0, .int .u8 0, .int .u8 0, .int .u8 0, .int .u8 0, .int .u8 0, .int .u8 0, .int .u8 0, .int .u8 0, .int .u8 0, .int .u8 0, .int .u8 0, .int .u8 0, .int .u8 0, .int .u8 0, .int .u8 0, .int .u8 0, .int .u8 0, .int .u8 0, .int .u8 0, .int .u8 0, .int .u8 0, .int .u8 0, .int .u8 0, .int .u8 0, .int .u8 0, .int .u8 0, .int .u8 0, .int .u8 0, .int .u8 0, .int .u8 0] 35) = w1 at HA0 HS0 HB0 ⊢
  go_upto_region 3 with fail
  go_cut [32] (fun v wx => v = .bool (neg94 s i) ∧ w1 = wx)
  case first =>
    by_cases h1 : i + 1 < s.size
    · have h1i : (i : Int) + 1 < (s.size : Int) := by omega
      by_cases h94 : s[i + 1].toNat = 94
      · have t94 : ((s[i + 1].toNat : Int) == 94) = true := beq_iff_eq.2 (by omega)
        have HD : Hid (neg94 s i = true) := decide_eq_true ⟨h1, by rw [bt_get s (i + 1) h1]; exact h94⟩
        clear h94
        go_wp2_with fail
        go_meet
        exact ⟨by rw [HD.out], rfl⟩
      · have t94 : ((s[i + 1].toNat : Int) == 94) = false := beq_eq_false_iff_ne.2 (by omega)
        have HD : Hid (neg94 s i = false) := decide_eq_false (fun h => h94 (by rw [← bt_get s (i + 1) h1]; exact h.2))
        clear h94
        go_wp2_with fail
        go_meet
        exact ⟨by rw [HD.out], rfl⟩
    · have h1i : ¬ (i : Int) + 1 < (s.size : Int) := by omega
      have HD : Hid (neg94 s i = false) := decide_eq_false (fun h => h1 h.1)
      go_wp2_with fail
      go_meet
      exact ⟨by rw [HD.out], rfl⟩
  case rest =>
    obtain ⟨rfl, rfl⟩ := hcut
    go_upto_if 32 with fail
    go_cut [8, 9] (fun v8 v9 wx => ∃ (j0 : Nat) (inv : Bool), v8 = .int .i64 j0 ∧ v9 = .bool inv ∧ j0 ≤ s.size ∧ Hid (bracketsF s i = finishF inv (memsF s (s.size + 1) j0 false noP)) ∧ w1 = wx)
    case first =>
      by_cases h94 : i + 1 < s.size ∧ bt s (i + 1) = 94
      · have t94 : neg94 s i = true := decide_eq_true h94
        rw [t94]
        have HBR : Hid (bracketsF s i = finishF true (memsF s (s.size + 1) (i + 2) false noP)) := by show _ = _; unfold bracketsF; rw [if_pos h94]
        have h1 := h94.1
        clear h94
        go_wp2_with fail
        go_meet
        exact ⟨i + 2, true, by go_num, rfl, by omega, HBR.out, rfl⟩
      · have t94 : neg94 s i = false := decide_eq_false h94
        rw [t94]
        have HBR : Hid (bracketsF s i = finishF false (memsF s (s.size + 1) (i + 1) false noP)) := by show _ = _; unfold bracketsF; rw [if_neg h94]
        clear h94
        go_wp2_with fail
        go_meet
        exact ⟨i + 1, false, by go_num, rfl, by omega, HBR.out, rfl⟩
    case rest =>
      obtain ⟨j0, inv, rfl, rfl, hj0, HBR, rfl⟩ := hcut
      obtain ⟨V, HV⟩ : ∃ V, Hid (V = memsF s (s.size + 1) j0 false noP) := ⟨_, rfl⟩
      have HF0 : Hid (fin = finishF inv V) := by show _ = _; rw [← HFI.out, HV.out]; exact HBR.out
      clear HBR
      have HV0 : Hid (memsF s (s.size + 1) j0 (decide (0 < 0)) noP = V) := HV.out.symm
      clear HV HFI
      go_wp2_with fail
      go_loopg [8, 10] (s.size - j0) (fun n jv mv wr => ∃ (j m : Nat) (p : Nat → Bool) (f : Nat), jv = .int .i64 j ∧ mv = .int .i64 m ∧ j ≤ s.size ∧ m ≤ j ∧ Hid (SetIn wr w.heap.size 35 noP) ∧ Hid (SetIn wr (w.heap.size + 1) 35 p) ∧ Hid (Below w.heap.size w wr) ∧ Hid (s.size - j < f ∧ memsF s f j (decide (0 < m)) p = V) ∧ s.size - j ≤ n)
      case atStart => exact ⟨j0, 0, noP, s.size + 1, rfl, rfl, by omega, by omega, HA0.out, HS0.out, HB0.out, ⟨by omega, HV0.out⟩, by omega⟩
      case round =>
        clear HA0 HS0 HB0 HV0
        obtain ⟨j, m, p, f, rfl, rfl, hj, hm, HA, HS, HB, HX, hgk⟩ := hrel
        obtain ⟨f', HF'⟩ : ∃ f', Hid (f = f' + 1) := ⟨f - 1, by have := HX.out.1; show _ = _; omega⟩
        by_cases hlt : j < s.size
        · have hlti : (j : Int) < (s.size : Int) := by omega
          have hlte : ¬ (s.size : Int) ≤ (j : Int) := by omega
          have HX1 : Hid (s.size - j < f' + 1 ∧ (if bt s j = 93 ∧ decide (0 < m) = true then (p, j + 1, false) else goM s f' (memberF s j p)) = V) := by
            have h := HX.out
            rw [HF'.out] at h
            unfold memsF at h
            rw [if_pos hlt] at h
            exact h
          clear HX HF'
          by_cases hex : bt s j = 93 ∧ 0 < m
          · have HVE : Hid (V = (p, j + 1, false)) := by show _ = _; rw [← HX1.out.2, if_pos ⟨hex.1, decide_eq_true hex.2⟩]
            have h93 : s[j].toNat = 93 := by rw [← bt_get s j hlt]; exact hex.1
            have t93 : ((s[j].toNat : Int) == 93) = true := beq_iff_eq.2 (by omega)
            have hm0i : (0 : Int) < (m : Int) := by omega
            clear HX1 hex h93
            cases hinv : inv with
            | true =>
              subst hinv
              have HF : Hid (fin = ⟨notP p, 0, false, j + 1, false⟩) := by show _ = _; rw [HF0.out, HVE.out]; rfl
              clear HVE HF0
              go_wp2_with fail
              obtain ⟨wo, rfl⟩ : ∃ wo : World, wo = wr := ⟨_, rfl⟩
              have HM0 : Hid (SetIn wo (w.heap.size + 1) 35 (mixP p (notP p) 0)) := HS.out.congr fun n _ => by unfold mixP; rw [if_neg (by omega)]
              clear HS
              go_loopg [140] 32 (fun n kv wr => ∃ k : Nat, k ≤ 32 ∧ kv = .int .i64 k ∧ Hid (SetIn wr w.heap.size 35 noP) ∧ Hid (SetIn wr (w.heap.size + 1) 35 (mixP p (notP p) k)) ∧ Hid (Below w.heap.size w wr) ∧ 32 - k ≤ n)
              case atStart => exact ⟨0, by omega, rfl, HA.out, HM0.out, HB.out, by omega⟩
              case round =>
                clear HA HM0 HB
                obtain ⟨k, hk, rfl, HA, HS, HB, hgn⟩ := hrel
                by_cases hkl : k < 32
                · have q2 := HS.out.cell k hkl
                  have qf := HS.out.free k
                  rw [mix_byte, if_neg (by omega)] at q2
                  have HS2 := Lib.hid (HS.out.mix hkl)
                  have HNT := Lib.hid (not_byte p k)
                  have hv := byteOf_lt p k
                  generalize byteOf p k = v at q2 HNT hv
                  go_wp2_with fail
                  rw [show IntKind.u8.max = 255 from rfl, HNT.out]
                  go_roundg (32 - (k + 1))
                  case measure => omega
                  case rel => exact ⟨k + 1, by omega, by go_num, HA.out.keep (Below.heap_setCell _ _ _ _ (by show w.heap.size ≠ w.heap.size + 1; omega)), HS2.out, HB.out.setCell (p := ⟨w.heap.size + 1, k, none⟩) (Nat.le_succ _) _, Nat.le_refl _⟩
                · obtain rfl : k = 32 := by omega
                  have HI : Hid (SetIn wr (w.heap.size + 1) 35 (notP p)) := HS.out.congr fun n hn => by unfold mixP; rw [if_pos (by omega)]
                  go_wp2_with (first
                    | (refine wpList_load_row rfl 35 (.tmp 7) rfl ((w.heap.size + 1)) rfl 35 (setC (notP p)).toArray (0, 0) _ HI.out Try.underlying35 rfl (by rw [rset_size, setC_size]) ?_)
                    | (refine wpList_store_row rfl 35 (.tmp 4) (.tmp 150) rfl (w.heap.size) (setC (notP p)).toArray rfl rfl 35 (setC noP).toArray HA.out (by rw [rset_size, setC_size]) (by simp only [setC_size]) (setC_one _) ?_))
                  exact bodyPost_ret (v := .tuple #[.agg (setC (notP p)).toArray, .int .i64 ((j + 1 : Nat) : Int), .int .i64 (-1)]) (rres_set3 Try.results50 _ _ w.heap.size 35 (notP p) _ _ rfl rfl rfl (HA.out.row (notP p))) rfl ⟨⟨(notP p), by rw [HF.out]; exact fun _ _ _ => rfl, by (rw [HF.out] <;> rfl)⟩, below_setRow HB.out (Nat.le_refl _) _⟩
            | false =>
              subst hinv
              have HF : Hid (fin = ⟨p, 0, false, j + 1, false⟩) := by show _ = _; rw [HF0.out, HVE.out]; rfl
              clear HVE HF0
              go_wp2_with (first
                | (refine wpList_load_row rfl 35 (.tmp 7) rfl ((w.heap.size + 1)) rfl 35 (setC p).toArray (0, 0) _ HS.out Try.underlying35 rfl (by rw [rset_size, setC_size]) ?_)
                | (refine wpList_store_row rfl 35 (.tmp 4) (.tmp 150) rfl (w.heap.size) (setC p).toArray rfl rfl 35 (setC noP).toArray HA.out (by rw [rset_size, setC_size]) (by simp only [setC_size]) (setC_one _) ?_))
              exact bodyPost_ret (v := .tuple #[.agg (setC p).toArray, .int .i64 ((j + 1 : Nat) : Int), .int .i64 (-1)]) (rres_set3 Try.results50 _ _ w.heap.size 35 p _ _ rfl rfl rfl (HA.out.row p)) rfl ⟨⟨p, by rw [HF.out]; exact fun _ _ _ => rfl, by (rw [HF.out] <;> rfl)⟩, below_setRow HB.out (Nat.le_refl _) _⟩
          · have HX0 : Hid (s.size - j < f' + 1 ∧ goM s f' (memberF s j p) = V) := by
              have h := HX1.out
              rw [if_neg (fun e => hex ⟨e.1, of_decide_eq_true e.2⟩)] at h
              exact h
            clear HX1
            go_upto_region 7 with fail
            go_cut [49] (fun v wx => v = .bool false ∧ wr = wx)
            case first =>
              by_cases h93 : s[j].toNat = 93
              · have t93 : ((s[j].toNat : Int) == 93) = true := beq_iff_eq.2 (by omega)
                have hm0i : ¬ (0 : Int) < (m : Int) := fun h => hex ⟨by rw [bt_get s j hlt]; exact h93, by omega⟩
                have hm0b : decide (0 < m) = false := decide_eq_false (by omega)
                clear h93 hex
                go_wp2_with fail
                go_meet
                exact ⟨rfl, rfl⟩
              · have t93 : ((s[j].toNat : Int) == 93) = false := beq_eq_false_iff_ne.2 (by omega)
                clear h93 hex
                go_wp2_with fail
                go_meet
                exact ⟨rfl, rfl⟩
            case rest =>
              obtain ⟨rfl, rfl⟩ := hcut
              clear hex
              go_upto_region 9 with fail
              go_cut [62] (fun v wx => v = .bool (cls92 s j) ∧ wr = wx)
              case first =>
                by_cases h92 : s[j].toNat = 92
                · have t92 : ((s[j].toNat : Int) == 92) = true := beq_iff_eq.2 (by omega)
                  have h92' : bt s j = 92 := by rw [bt_get s j hlt]; exact h92
                  by_cases h1 : j + 1 < s.size
                  · have h1i : (j : Int) + 1 < (s.size : Int) := by omega
                    have HD : Hid (cls92 s j = true) := decide_eq_true ⟨h92', h1⟩
                    clear h92 h92'
                    go_wp2_with fail
                    go_meet
                    exact ⟨by rw [HD.out], rfl⟩
                  · have h1i : ¬ (j : Int) + 1 < (s.size : Int) := by omega
                    have HD : Hid (cls92 s j = false) := decide_eq_false (fun h => h1 h.2)
                    clear h92 h92'
                    go_wp2_with fail
                    go_meet
                    exact ⟨by rw [HD.out], rfl⟩
                · have t92 : ((s[j].toNat : Int) == 92) = false := beq_eq_false_iff_ne.2 (by omega)
                  have HD : Hid (cls92 s j = false) := decide_eq_false (fun h => h92 (by rw [← bt_get s j hlt]; exact h.1))
                  clear h92
                  go_wp2_with fail
                  go_meet
                  exact ⟨by rw [HD.out], rfl⟩
              case rest =>
                obtain ⟨rfl, rfl⟩ := hcut
                go_upto_if 62 with fail
                go_cut [8, 11, 12] (fun v8 v11 v12 wx => ∃ q11 q12, v8 = .int .i64 j ∧ v11 = q11 ∧ v12 = q12 ∧ Hid (SetIn wx w.heap.size 35 noP) ∧ Hid (SetIn wx (w.heap.size + 1) 35 p) ∧ Hid (Below w.heap.size w wx) ∧ Hid (s.size - j < f' + 1 ∧ goM s f' (rmemF s j p) = V))
                case first =>
                  by_cases hcl : bt s j = 92 ∧ j + 1 < s.size
                  · have tcl : cls92 s j = true := decide_eq_true hcl
                    rw [tcl]
                    have h1 := hcl.2
                    have h1i : (j : Int) + 1 < (s.size : Int) := by omega
                    by_cases hok : okL (bt s (j + 1)) = true
                    · have HXE : Hid (s.size - (j + 2) < f' ∧ memsF s f' (j + 2) true (orP p (setL (bt s (j + 1)))) = V) := by
                        have h := HX0.out
                        rw [member_cls s j p hcl.1 h1 hok] at h
                        exact ⟨by omega, h.2⟩
                      have HCL := Lib.hid (fun w => rclass_ok (bt s (j + 1)) w (bt_lt _ _) hok)
                      rw [show bt s (j + 1) = s[j + 1].toNat from bt_get s (j + 1) h1] at HCL HXE
                      clear HX0 hok hcl
                      generalize setL (s[j + 1].toNat) = q at HXE HCL
                      go_upto_region 12 with (first
                        | (go_at_call 51; refine (HCL.out _).mono ?_; rintro e w3 ⟨rfl, hb3⟩)
                        | (refine wpList_store_row rfl 35 (.tmp 11) (.tmp 69) rfl (w3.heap.size) (setC q).toArray rfl rfl 35 (setC noP).toArray (zero_in w3 35) (by rw [rset_size, setC_size]) (by simp only [setC_size]) (setC_one _) ?_))
                      have hsz3 := HB.out.size
                      have hlt3 := HS.out.lt
                      have hsz4 := hb3.size
                      have HA5 : Hid (SetIn ((w3.alloc (.cells #[.int .u8 0, .int .u8 0, .int .u8 0, .int .u8 0, .int .u8 0, .int .u8 0, .int .u8 0, .int .u8 0, .int .u8 0, .int .u8 0, .int .u8 0, .int .u8 0, .int .u8 0, .int .u8 0, .int .u8 0, .int .u8 0, .int .u8 0, .int .u8 0, .int .u8 0, .int .u8 0, .int .u8 0, .int .u8 0, .int .u8 0, .int .u8 0, .int .u8 0, .int .u8 0, .int .u8 0, .int .u8 0, .int .u8 0, .int .u8 0, .int .u8 0, .int .u8 0] 35)).setRow w3.heap.size (setC q).toArray) w.heap.size 35 noP) := ((HA.out.below hb3).keep (Below.heap_alloc _ _ _ (by omega))).keep (setRow_other _ _ _ _ (by omega))
                      have HS5 : Hid (SetIn ((w3.alloc (.cells #[.int .u8 0, .int .u8 0, .int .u8 0, .int .u8 0, .int .u8 0, .int .u8 0, .int .u8 0, .int .u8 0, .int .u8 0, .int .u8 0, .int .u8 0, .int .u8 0, .int .u8 0, .int .u8 0, .int .u8 0, .int .u8 0, .int .u8 0, .int .u8 0, .int .u8 0, .int .u8 0, .int .u8 0, .int .u8 0, .int .u8 0, .int .u8 0, .int .u8 0, .int .u8 0, .int .u8 0, .int .u8 0, .int .u8 0, .int .u8 0, .int .u8 0, .int .u8 0] 35)).setRow w3.heap.size (setC q).toArray) (w.heap.size + 1) 35 p) := ((HS.out.below hb3).keep (Below.heap_alloc _ _ _ (by omega))).keep (setRow_other _ _ _ _ (by omega))
                      have HC5 : Hid (SetIn ((w3.alloc (.cells #[.int .u8 0, .int .u8 0, .int .u8 0, .int .u8 0, .int .u8 0, .int .u8 0, .int .u8 0, .int .u8 0, .int .u8 0, .int .u8 0, .int .u8 0, .int .u8 0, .int .u8 0, .int .u8 0, .int .u8 0, .int .u8 0, .int .u8 0, .int .u8 0, .int .u8 0, .int .u8 0, .int .u8 0, .int .u8 0, .int .u8 0, .int .u8 0, .int .u8 0, .int .u8 0, .int .u8 0, .int .u8 0, .int .u8 0, .int .u8 0, .int .u8 0, .int .u8 0] 35)).setRow w3.heap.size (setC q).toArray) w3.heap.size 35 q) := (zero_in w3 35).row q
                      have HB5 : Hid (Below w.heap.size w ((w3.alloc (.cells #[.int .u8 0, .int .u8 0, .int .u8 0, .int .u8 0, .int .u8 0, .int .u8 0, .int .u8 0, .int .u8 0, .int .u8 0, .int .u8 0, .int .u8 0, .int .u8 0, .int .u8 0, .int .u8 0, .int .u8 0, .int .u8 0, .int .u8 0, .int .u8 0, .int .u8 0, .int .u8 0, .int .u8 0, .int .u8 0, .int .u8 0, .int .u8 0, .int .u8 0, .int .u8 0, .int .u8 0, .int .u8 0, .int .u8 0, .int .u8 0, .int .u8 0, .int .u8 0] 35)).setRow w3.heap.size (setC q).toArray)) := below_setRow ((HB.out.trans (hb3.mono (by omega))).alloc (by omega) _) (by omega) _
                      have hg : w.heap.size + 1 < w3.heap.size := by omega
                      clear HA HS HB hb3 HCL hsz3 hlt3 hsz4
                      generalize hw3 : w3.heap.size = g at HA5 HS5 HC5 HB5 hg ⊢
                      generalize (w3.alloc (.cells #[.int .u8 0, .int .u8 0, .int .u8 0, .int .u8 0, .int .u8 0, .int .u8 0, .int .u8 0, .int .u8 0, .int .u8 0, .int .u8 0, .int .u8 0, .int .u8 0, .int .u8 0, .int .u8 0, .int .u8 0, .int .u8 0, .int .u8 0, .int .u8 0, .int .u8 0, .int .u8 0, .int .u8 0, .int .u8 0, .int .u8 0, .int .u8 0, .int .u8 0, .int .u8 0, .int .u8 0, .int .u8 0, .int .u8 0, .int .u8 0, .int .u8 0, .int .u8 0] 35)).setRow g (setC q).toArray = w5 at HA5 HS5 HC5 HB5 ⊢
                      clear hw3
                      go_wp2_with fail
                      obtain ⟨wo, rfl⟩ : ∃ wo : World, wo = w5 := ⟨_, rfl⟩
                      have HM0 : Hid (SetIn wo (w.heap.size + 1) 35 (mixP p (orP p q) 0)) := HS5.out.congr fun n _ => by unfold mixP; rw [if_neg (by omega)]
                      clear HS5
                      go_loopg [72] 32 (fun n kv wr => ∃ k : Nat, k ≤ 32 ∧ kv = .int .i64 k ∧ Hid (SetIn wr w.heap.size 35 noP) ∧ Hid (SetIn wr (w.heap.size + 1) 35 (mixP p (orP p q) k)) ∧ Hid (SetIn wr g 35 q) ∧ Hid (Below w.heap.size w wr) ∧ 32 - k ≤ n)
                      case atStart => exact ⟨0, by omega, rfl, HA5.out, HM0.out, HC5.out, HB5.out, by omega⟩
                      case round =>
                        clear HA5 HM0 HC5 HB5
                        obtain ⟨k, hk, rfl, HA, HS, HC, HB, hgn⟩ := hrel
                        by_cases hkl : k < 32
                        · have q1 := HC.out.cell k hkl
                          have q2 := HS.out.cell k hkl
                          have qf := HS.out.free k
                          rw [mix_byte, if_neg (by omega)] at q2
                          have HM := Lib.hid (HS.out.mix hkl)
                          have HOR := Lib.hid (or_byte p q k)
                          have hv := byteOf_lt p k
                          have hu := byteOf_lt q k
                          generalize byteOf p k = v at q2 HOR hv
                          generalize byteOf q k = u at q1 HOR hu
                          go_wp2_with fail
                          go_region
                          all_goals
                            go_wp2_with fail
                            rw [HOR.out]
                            go_roundg (32 - (k + 1))
                            case measure => omega
                            case rel => exact ⟨k + 1, by omega, by go_num, (HA.out.keep (Below.heap_setCell _ _ _ _ (by show w.heap.size ≠ w.heap.size + 1; omega))), HM.out, (HC.out.keep (Below.heap_setCell _ _ _ _ (by show g ≠ w.heap.size + 1; omega))), below_drewN (HB.out.setCell (p := ⟨w.heap.size + 1, k, none⟩) (Nat.le_succ _) _) 1, Nat.le_refl _⟩
                        · obtain rfl : k = 32 := by omega
                          have HI : Hid (SetIn wr (w.heap.size + 1) 35 (orP p q)) := HS.out.congr fun n hn => by unfold mixP; rw [if_pos (by omega)]
                          go_wp2_with fail
                          go_roundg (s.size - (j + 2))
                          case measure => omega
                          case rel => exact ⟨(j + 2), m + 1, (orP p q), f', by first | rfl | go_num, by first | rfl | go_num, by omega, by omega, HA.out, HI.out, HB.out, HXE.out, Nat.le_refl _⟩
                    · have hok' : okL (bt s (j + 1)) = false := by simpa using hok
                      have HCL := Lib.hid (fun w => rclass_no (bt s (j + 1)) w (bt_lt _ _) hok')
                      rw [show bt s (j + 1) = s[j + 1].toNat from bt_get s (j + 1) h1] at HCL
                      have HX1 : Hid (s.size - j < f' + 1 ∧ goM s f' (rmemF s j p) = V) := by
                        have h := HX0.out
                        rw [member_ref s j p hlt (fun h => hok h.2.2)] at h
                        exact h
                      clear HX0
                      clear hok hok' hcl
                      go_wp2_with (first
                        | (go_at_call 51; refine (HCL.out _).mono ?_; rintro e w3 ⟨⟨q, rfl⟩, hb3⟩)
                        | (refine wpList_store_row rfl 35 (.tmp 11) (.tmp 69) rfl (w3.heap.size) (setC q).toArray rfl rfl 35 (setC noP).toArray (zero_in w3 35) (by rw [rset_size, setC_size]) (by simp only [setC_size]) (setC_one _) ?_))
                      have hsz3 := HB.out.size
                      have hlt3 := HS.out.lt
                      have hsz4 := hb3.size
                      have HA5 : Hid (SetIn ((w3.alloc (.cells #[.int .u8 0, .int .u8 0, .int .u8 0, .int .u8 0, .int .u8 0, .int .u8 0, .int .u8 0, .int .u8 0, .int .u8 0, .int .u8 0, .int .u8 0, .int .u8 0, .int .u8 0, .int .u8 0, .int .u8 0, .int .u8 0, .int .u8 0, .int .u8 0, .int .u8 0, .int .u8 0, .int .u8 0, .int .u8 0, .int .u8 0, .int .u8 0, .int .u8 0, .int .u8 0, .int .u8 0, .int .u8 0, .int .u8 0, .int .u8 0, .int .u8 0, .int .u8 0] 35)).setRow w3.heap.size (setC q).toArray) w.heap.size 35 noP) := ((HA.out.below hb3).keep (Below.heap_alloc _ _ _ (by omega))).keep (setRow_other _ _ _ _ (by omega))
                      have HS5 : Hid (SetIn ((w3.alloc (.cells #[.int .u8 0, .int .u8 0, .int .u8 0, .int .u8 0, .int .u8 0, .int .u8 0, .int .u8 0, .int .u8 0, .int .u8 0, .int .u8 0, .int .u8 0, .int .u8 0, .int .u8 0, .int .u8 0, .int .u8 0, .int .u8 0, .int .u8 0, .int .u8 0, .int .u8 0, .int .u8 0, .int .u8 0, .int .u8 0, .int .u8 0, .int .u8 0, .int .u8 0, .int .u8 0, .int .u8 0, .int .u8 0, .int .u8 0, .int .u8 0, .int .u8 0, .int .u8 0] 35)).setRow w3.heap.size (setC q).toArray) (w.heap.size + 1) 35 p) := ((HS.out.below hb3).keep (Below.heap_alloc _ _ _ (by omega))).keep (setRow_other _ _ _ _ (by omega))
                      have HC5 : Hid (SetIn ((w3.alloc (.cells #[.int .u8 0, .int .u8 0, .int .u8 0, .int .u8 0, .int .u8 0, .int .u8 0, .int .u8 0, .int .u8 0, .int .u8 0, .int .u8 0, .int .u8 0, .int .u8 0, .int .u8 0, .int .u8 0, .int .u8 0, .int .u8 0, .int .u8 0, .int .u8 0, .int .u8 0, .int .u8 0, .int .u8 0, .int .u8 0, .int .u8 0, .int .u8 0, .int .u8 0, .int .u8 0, .int .u8 0, .int .u8 0, .int .u8 0, .int .u8 0, .int .u8 0, .int .u8 0] 35)).setRow w3.heap.size (setC q).toArray) w3.heap.size 35 q) := (zero_in w3 35).row q
                      have HB5 : Hid (Below w.heap.size w ((w3.alloc (.cells #[.int .u8 0, .int .u8 0, .int .u8 0, .int .u8 0, .int .u8 0, .int .u8 0, .int .u8 0, .int .u8 0, .int .u8 0, .int .u8 0, .int .u8 0, .int .u8 0, .int .u8 0, .int .u8 0, .int .u8 0, .int .u8 0, .int .u8 0, .int .u8 0, .int .u8 0, .int .u8 0, .int .u8 0, .int .u8 0, .int .u8 0, .int .u8 0, .int .u8 0, .int .u8 0, .int .u8 0, .int .u8 0, .int .u8 0, .int .u8 0, .int .u8 0, .int .u8 0] 35)).setRow w3.heap.size (setC q).toArray)) := below_setRow ((HB.out.trans (hb3.mono (by omega))).alloc (by omega) _) (by omega) _
                      have hg : w.heap.size + 1 < w3.heap.size := by omega
                      clear HA HS HB hb3 HCL hsz3 hlt3 hsz4
                      generalize hw3 : w3.heap.size = g at HA5 HS5 HC5 HB5 hg ⊢
                      generalize (w3.alloc (.cells #[.int .u8 0, .int .u8 0, .int .u8 0, .int .u8 0, .int .u8 0, .int .u8 0, .int .u8 0, .int .u8 0, .int .u8 0, .int .u8 0, .int .u8 0, .int .u8 0, .int .u8 0, .int .u8 0, .int .u8 0, .int .u8 0, .int .u8 0, .int .u8 0, .int .u8 0, .int .u8 0, .int .u8 0, .int .u8 0, .int .u8 0, .int .u8 0, .int .u8 0, .int .u8 0, .int .u8 0, .int .u8 0, .int .u8 0, .int .u8 0, .int .u8 0, .int .u8 0] 35)).setRow g (setC q).toArray = w5 at HA5 HS5 HC5 HB5 ⊢
                      clear hw3
                      go_meet
                      exact ⟨_, _, rfl, rfl, rfl, HA5.out, HS5.out, HB5.out, HX1.out⟩
                  · have tcl : cls92 s j = false := decide_eq_false hcl
                    rw [tcl]
                    have HX1 : Hid (s.size - j < f' + 1 ∧ goM s f' (rmemF s j p) = V) := by
                      have h := HX0.out
                      rw [member_ref s j p hlt (fun h => hcl ⟨h.1, h.2.1⟩)] at h
                      exact h
                    clear HX0
                    clear hcl
                    go_wp2_with fail
                    go_meet
                    exact ⟨_, _, rfl, rfl, rfl, HA.out, HS.out, HB.out, HX1.out⟩
                case rest =>
                  clear HA HS HB HX0
                  obtain ⟨q11, q12, rfl, rfl, rfl, HA, HS, HB, HX1⟩ := hcut
                  have HR1 := Lib.hid (fun w => rsingle_any s j w hs (by omega))
                  have HOK1 := Lib.hid (rs_ok s j)
                  have HBAD1 := Lib.hid (rs_bad s j (by omega))
                  obtain ⟨⟨x, nx, bd⟩, HD1⟩ : ∃ r, Hid (r = rsF s j) := ⟨_, rfl⟩
                  rw [← HD1.out] at HOK1 HBAD1 HR1
                  go_upto_region 19 with (go_at_call 62; refine (HR1.out _).mono ?_; rintro e w' ⟨rfl, rfl⟩)
                  by_cases hbd : bd < 0
                  · obtain ⟨e1, hx, hn1, hn2⟩ := HOK1.out (by first | exact hbd | omega)
                    try simp only at e1 hx hn1 hn2
                    subst e1
                    clear HOK1 HBAD1 hbd
                    by_cases hnx : nx < s.size
                    · have hnxi : (nx : Int) < (s.size : Int) := by omega
                      by_cases h45 : s[nx].toNat = 45
                      · have t45 : ((s[nx].toNat : Int) == 45) = true := beq_iff_eq.2 (by omega)
                        have H45 : Hid (nx < s.size ∧ bt s nx = 45) := ⟨hnx, by rw [bt_get s nx hnx]; exact h45⟩
                        clear h45
                        have HR2 := Lib.hid (fun w => rsingle_any s (nx + 1) w hs (by omega))
                        have HOK2 := Lib.hid (rs_ok s (nx + 1))
                        have HBAD2 := Lib.hid (rs_bad s (nx + 1) (by omega))
                        obtain ⟨⟨y, ny, be⟩, HD2⟩ : ∃ r, Hid (r = rsF s (nx + 1)) := ⟨_, rfl⟩
                        rw [← HD2.out] at HOK2 HBAD2 HR2
                        by_cases hbe : be < 0
                        · obtain ⟨e2, hy, hm1, hm2⟩ := HOK2.out (by first | exact hbe | omega)
                          try simp only at e2 hy hm1 hm2
                          subst e2
                          clear HOK2 HBAD2 hbe
                          by_cases hyx : y < x
                          · have hyxi : (y : Int) < (x : Int) := by omega
                            have HF : Hid (fin = badR (nx + 1)) := by
                              show _ = _
                              have e : rmemF s j p = (p, nx + 1, true) := by
                                unfold rmemF rmem2
                                rw [← HD1.out, if_neg (show ¬ (0 : Int) ≤ -1 by decide), if_pos H45.out, ← HD2.out, if_neg (show ¬ (0 : Int) ≤ -1 by decide), if_pos hyx]
                                try rfl
                              have h := HX1.out.2
                              rw [e] at h
                              rw [HF0.out, ← h]
                              rfl
                            clear HX1 HF0 HD1 HD2 H45
                            go_wp2_with (first
                              | (go_at_call 62; refine (HR2.out _).mono ?_; rintro e w' ⟨rfl, rfl⟩)
                              | (refine wpList_load_row rfl 35 (.tmp 7) rfl ((w.heap.size + 1)) rfl 35 (setC p).toArray (0, 0) _ HS.out Try.underlying35 rfl (by rw [rset_size, setC_size]) ?_)
                              | (refine wpList_store_row rfl 35 (.tmp 4) (.tmp 125) rfl (w.heap.size) (setC p).toArray rfl rfl 35 (setC noP).toArray HA.out (by rw [rset_size, setC_size]) (by simp only [setC_size]) (setC_one _) ?_))
                            exact bodyPost_ret (v := .tuple #[.agg (setC p).toArray, .int .i64 0, .int .i64 ((nx + 1 : Nat) : Int)]) (rres_set3 Try.results50 _ _ w.heap.size 35 p _ _ rfl rfl rfl (HA.out.row p)) rfl ⟨⟨p, by rw [HF.out]; exact fun h => Bool.noConfusion h, by (rw [HF.out] <;> rfl)⟩, below_setRow HB.out (Nat.le_refl _) _⟩
                          · have hyxi : ¬ (y : Int) < (x : Int) := by omega
                            have HXE : Hid (s.size - ny < f' ∧ memsF s f' ny true (orP p (rng x (y + 1))) = V) := by
                              have e : rmemF s j p = ((orP p (rng x (y + 1))), ny, false) := by
                                unfold rmemF rmem2
                                rw [← HD1.out, if_neg (show ¬ (0 : Int) ≤ -1 by decide), if_pos H45.out, ← HD2.out, if_neg (show ¬ (0 : Int) ≤ -1 by decide), if_neg hyx]
                              have h := HX1.out.2
                              rw [e] at h
                              exact ⟨by have := HX1.out.1; omega, h⟩
                            clear HX1 HD1 HD2 H45
                            obtain ⟨wo, rfl⟩ : ∃ wo : World, wo = wc := ⟨_, rfl⟩
                            have HR0 : Hid (SetIn wo (w.heap.size + 1) 35 (orP p (rng x x))) := HS.out.congr (rng_none p x)
                            clear HS
                            go_wp2_with (go_at_call 62; refine (HR2.out _).mono ?_; rintro e w' ⟨rfl, rfl⟩)
                            go_loopg [19] (y + 1 - x) (fun n bv wr => ∃ b : Nat, x ≤ b ∧ b ≤ y + 1 ∧ bv = .int .i64 b ∧ Hid (SetIn wr w.heap.size 35 noP) ∧ Hid (SetIn wr (w.heap.size + 1) 35 (orP p (rng x b))) ∧ Hid (Below w.heap.size w wr) ∧ y + 1 - b ≤ n)
                            case atStart => exact ⟨x, Nat.le_refl _, by omega, rfl, HA.out, HR0.out, HB.out, Nat.le_refl _⟩
                            case round =>
                              clear HA HR0 HB
                              obtain ⟨b, hb1, hb2, rfl, HA, HS, HB, hgb⟩ := hrel
                              by_cases hbl : b < y + 1
                              · have hbi : (b : Int) ≤ (y : Int) := by omega
                                have ec : IntKind.u8.wrap (b : Int) = (b : Int) := by rw [IntKind.wrap_u8]; omega
                                go_wp2_with (go_at_call 53; refine (put_any _ (w.heap.size + 1) b _ _ (by exact HS.out) (by omega)).mono ?_; rintro e w2 ⟨rfl, hs2, ho2⟩)
                                have HS2 := Lib.hid (hs2.congr (rng_add p x b hb1))
                                have HA2 := Lib.hid (HA.out.keep (ho2.block _ HA.out.lt (by omega)))
                                have HB2 := Lib.hid (HB.out.trans (ho2.below (B := w.heap.size) (Nat.le_succ _) HB.out.size))
                                go_wp2_with fail
                                go_roundg (y + 1 - (b + 1))
                                case measure => omega
                                case rel => exact ⟨b + 1, by omega, by omega, by go_num, HA2.out, HS2.out, HB2.out, Nat.le_refl _⟩
                              · obtain rfl : b = y + 1 := by omega
                                have hbi : ¬ ((y + 1 : Nat) : Int) ≤ (y : Int) := by omega
                                go_wp2_with fail
                                go_roundg (s.size - ny)
                                case measure => omega
                                case rel => exact ⟨ny, m + 1, (orP p (rng x (y + 1))), f', by first | rfl | go_num, by first | rfl | go_num, by omega, by omega, HA.out, HS.out, HB.out, HXE.out, Nat.le_refl _⟩
                        · obtain ⟨k, e2, hk⟩ := HBAD2.out (by first | exact hbe | omega)
                          try simp only at e2
                          subst e2
                          have HF : Hid (fin = badR (k)) := by
                            show _ = _
                            have e : rmemF s j p = (p, k, true) := by
                              unfold rmemF rmem2
                              rw [← HD1.out, if_neg (show ¬ (0 : Int) ≤ -1 by decide), if_pos H45.out, ← HD2.out, if_pos (show (0 : Int) ≤ (k : Int) by omega)]
                              try rfl
                            have h := HX1.out.2
                            rw [e] at h
                            rw [HF0.out, ← h]
                            rfl
                          clear HX1 HF0 HOK2 HBAD2 hbe HD1 HD2 H45
                          go_wp2_with (first
                            | (go_at_call 62; refine (HR2.out _).mono ?_; rintro e w' ⟨rfl, rfl⟩)
                            | (refine wpList_load_row rfl 35 (.tmp 7) rfl ((w.heap.size + 1)) rfl 35 (setC p).toArray (0, 0) _ HS.out Try.underlying35 rfl (by rw [rset_size, setC_size]) ?_)
                            | (refine wpList_store_row rfl 35 (.tmp 4) (.tmp 120) rfl (w.heap.size) (setC p).toArray rfl rfl 35 (setC noP).toArray HA.out (by rw [rset_size, setC_size]) (by simp only [setC_size]) (setC_one _) ?_))
                          exact bodyPost_ret (v := .tuple #[.agg (setC p).toArray, .int .i64 0, .int .i64 ((k : Nat) : Int)]) (rres_set3 Try.results50 _ _ w.heap.size 35 p _ _ rfl rfl rfl (HA.out.row p)) rfl ⟨⟨p, by rw [HF.out]; exact fun h => Bool.noConfusion h, by (rw [HF.out] <;> rfl)⟩, below_setRow HB.out (Nat.le_refl _) _⟩
                      · have t45 : ((s[nx].toNat : Int) == 45) = false := beq_eq_false_iff_ne.2 (by omega)
                        have h45' : ¬ (nx < s.size ∧ bt s nx = 45) := fun h => h45 (by rw [← bt_get s nx hnx]; exact h.2)
                        have HXE : Hid (s.size - nx < f' ∧ memsF s f' nx true (orP p (rng x (x + 1))) = V) := by
                          have e : rmemF s j p = ((orP p (rng x (x + 1))), nx, false) := by
                            unfold rmemF rmem2
                            rw [← HD1.out, if_neg (show ¬ (0 : Int) ≤ -1 by decide), if_neg h45']
                          have h := HX1.out.2
                          rw [e] at h
                          exact ⟨by have := HX1.out.1; omega, h⟩
                        clear h45 h45' HX1 HD1
                        obtain ⟨wo, rfl⟩ : ∃ wo : World, wo = wc := ⟨_, rfl⟩
                        have HR0 : Hid (SetIn wo (w.heap.size + 1) 35 (orP p (rng x x))) := HS.out.congr (rng_none p x)
                        clear HS
                        go_wp2_with fail
                        go_loopg [19] (x + 1 - x) (fun n bv wr => ∃ b : Nat, x ≤ b ∧ b ≤ x + 1 ∧ bv = .int .i64 b ∧ Hid (SetIn wr w.heap.size 35 noP) ∧ Hid (SetIn wr (w.heap.size + 1) 35 (orP p (rng x b))) ∧ Hid (Below w.heap.size w wr) ∧ x + 1 - b ≤ n)
                        case atStart => exact ⟨x, Nat.le_refl _, by omega, rfl, HA.out, HR0.out, HB.out, Nat.le_refl _⟩
                        case round =>
                          clear HA HR0 HB
                          obtain ⟨b, hb1, hb2, rfl, HA, HS, HB, hgb⟩ := hrel
                          by_cases hbl : b < x + 1
                          · have hbi : (b : Int) ≤ (x : Int) := by omega
                            have ec : IntKind.u8.wrap (b : Int) = (b : Int) := by rw [IntKind.wrap_u8]; omega
                            go_wp2_with (go_at_call 53; refine (put_any _ (w.heap.size + 1) b _ _ (by exact HS.out) (by omega)).mono ?_; rintro e w2 ⟨rfl, hs2, ho2⟩)
                            have HS2 := Lib.hid (hs2.congr (rng_add p x b hb1))
                            have HA2 := Lib.hid (HA.out.keep (ho2.block _ HA.out.lt (by omega)))
                            have HB2 := Lib.hid (HB.out.trans (ho2.below (B := w.heap.size) (Nat.le_succ _) HB.out.size))
                            go_wp2_with fail
                            go_roundg (x + 1 - (b + 1))
                            case measure => omega
                            case rel => exact ⟨b + 1, by omega, by omega, by go_num, HA2.out, HS2.out, HB2.out, Nat.le_refl _⟩
                          · obtain rfl : b = x + 1 := by omega
                            have hbi : ¬ ((x + 1 : Nat) : Int) ≤ (x : Int) := by omega
                            go_wp2_with fail
                            go_roundg (s.size - nx)
                            case measure => omega
                            case rel => exact ⟨nx, m + 1, (orP p (rng x (x + 1))), f', by first | rfl | go_num, by first | rfl | go_num, by omega, by omega, HA.out, HS.out, HB.out, HXE.out, Nat.le_refl _⟩
                    · have hnxi : ¬ (nx : Int) < (s.size : Int) := by omega
                      have h45' : ¬ (nx < s.size ∧ bt s nx = 45) := fun h => hnx h.1
                      have HXE : Hid (s.size - nx < f' ∧ memsF s f' nx true (orP p (rng x (x + 1))) = V) := by
                        have e : rmemF s j p = ((orP p (rng x (x + 1))), nx, false) := by
                          unfold rmemF rmem2
                          rw [← HD1.out, if_neg (show ¬ (0 : Int) ≤ -1 by decide), if_neg h45']
                        have h := HX1.out.2
                        rw [e] at h
                        exact ⟨by have := HX1.out.1; omega, h⟩
                      clear h45' HX1 HD1
                      obtain ⟨wo, rfl⟩ : ∃ wo : World, wo = wc := ⟨_, rfl⟩
                      have HR0 : Hid (SetIn wo (w.heap.size + 1) 35 (orP p (rng x x))) := HS.out.congr (rng_none p x)
                      clear HS
                      go_wp2_with fail
                      go_loopg [19] (x + 1 - x) (fun n bv wr => ∃ b : Nat, x ≤ b ∧ b ≤ x + 1 ∧ bv = .int .i64 b ∧ Hid (SetIn wr w.heap.size 35 noP) ∧ Hid (SetIn wr (w.heap.size + 1) 35 (orP p (rng x b))) ∧ Hid (Below w.heap.size w wr) ∧ x + 1 - b ≤ n)
                      case atStart => exact ⟨x, Nat.le_refl _, by omega, rfl, HA.out, HR0.out, HB.out, Nat.le_refl _⟩
                      case round =>
                        clear HA HR0 HB
                        obtain ⟨b, hb1, hb2, rfl, HA, HS, HB, hgb⟩ := hrel
                        by_cases hbl : b < x + 1
                        · have hbi : (b : Int) ≤ (x : Int) := by omega
                          have ec : IntKind.u8.wrap (b : Int) = (b : Int) := by rw [IntKind.wrap_u8]; omega
                          go_wp2_with (go_at_call 53; refine (put_any _ (w.heap.size + 1) b _ _ (by exact HS.out) (by omega)).mono ?_; rintro e w2 ⟨rfl, hs2, ho2⟩)
                          have HS2 := Lib.hid (hs2.congr (rng_add p x b hb1))
                          have HA2 := Lib.hid (HA.out.keep (ho2.block _ HA.out.lt (by omega)))
                          have HB2 := Lib.hid (HB.out.trans (ho2.below (B := w.heap.size) (Nat.le_succ _) HB.out.size))
                          go_wp2_with fail
                          go_roundg (x + 1 - (b + 1))
                          case measure => omega
                          case rel => exact ⟨b + 1, by omega, by omega, by go_num, HA2.out, HS2.out, HB2.out, Nat.le_refl _⟩
                        · obtain rfl : b = x + 1 := by omega
                          have hbi : ¬ ((x + 1 : Nat) : Int) ≤ (x : Int) := by omega
                          go_wp2_with fail
                          go_roundg (s.size - nx)
                          case measure => omega
                          case rel => exact ⟨nx, m + 1, (orP p (rng x (x + 1))), f', by first | rfl | go_num, by first | rfl | go_num, by omega, by omega, HA.out, HS.out, HB.out, HXE.out, Nat.le_refl _⟩
                  · obtain ⟨k, e1, hk⟩ := HBAD1.out (by first | exact hbd | omega)
                    try simp only at e1
                    subst e1
                    have HF : Hid (fin = badR (k)) := by
                      show _ = _
                      have e : rmemF s j p = (p, k, true) := by
                        unfold rmemF 
                        rw [← HD1.out, if_pos (show (0 : Int) ≤ (k : Int) by omega)]
                        try rfl
                      have h := HX1.out.2
                      rw [e] at h
                      rw [HF0.out, ← h]
                      rfl
                    clear HX1 HF0 HOK1 HBAD1 hbd HD1
                    go_wp2_with (first
                      | fail
                      | (refine wpList_load_row rfl 35 (.tmp 7) rfl ((w.heap.size + 1)) rfl 35 (setC p).toArray (0, 0) _ HS.out Try.underlying35 rfl (by rw [rset_size, setC_size]) ?_)
                      | (refine wpList_store_row rfl 35 (.tmp 4) (.tmp 95) rfl (w.heap.size) (setC p).toArray rfl rfl 35 (setC noP).toArray HA.out (by rw [rset_size, setC_size]) (by simp only [setC_size]) (setC_one _) ?_))
                    exact bodyPost_ret (v := .tuple #[.agg (setC p).toArray, .int .i64 0, .int .i64 ((k : Nat) : Int)]) (rres_set3 Try.results50 _ _ w.heap.size 35 p _ _ rfl rfl rfl (HA.out.row p)) rfl ⟨⟨p, by rw [HF.out]; exact fun h => Bool.noConfusion h, by (rw [HF.out] <;> rfl)⟩, below_setRow HB.out (Nat.le_refl _) _⟩
        · have hlte : (s.size : Int) ≤ (j : Int) := by omega
          have HVE : Hid (V = (noP, j, true)) := by
            have h := HX.out.2
            rw [HF'.out] at h
            unfold memsF at h
            rw [if_neg hlt] at h
            exact h.symm
          have HF : Hid (fin = badR s.size) := by show _ = _; rw [HF0.out, HVE.out, show j = s.size by omega]; rfl
          clear HVE HX HF' HF0
          go_wp2_with (first
            | (refine wpList_load_row rfl 35 (.tmp 7) rfl ((w.heap.size + 1)) rfl 35 (setC p).toArray (0, 0) _ HS.out Try.underlying35 rfl (by rw [rset_size, setC_size]) ?_)
            | (refine wpList_store_row rfl 35 (.tmp 4) (.tmp 39) rfl (w.heap.size) (setC p).toArray rfl rfl 35 (setC noP).toArray HA.out (by rw [rset_size, setC_size]) (by simp only [setC_size]) (setC_one _) ?_))
          exact bodyPost_ret (v := .tuple #[.agg (setC p).toArray, .int .i64 0, .int .i64 (s.size : Int)]) (rres_set3 Try.results50 _ _ w.heap.size 35 p _ _ rfl rfl rfl (HA.out.row p)) rfl ⟨⟨p, by rw [HF.out]; exact fun h => Bool.noConfusion h, by (rw [HF.out] <;> rfl)⟩, below_setRow HB.out (Nat.le_refl _) _⟩

end Go.Proofs.Ytanpiidhcijfaaa
