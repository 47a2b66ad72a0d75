
/-
  The statement PatternLiterals: the walk.
-/
import Derived.Test.YtanpiidhcijfaaaLaw5A
import Derived.Test.YtanpiidhcijfaaaMatchC
import Derived.Test.YtanpiidhcijfaaaMathLit
import Derived.Deep.RegionWith
namespace Go.Proofs.Ytanpiidhcijfaaa
open Go.RowKit

theorem ba_eq {a b : ByteArray} (h : a.data.toList = b.data.toList) : a = b := ByteArray.ext (Array.toList_inj.1 h)
theorem lit_inj {s t : ByteArray} (h : s.toList = t.toList) : s = t := by
  rw [toList_eq_data, toList_eq_data] at h
  exact ba_eq h
theorem strT_snoc (L : List Nat) (c : Nat) : strT L ++ (⟨#[UInt8.ofNat c]⟩ : ByteArray) = strT (L ++ [c]) := by
  refine ba_eq ?_
  rw [data_append]
  unfold strT litT
  simp
theorem strU_bare (L : List Nat) (c : Nat) (h : bareB c = true) : strU L ++ (⟨#[UInt8.ofNat c]⟩ : ByteArray) = strU (L ++ [c]) := by
  refine ba_eq ?_
  rw [data_append]
  unfold strU litU
  simp [wrt, h]
theorem strU_mark (L : List Nat) (c : Nat) (h : bareB c = false) : strU L ++ (⟨#[92]⟩ : ByteArray) ++ (⟨#[UInt8.ofNat c]⟩ : ByteArray) = strU (L ++ [c]) := by
  refine ba_eq ?_
  rw [data_append, data_append]
  unfold strU litU
  simp [wrt, h]
theorem strT_size (L : List Nat) : (strT L).size = L.length := by
  show (litT L).length = _
  unfold litT
  simp
theorem litU_len : ∀ L : List Nat, (litU L).length ≤ 2 * L.length
  | [] => by simp [litU]
  | c :: L => by
    have := litU_len L
    have h : (wrt c).length ≤ 2 := by unfold wrt; split <;> simp
    rw [show litU (c :: L) = wrt c ++ litU L by unfold litU; rw [List.flatMap_cons], List.length_append, List.length_cons]
    omega
theorem strU_size (L : List Nat) : (strU L).size ≤ 2 * L.length := litU_len L
theorem lit_at (z : Nat) (hz : z < 18) : ∃ cb : Nat, cb ∈ litC ∧ Hid (∀ h, ((⟨#[97, 90, 48, 46, 42, 43, 63, 40, 41, 124, 91, 93, 123, 125, 92, 94, 45, 33]⟩ : ByteArray)[z]'h).toNat = cb) := by
  have : ∀ z : Fin 18, ((⟨#[97, 90, 48, 46, 42, 43, 63, 40, 41, 124, 91, 93, 123, 125, 92, 94, 45, 33]⟩ : ByteArray)[z.val]'(by exact z.isLt)).toNat ∈ litC := by decide
  exact ⟨_, this ⟨z, hz⟩, fun _ => rfl⟩

set_option maxRecDepth 100000 in
set_option maxHeartbeats 8000000 in
theorem walk_PatternLiterals (A : Option Addr) (n c : Nat) (l : List Int) (s : ByteArray) (w : World) (h0 : n = l.length ∧ l.length ≤ maxLen ∧ RdE intC 1 w (.slice A n c) l ∧ ∀ x ∈ l, IntIn x) (_hs : s.size ≤ maxLen) :
    Calls Try.prog 6 #[.slice A n c, .string s] w fun e w' => e = .returned (.bool true) ∧ Below w.heap.size w w' := by
  obtain ⟨hn, hlm, hr, hin⟩ := h0
  subst hn
  unfold maxLen at hlm
  have HK := Lib.hid known_any
  go_enter Try.func6, Try.ntmps6
  by_cases h60 : 60 < s.size
  · have h60i : (60 : Int) < (s.size : Int) := by omega
    go_wp2_with (go_at_call 12; refine (HK.out _).mono ?_; rintro e w1 ⟨rfl, hb1⟩)
    go_ret
    exact ⟨rfl, hb1⟩
  have h60i : ¬ (60 : Int) < (s.size : Int) := by omega
  have HR := Lib.hid hr
  have HI := Lib.hid hin
  clear hr hin
  have HCV := Lib.hid (fun (w : World) (x : Int) (h0 : 0 ≤ x) (h1 : x < 256) => run_string_of_byte (P := Try.prog) 39 9 5 Try.underlying39 Try.underlying5 Try.underlying9 x h0 h1 w)
  go_wp2_with fail
  go_loopg [5, 6, 7] 20 (fun n tv uv iv wr => ∃ L : List Nat, (∀ c ∈ L, c ∈ litC) ∧ tv = .string (strT L) ∧ uv = .string (strU L) ∧ iv = .int .i64 L.length ∧ L.length ≤ 20 ∧ L.length ≤ l.length ∧ Hid (Below w.heap.size w wr) ∧ 20 - L.length ≤ n)
  case atStart => exact ⟨[], by simp, rfl, rfl, rfl, by simp, by simp, Below.refl _ _, by simp⟩
  case round =>
    obtain ⟨L, hL, rfl, rfl, rfl, hk, hkl, HB, hgk⟩ := hrel
    by_cases hgo : L.length < l.length ∧ L.length < 20
    · obtain ⟨hlt, h20⟩ := hgo
      have hlti : (L.length : Int) < (l.length : Int) := by omega
      have h20i : (L.length : Int) < 20 := by omega
      have hk0 : (0 : Int) ≤ (L.length : Int) := by omega
      obtain ⟨b, o, rfl, hbl, hcell⟩ := HR.out.cells (by omega)
      have q0 := (HB.out.cell (p := ⟨b, o + (L.length * 1 + 0), none⟩) hbl).trans (hcell L.length l[L.length] 0 _ (List.getElem?_eq_getElem hlt) rfl)
      rw [show o + (L.length * 1 + 0) = o + L.length by omega] at q0
      have hx := HI.out l[L.length] (List.getElem_mem _)
      generalize l[L.length] = x at q0 hx
      have HP := Lib.hid (fun w => place_any x 18 w hx (by decide) (by decide))
      have hz1 := Int.emod_nonneg x (show (18 : Int) ≠ 0 by decide)
      have hz2 := Int.emod_lt_of_pos x (show (0 : Int) < 18 by decide)
      generalize x % 18 = z at HP hz1 hz2
      have hz8 : z < ((⟨#[97, 90, 48, 46, 42, 43, 63, 40, 41, 124, 91, 93, 123, 125, 92, 94, 45, 33]⟩ : ByteArray).size : Int) := hz2
      obtain ⟨cb, hcl, HCB⟩ := lit_at z.toNat (by omega)
      have hcb := (lit_fact cb hcl).1
      have hc1 := HCV.out wr cb (by omega) (by omega)
      have hc2 := HCV.out (wr.alloc (.cells #[.int .u8 cb] 5)) cb (by omega) (by omega)
      rw [show (wr.alloc (.cells #[.int .u8 cb] 5)).heap.size = wr.heap.size + 1 by simp] at hc2
      have hcc := HCB.out
      clear HCB
      have HL2 : ∀ c ∈ L ++ [cb], c ∈ litC := fun c hc => by
        rcases List.mem_append.1 hc with hc | hc
        · exact hL c hc
        · have : c = cb := by simpa using hc
          rw [this]; exact hcl
      have HT := Lib.hid (strT_snoc L cb)
      by_cases h97 : cb = 97
      · have HBR : Hid (bareB cb = true) := by show _ = _; rw [h97]; rfl
        have e97 : (((cb : Nat) : Int) == 97) = true := by rw [h97]; rfl
        have f97 : (((cb : Nat) : Int) != 97) = false := by rw [h97]; rfl
        clear h97
        have HU : Hid (strU L ++ (⟨#[UInt8.ofNat cb]⟩ : ByteArray) = strU (L ++ [cb])) := strU_bare L cb HBR.out
        have hts : (strT L).size ≤ 20 := by rw [strT_size]; omega
        have hus : (strU L).size ≤ 40 := Nat.le_trans (strU_size L) (by omega)
        generalize strT L = tv at HT hts
        generalize strU L = uv at HU hus
        go_wp2_with (go_at_call 17; refine (HP.out _).mono ?_; rintro e w' ⟨rfl, rfl⟩)
        rw [HT.out, HU.out]
        go_roundg (20 - (L.length + 1))
        case measure => omega
        case rel => exact ⟨L ++ [cb], HL2, rfl, rfl, by simp, by simp; omega, by simp; omega, ((HB.out.alloc HB.out.size _).alloc (by simp; exact Nat.le_succ_of_le HB.out.size) _), by simp⟩
      have e97 : (((cb : Nat) : Int) == 97) = false := by simp; omega
      have f97 : (((cb : Nat) : Int) != 97) = true := by rw [bne, e97]; rfl
      by_cases h90 : cb = 90
      · have HBR : Hid (bareB cb = true) := by show _ = _; rw [h90]; rfl
        have e90 : (((cb : Nat) : Int) == 90) = true := by rw [h90]; rfl
        have f90 : (((cb : Nat) : Int) != 90) = false := by rw [h90]; rfl
        clear h90 h97
        have HU : Hid (strU L ++ (⟨#[UInt8.ofNat cb]⟩ : ByteArray) = strU (L ++ [cb])) := strU_bare L cb HBR.out
        have hts : (strT L).size ≤ 20 := by rw [strT_size]; omega
        have hus : (strU L).size ≤ 40 := Nat.le_trans (strU_size L) (by omega)
        generalize strT L = tv at HT hts
        generalize strU L = uv at HU hus
        go_wp2_with (go_at_call 17; refine (HP.out _).mono ?_; rintro e w' ⟨rfl, rfl⟩)
        rw [HT.out, HU.out]
        go_roundg (20 - (L.length + 1))
        case measure => omega
        case rel => exact ⟨L ++ [cb], HL2, rfl, rfl, by simp, by simp; omega, by simp; omega, ((HB.out.alloc HB.out.size _).alloc (by simp; exact Nat.le_succ_of_le HB.out.size) _), by simp⟩
      have e90 : (((cb : Nat) : Int) == 90) = false := by simp; omega
      have f90 : (((cb : Nat) : Int) != 90) = true := by rw [bne, e90]; rfl
      by_cases h48 : cb = 48
      · have HBR : Hid (bareB cb = true) := by show _ = _; rw [h48]; rfl
        have e48 : (((cb : Nat) : Int) == 48) = true := by rw [h48]; rfl
        have f48 : (((cb : Nat) : Int) != 48) = false := by rw [h48]; rfl
        clear h48 h90 h97
        have HU : Hid (strU L ++ (⟨#[UInt8.ofNat cb]⟩ : ByteArray) = strU (L ++ [cb])) := strU_bare L cb HBR.out
        have hts : (strT L).size ≤ 20 := by rw [strT_size]; omega
        have hus : (strU L).size ≤ 40 := Nat.le_trans (strU_size L) (by omega)
        generalize strT L = tv at HT hts
        generalize strU L = uv at HU hus
        go_wp2_with (go_at_call 17; refine (HP.out _).mono ?_; rintro e w' ⟨rfl, rfl⟩)
        rw [HT.out, HU.out]
        go_roundg (20 - (L.length + 1))
        case measure => omega
        case rel => exact ⟨L ++ [cb], HL2, rfl, rfl, by simp, by simp; omega, by simp; omega, ((HB.out.alloc HB.out.size _).alloc (by simp; exact Nat.le_succ_of_le HB.out.size) _), by simp⟩
      have HBR : Hid (bareB cb = false) := by
        show _ = _
        unfold bareB
        simp [h97, h90, h48]
      have e48 : (((cb : Nat) : Int) == 48) = false := by simp; omega
      have f48 : (((cb : Nat) : Int) != 48) = true := by rw [bne, e48]; rfl
      clear h48 h90 h97
      have HU : Hid (strU L ++ (⟨#[92]⟩ : ByteArray) ++ (⟨#[UInt8.ofNat cb]⟩ : ByteArray) = strU (L ++ [cb])) := strU_mark L cb HBR.out
      have hts : (strT L).size ≤ 20 := by rw [strT_size]; omega
      have hus : (strU L).size ≤ 40 := Nat.le_trans (strU_size L) (by omega)
      generalize strT L = tv at HT hts
      generalize strU L = uv at HU hus
      go_wp2_with (go_at_call 17; refine (HP.out _).mono ?_; rintro e w' ⟨rfl, rfl⟩)
      rw [HT.out, HU.out]
      go_roundg (20 - (L.length + 1))
      case measure => omega
      case rel => exact ⟨L ++ [cb], HL2, rfl, rfl, by simp, by simp; omega, by simp; omega, ((HB.out.alloc HB.out.size _).alloc (by simp; exact Nat.le_succ_of_le HB.out.size) _), by simp⟩
    · have HPA := Lib.hid (fun w => parse_any w (strU L) (by have := strU_size L; omega))
      rw [parse_lit L hL (by omega)] at HPA
      have HMS := Lib.hid (fun (u : ByteArray) (v : Value) (w : World) (h : RdE atC 34 w v (L.map litA)) (hu : u.size ≤ 2147483648) => match_any (L.map litA) u v w h hu (by simp; omega))
      have HML := Lib.hid (fun u => match_lits L hL u)
      have hsz := strT_size L
      have hlm2 : (L.map litA).length = L.length := by simp
      generalize L.map litA = p at HPA HMS HML hlm2
      generalize strU L = uu at HPA
      generalize strT L = t at HML hsz
      generalize L.length = k at hgo hk hkl hgk hsz hlm2
      by_cases hlt : k < l.length
      · have hlti : (k : Int) < (l.length : Int) := by omega
        have h20i : ¬ (k : Int) < 20 := by omega
        go_upto_region 13 with (go_at_call 14; refine (HPA.out _).mono ?_; rintro e w1 ⟨v1, rfl, ho1, hb1⟩)
        have HR1 := Lib.hid (OwnE.rd atC_len ho1)
        obtain ⟨A1, c1, hv1⟩ := own_shape ho1
        rw [hlm2] at hv1
        subst hv1
        have HB1 := Lib.hid (HB.out.trans (hb1.mono HB.out.size))
        clear ho1 hb1 HPA HB
        have HM1 := Lib.hid (fun (w' : World) (h : Below w1.heap.size w1 w') => HMS.out t _ w' (HR1.out.below h (Nat.le_refl _)) (by omega))
        have HM2 := Lib.hid (fun (w' : World) (h : Below w1.heap.size w1 w') => HMS.out s _ w' (HR1.out.below h (Nat.le_refl _)) (by omega))
        rw [HML.out, decide_eq_true (Eq.refl t)] at HM1
        rw [HML.out] at HM2
        have HF : Hid (∀ w', Below w1.heap.size w1 w' → Below w.heap.size w w') := fun w' h => HB1.out.trans (h.mono HB1.out.size)
        clear HML HMS HR1 HB1 hlm2
        by_cases hst : s = t
        · rw [decide_eq_true hst] at HM2
          have g1 : (s.toList == t.toList) = true := by rw [hst]; exact beq_self_eq_true t.toList
          clear hst
          go_wp2_with (first
          | (go_at_call_of 19 (Value.string t); refine (HM1.out _ (Below.refl _ _)).mono ?_; rintro e w2 ⟨rfl, hb2⟩; have HB2 := Lib.hid hb2; clear hb2)
          | (go_at_call_of 19 (Value.string s); refine (HM2.out _ HB2.out).mono ?_; rintro e w3 ⟨rfl, hb3⟩; have HB3 := Lib.hid (HB2.out.trans (hb3.mono HB2.out.size)); clear hb3)
          | (go_at_call 12; refine (HK.out _).mono ?_; rintro e w4 ⟨rfl, hb4⟩))
          go_ret
          exact ⟨rfl, HF.out _ (HB3.out.trans (hb4.mono HB3.out.size))⟩
        · rw [decide_eq_false hst] at HM2
          have g1 : (s.toList == t.toList) = false := beq_eq_false_iff_ne.2 (fun h => hst (lit_inj h))
          clear hst
          go_wp2_with (first
          | (go_at_call_of 19 (Value.string t); refine (HM1.out _ (Below.refl _ _)).mono ?_; rintro e w2 ⟨rfl, hb2⟩; have HB2 := Lib.hid hb2; clear hb2)
          | (go_at_call_of 19 (Value.string s); refine (HM2.out _ HB2.out).mono ?_; rintro e w3 ⟨rfl, hb3⟩; have HB3 := Lib.hid (HB2.out.trans (hb3.mono HB2.out.size)); clear hb3)
          | (go_at_call 12; refine (HK.out _).mono ?_; rintro e w4 ⟨rfl, hb4⟩))
          go_ret
          exact ⟨rfl, HF.out _ (HB3.out.trans (hb4.mono HB3.out.size))⟩
      · have hlti : ¬ (k : Int) < (l.length : Int) := by omega
        go_upto_region 13 with (go_at_call 14; refine (HPA.out _).mono ?_; rintro e w1 ⟨v1, rfl, ho1, hb1⟩)
        have HR1 := Lib.hid (OwnE.rd atC_len ho1)
        obtain ⟨A1, c1, hv1⟩ := own_shape ho1
        rw [hlm2] at hv1
        subst hv1
        have HB1 := Lib.hid (HB.out.trans (hb1.mono HB.out.size))
        clear ho1 hb1 HPA HB
        have HM1 := Lib.hid (fun (w' : World) (h : Below w1.heap.size w1 w') => HMS.out t _ w' (HR1.out.below h (Nat.le_refl _)) (by omega))
        have HM2 := Lib.hid (fun (w' : World) (h : Below w1.heap.size w1 w') => HMS.out s _ w' (HR1.out.below h (Nat.le_refl _)) (by omega))
        rw [HML.out, decide_eq_true (Eq.refl t)] at HM1
        rw [HML.out] at HM2
        have HF : Hid (∀ w', Below w1.heap.size w1 w' → Below w.heap.size w w') := fun w' h => HB1.out.trans (h.mono HB1.out.size)
        clear HML HMS HR1 HB1 hlm2
        by_cases hst : s = t
        · rw [decide_eq_true hst] at HM2
          have g1 : (s.toList == t.toList) = true := by rw [hst]; exact beq_self_eq_true t.toList
          clear hst
          go_wp2_with (first
          | (go_at_call_of 19 (Value.string t); refine (HM1.out _ (Below.refl _ _)).mono ?_; rintro e w2 ⟨rfl, hb2⟩; have HB2 := Lib.hid hb2; clear hb2)
          | (go_at_call_of 19 (Value.string s); refine (HM2.out _ HB2.out).mono ?_; rintro e w3 ⟨rfl, hb3⟩; have HB3 := Lib.hid (HB2.out.trans (hb3.mono HB2.out.size)); clear hb3)
          | (go_at_call 12; refine (HK.out _).mono ?_; rintro e w4 ⟨rfl, hb4⟩))
          go_ret
          exact ⟨rfl, HF.out _ (HB3.out.trans (hb4.mono HB3.out.size))⟩
        · rw [decide_eq_false hst] at HM2
          have g1 : (s.toList == t.toList) = false := beq_eq_false_iff_ne.2 (fun h => hst (lit_inj h))
          clear hst
          go_wp2_with (first
          | (go_at_call_of 19 (Value.string t); refine (HM1.out _ (Below.refl _ _)).mono ?_; rintro e w2 ⟨rfl, hb2⟩; have HB2 := Lib.hid hb2; clear hb2)
          | (go_at_call_of 19 (Value.string s); refine (HM2.out _ HB2.out).mono ?_; rintro e w3 ⟨rfl, hb3⟩; have HB3 := Lib.hid (HB2.out.trans (hb3.mono HB2.out.size)); clear hb3)
          | (go_at_call 12; refine (HK.out _).mono ?_; rintro e w4 ⟨rfl, hb4⟩))
          go_ret
          exact ⟨rfl, HF.out _ (HB3.out.trans (hb4.mono HB3.out.size))⟩

end Go.Proofs.Ytanpiidhcijfaaa
