
/-
  Chapter 13: percentages: the program's walks (and the reference's that call no distance).
-/
import Derived.Test.YtiigabojncnipaaMathScore
import Derived.Test.YtiigabojncnipaaDistB
namespace Go.Proofs.Ytiigabojncnipaa
open Go.RowKit

set_option maxHeartbeats 1000000 in
theorem both_any (a b : List Tk) (va vb : Value) (w : World) (ha : RdT w va a) (hb : RdT w vb b) (hla : a.length ≤ 100000) (hlb : b.length ≤ 100000) :
    Calls Try.prog 15 #[va, vb] w fun e w' => e = .returned (.int .i64 (bothI a b)) ∧ Below w.heap.size w w' := by
  obtain ⟨A, c, rfl, _, _⟩ := ha.shape
  obtain ⟨A2, c2, rfl, _, _⟩ := hb.shape
  have HA := Lib.hid ha
  have HB := Lib.hid hb
  clear ha hb
  have hcase : totalL a < totalL b ∨ totalL b < totalL a ∨ totalL a = totalL b := by omega
  have HM : Hid (bothI a b = max (totalL a) (totalL b)) := rfl
  generalize bothI a b = r at HM
  have CA := Lib.hid (fun (w : World) (v : Value) (h : RdT w v a) => total_any a v w h hla)
  have CB := Lib.hid (fun (w : World) (v : Value) (h : RdT w v b) => total_any b v w h hlb)
  generalize totalL a = ta at hcase HM CA
  generalize totalL b = tb at hcase HM CB
  rcases hcase with h | h | rfl
  all_goals
    go_enter Try.func15, Try.ntmps15
    go_wp2_with fail
    refine (CA.out _ _ (by exact HA.out)).mono ?_
    rintro e w1 ⟨rfl, hb1⟩
    have RB := Lib.hid (RdE.below HB.out hb1 (Nat.le_refl _))
    have B1 := Lib.hid hb1
    have z1 := hb1.size
    clear hb1
    go_wp2_with fail
    refine (CB.out _ _ (by exact RB.out)).mono ?_
    rintro e w2 ⟨rfl, hb2⟩
    have B2 := Lib.hid (B1.out.trans (hb2.mono z1))
    clear hb2
    go_wp2_with fail
    go_ret
    refine ⟨?_, B2.out⟩
    rw [HM.out]
    first
      | rfl
      | (rw [Int.max_eq_right (by omega)]; rfl)
      | (rw [Int.max_eq_left (by omega)]; rfl)

set_option maxHeartbeats 1000000 in
theorem rboth_any (a b : List Tk) (va vb : Value) (w : World) (ha : RdT w va a) (hb : RdT w vb b) (hla : a.length ≤ 100000) (hlb : b.length ≤ 100000) :
    Calls Try.prog 16 #[va, vb] w fun e w' => e = .returned (.int .i64 (bothI a b)) ∧ Below w.heap.size w w' := by
  obtain ⟨A, c, rfl, _, _⟩ := ha.shape
  obtain ⟨A2, c2, rfl, _, _⟩ := hb.shape
  have HA := Lib.hid ha
  have HB := Lib.hid hb
  clear ha hb
  have hcase : totalL a < totalL b ∨ totalL b < totalL a ∨ totalL a = totalL b := by omega
  have HM : Hid (bothI a b = max (totalL a) (totalL b)) := rfl
  generalize bothI a b = r at HM
  have CA := Lib.hid (fun (w : World) (v : Value) (h : RdT w v a) => rtotal_any a v w h hla)
  have CB := Lib.hid (fun (w : World) (v : Value) (h : RdT w v b) => rtotal_any b v w h hlb)
  generalize totalL a = ta at hcase HM CA
  generalize totalL b = tb at hcase HM CB
  rcases hcase with h | h | rfl
  all_goals
    go_enter Try.func16, Try.ntmps16
    go_wp2_with fail
    refine (CA.out _ _ (by exact HA.out)).mono ?_
    rintro e w1 ⟨rfl, hb1⟩
    have RB := Lib.hid (RdE.below HB.out hb1 (Nat.le_refl _))
    have B1 := Lib.hid hb1
    have z1 := hb1.size
    clear hb1
    go_wp2_with fail
    refine (CB.out _ _ (by exact RB.out)).mono ?_
    rintro e w2 ⟨rfl, hb2⟩
    have B2 := Lib.hid (B1.out.trans (hb2.mono z1))
    clear hb2
    go_wp2_with fail
    go_ret
    refine ⟨?_, B2.out⟩
    rw [HM.out]
    first
      | rfl
      | (rw [Int.max_eq_right (by omega)]; rfl)
      | (rw [Int.max_eq_left (by omega)]; rfl)

theorem both_bd (a b : List Tk) (hla : a.length ≤ 100000) (hlb : b.length ≤ 100000) : 0 ≤ bothI a b ∧ bothI a b ≤ 400000 := by
  have h1 := totalL_bd a
  have h2 := totalL_bd b
  unfold bothI
  omega

set_option maxHeartbeats 2000000 in
theorem percent_any (a b : List Tk) (va vb : Value) (w : World) (ha : RdT w va a) (hb : RdT w vb b) (hla : a.length ≤ 100000) (hlb : b.length ≤ 100000) (hia : ∀ x ∈ a, TkD x) (hib : ∀ x ∈ b, TkD x) :
    Calls Try.prog 13 #[va, vb] w fun e w' => e = .returned (.int .i64 (percI (bothI a b) (distI a b))) ∧ Below w.heap.size w w' := by
  obtain ⟨A, c, rfl, _, _⟩ := ha.shape
  obtain ⟨A2, c2, rfl, _, _⟩ := hb.shape
  have HA := Lib.hid ha
  have HB := Lib.hid hb
  have hbd := both_bd a b hla hlb
  have hd0 := distI_nonneg a b
  have hd1 := distI_bound a b
  have CD := Lib.hid (fun (v u : Value) (w : World) (h : RdT w v a) (h' : RdT w u b) => dist_any a b v u w h h' hla hlb hia hib)
  have CB := Lib.hid (fun (v u : Value) (w : World) (h : RdT w v a) (h' : RdT w u b) => both_any a b v u w h h' hla hlb)
  generalize distI a b = D at CD hd0 hd1
  generalize bothI a b = t at CB hbd
  clear ha hb hia hib
  go_enter Try.func13, Try.ntmps13
  go_wp2_with fail
  refine (CB.out _ _ _ (by exact HA.out) (by exact HB.out)).mono ?_
  rintro e w1 ⟨rfl, hb1⟩
  have RA := Lib.hid (RdE.below HA.out hb1 (Nat.le_refl _))
  have RB := Lib.hid (RdE.below HB.out hb1 (Nat.le_refl _))
  have B1 := Lib.hid hb1
  have z1 := hb1.size
  clear hb1
  by_cases h0 : t = 0
  · subst h0
    go_wp2_with fail
    go_ret
    exact ⟨by rfl, B1.out⟩
  · have h0' : (t == 0) = false := by simpa using h0
    have ht : 0 < t := by omega
    have e1 : IntKind.i64.wrap (t - D) = t - D := by rw [IntKind.wrap_i64]; omega
    by_cases hDt : D < t
    · have e2 : IntKind.i64.wrap (100 * (t - D)) = 100 * (t - D) := by rw [IntKind.wrap_i64]; omega
      have hq0 : 0 ≤ 100 * (t - D) / t := Int.ediv_nonneg (by omega) (by omega)
      have hq1 : 100 * (t - D) / t ≤ 100 * (t - D) := Int.ediv_le_self _ (by omega)
      have e3 : IntKind.i64.wrap (100 * (t - D) / t) = 100 * (t - D) / t := by rw [IntKind.wrap_i64]; omega
      have HP : Hid (percI t D = 100 * (t - D) / t) := by
        show percI t D = _
        unfold percI
        rw [if_neg h0, show max (t - D) 0 = t - D by omega, Int.tdiv_eq_ediv_of_nonneg (by omega)]
      clear hq0 hq1
      go_wp2_with fail
      refine (CD.out _ _ _ (by exact RA.out) (by exact RB.out)).mono ?_
      rintro e w2 ⟨rfl, hb2⟩
      have B2 := Lib.hid (B1.out.trans (hb2.mono z1))
      clear hb2
      go_wp2_with fail
      go_ret
      exact ⟨by rw [HP.out]; rfl, B2.out⟩
    · have HP : Hid (percI t D = 0) := by
        show percI t D = _
        unfold percI
        rw [if_neg h0, show max (t - D) 0 = 0 by omega, Int.mul_zero, Int.zero_tdiv]
      have hle : t - D ≤ 0 := by omega
      rcases (show t - D < 0 ∨ t - D = 0 by omega) with hlt | heq
      all_goals
        go_wp2_with fail
        refine (CD.out _ _ _ (by exact RA.out) (by exact RB.out)).mono ?_
        rintro e w2 ⟨rfl, hb2⟩
        have B2 := Lib.hid (B1.out.trans (hb2.mono z1))
        clear hb2
        go_wp2_with fail
        go_ret
        refine ⟨?_, B2.out⟩
        rw [HP.out]
        first | rfl | (simp [heq])

set_option maxHeartbeats 1000000 in
theorem allowed_any (t q : Int) (w : World) (ht : IntIn t) (hp : IntIn q) :
    Calls Try.prog 18 #[.int .i64 t, .int .i64 q] w fun e w' => e = .returned (.int .i64 (allowI t q)) ∧ w = w' := by
  obtain ⟨t1, t2⟩ := ht
  obtain ⟨q1, q2⟩ := hp
  have HR : Hid (allowI t q = if 100 < q then -1 else if q < 1 ∨ t < 1 then apiMax else (min t apiMax * (100 - q)).tdiv 100) := rfl
  generalize allowI t q = r at HR
  by_cases h1 : 100 < q
  · have HV := Lib.hid (HR.out.trans (if_pos h1))
    clear HR
    go_enter Try.func18, Try.ntmps18
    go_wp2_with fail
    go_ret
    exact ⟨by rw [HV.out]; try rfl, rfl⟩
  by_cases h2 : q < 1
  · have HV := Lib.hid ((HR.out.trans (if_neg h1)).trans (if_pos (.inl h2)))
    clear HR
    go_enter Try.func18, Try.ntmps18
    go_wp2_with fail
    go_ret
    exact ⟨by rw [HV.out]; try rfl, rfl⟩
  by_cases h3 : t < 1
  · have HV := Lib.hid ((HR.out.trans (if_neg h1)).trans (if_pos (.inr h3)))
    clear HR
    go_enter Try.func18, Try.ntmps18
    go_wp2_with fail
    go_ret
    exact ⟨by rw [HV.out]; try rfl, rfl⟩
  have HV := Lib.hid ((HR.out.trans (if_neg h1)).trans (if_neg (by omega)))
  have hm := allow_in t q ⟨by omega, by omega⟩ (by omega)
  unfold apiMax at hm HV
  have e1 : IntKind.i64.wrap (100 - q) = 100 - q := by rw [IntKind.wrap_i64]; omega
  obtain ⟨m1, m2⟩ := hm
  clear HR
  obtain ⟨m, hmn, hmc⟩ : ∃ m, min t 1073741824 = m ∧ (t < 1073741824 ∧ m = t ∨ 1073741824 < t ∧ m = 1073741824 ∨ t = 1073741824 ∧ m = 1073741824) := ⟨_, rfl, by omega⟩
  rw [hmn] at m1 m2 HV
  have hd0 : 0 ≤ (m * (100 - q)).tdiv 100 := Int.tdiv_nonneg m1 (by omega)
  have hd1 : (m * (100 - q)).tdiv 100 ≤ m * (100 - q) := by
    rw [Int.tdiv_eq_ediv_of_nonneg m1]
    exact Int.ediv_le_self _ m1
  have e2 : IntKind.i64.wrap (m * (100 - q)) = m * (100 - q) := by rw [IntKind.wrap_i64]; omega
  have e3 : IntKind.i64.wrap ((m * (100 - q)).tdiv 100) = (m * (100 - q)).tdiv 100 := by rw [IntKind.wrap_i64]; omega
  have e4 : (m * (100 - q)).tdiv 100 = m * (100 - q) / 100 := Int.tdiv_eq_ediv_of_nonneg m1
  have e5 : IntKind.i64.wrap (m * (100 - q) / 100) = m * (100 - q) / 100 := by rw [← e4]; exact e3
  have HV2 := Lib.hid (HV.out.trans e4)
  have E4 := Lib.hid e4
  clear hd0 hd1 m2 hmn e4
  rcases hmc with ⟨hc, rfl⟩ | ⟨hc, rfl⟩ | ⟨rfl, rfl⟩
  all_goals
    go_enter Try.func18, Try.ntmps18
    go_wp2_with fail
    go_ret
    refine ⟨?_, rfl⟩
    first
      | (rw [HV.out]; rfl)
      | (rw [HV2.out]; rfl)

set_option maxHeartbeats 1000000 in
theorem rallowed_any (t q : Int) (w : World) (ht : IntIn t) (hp : IntIn q) :
    Calls Try.prog 19 #[.int .i64 t, .int .i64 q] w fun e w' => e = .returned (.int .i64 (allowI t q)) ∧ w = w' := by
  obtain ⟨t1, t2⟩ := ht
  obtain ⟨q1, q2⟩ := hp
  have HR : Hid (allowI t q = if 100 < q then -1 else if q < 1 ∨ t < 1 then apiMax else (min t apiMax * (100 - q)).tdiv 100) := rfl
  generalize allowI t q = r at HR
  by_cases h1 : 100 < q
  · have HV := Lib.hid (HR.out.trans (if_pos h1))
    clear HR
    go_enter Try.func19, Try.ntmps19
    go_wp2_with fail
    go_ret
    exact ⟨by rw [HV.out]; try rfl, rfl⟩
  by_cases h2 : q < 1
  · have HV := Lib.hid ((HR.out.trans (if_neg h1)).trans (if_pos (.inl h2)))
    clear HR
    go_enter Try.func19, Try.ntmps19
    go_wp2_with fail
    go_ret
    exact ⟨by rw [HV.out]; try rfl, rfl⟩
  by_cases h3 : t < 1
  · have HV := Lib.hid ((HR.out.trans (if_neg h1)).trans (if_pos (.inr h3)))
    clear HR
    go_enter Try.func19, Try.ntmps19
    go_wp2_with fail
    go_ret
    exact ⟨by rw [HV.out]; try rfl, rfl⟩
  have HV := Lib.hid ((HR.out.trans (if_neg h1)).trans (if_neg (by omega)))
  have hm := allow_in t q ⟨by omega, by omega⟩ (by omega)
  unfold apiMax at hm HV
  have e1 : IntKind.i64.wrap (100 - q) = 100 - q := by rw [IntKind.wrap_i64]; omega
  obtain ⟨m1, m2⟩ := hm
  clear HR
  obtain ⟨m, hmn, hmc⟩ : ∃ m, min t 1073741824 = m ∧ (t < 1073741824 ∧ m = t ∨ 1073741824 < t ∧ m = 1073741824 ∨ t = 1073741824 ∧ m = 1073741824) := ⟨_, rfl, by omega⟩
  rw [hmn] at m1 m2 HV
  have hd0 : 0 ≤ (m * (100 - q)).tdiv 100 := Int.tdiv_nonneg m1 (by omega)
  have hd1 : (m * (100 - q)).tdiv 100 ≤ m * (100 - q) := by
    rw [Int.tdiv_eq_ediv_of_nonneg m1]
    exact Int.ediv_le_self _ m1
  have e2 : IntKind.i64.wrap (m * (100 - q)) = m * (100 - q) := by rw [IntKind.wrap_i64]; omega
  have e3 : IntKind.i64.wrap ((m * (100 - q)).tdiv 100) = (m * (100 - q)).tdiv 100 := by rw [IntKind.wrap_i64]; omega
  have e4 : (m * (100 - q)).tdiv 100 = m * (100 - q) / 100 := Int.tdiv_eq_ediv_of_nonneg m1
  have e5 : IntKind.i64.wrap (m * (100 - q) / 100) = m * (100 - q) / 100 := by rw [← e4]; exact e3
  have HV2 := Lib.hid (HV.out.trans e4)
  have E4 := Lib.hid e4
  clear hd0 hd1 m2 hmn e4
  rcases hmc with ⟨hc, rfl⟩ | ⟨hc, rfl⟩ | ⟨rfl, rfl⟩
  all_goals
    go_enter Try.func19, Try.ntmps19
    go_wp2_with fail
    go_ret
    refine ⟨?_, rfl⟩
    first
      | (rw [HV.out]; rfl)
      | (rw [HV2.out]; rfl)

end Go.Proofs.Ytiigabojncnipaa
