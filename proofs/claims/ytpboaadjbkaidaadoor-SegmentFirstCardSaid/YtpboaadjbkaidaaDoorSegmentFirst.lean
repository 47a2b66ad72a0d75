
/-
  The statement SegmentFirst: the walk.
-/
import Derived.Test.YtpboaadjbkaidaaDoorPack5
namespace Go.Proofs.YtpboaadjbkaidaaDoor
set_option maxRecDepth 100000
open Go.RowKit

/-- The cells of rules read as these rules. -/
def RuCells (w : World) (xs : List RuV) (l : List Ru) : Prop := xs.length = l.length ∧ ∀ (i : Nat) (x : RuV) (r : Ru), xs[i]? = some x → l[i]? = some r → x.b = r.br ∧ RdE atC 34 w x.u.v r.bf ∧ RdE atC 34 w x.t.v r.af
theorem RuCells.below {w w' : World} {xs : List RuV} {l : List Ru} (h : RuCells w xs l) (hb : Below w.heap.size w w') : RuCells w' xs l :=
  ⟨h.1, fun i x r hx hr => ⟨(h.2 i x r hx hr).1, (h.2 i x r hx hr).2.1.below hb (Nat.le_refl _), (h.2 i x r hx hr).2.2.below hb (Nat.le_refl _)⟩⟩
theorem RuCells.app {w : World} {xs ys : List RuV} {l m : List Ru} (h : RuCells w xs l) (g : RuCells w ys m) : RuCells w (xs ++ ys) (l ++ m) := by
  refine ⟨by rw [List.length_append, List.length_append, h.1, g.1], fun i x r hx hr => ?_⟩
  by_cases hi : i < xs.length
  · rw [List.getElem?_append_left hi] at hx
    rw [List.getElem?_append_left (by rw [← h.1]; exact hi)] at hr
    exact h.2 i x r hx hr
  · rw [List.getElem?_append_right (by omega)] at hx
    rw [List.getElem?_append_right (by rw [← h.1]; omega), ← h.1] at hr
    exact g.2 _ x r hx hr
theorem RuCells.one (w : World) (b : Bool) : RuCells w [⟨b, ⟨none, 0, 0⟩, ⟨none, 0, 0⟩⟩] [⟨b, [], []⟩] := by
  refine ⟨rfl, fun i x r hx hr => ?_⟩
  cases i with
  | zero =>
    injection hx with hx
    injection hr with hr
    subst hx hr
    exact ⟨rfl, RdE.nil, RdE.nil⟩
  | succ i => exact absurd hx (by simp)
theorem RuCells.rd {w : World} {v : Value} {xs : List RuV} {l : List Ru} (h : RuCells w xs l) (g : RdE ruC 3 w v xs) : RdRu w v l := ⟨xs, g, h.1, h.2⟩
theorem RuSmall.all {rs : List Ru} (h : RuSmall rs) (hl : rs.length ≤ 5) (b : Bool) : RuSmall (rs ++ [⟨b, [], []⟩]) := by
  refine ⟨by rw [List.length_append]; simp; omega, fun r hr => ?_⟩
  rcases List.mem_append.1 hr with hr | hr
  · exact h.2 r hr
  · rw [List.mem_singleton.1 hr]; exact ⟨Nat.zero_le _, Nat.zero_le _⟩
theorem RuSmall.app {rs qs : List Ru} (h : RuSmall rs) (g : RuSmall qs) (hl : rs.length ≤ 6) (hq : qs.length ≤ 5) : RuSmall (rs ++ qs) := by
  refine ⟨by rw [List.length_append]; omega, fun r hr => ?_⟩
  rcases List.mem_append.1 hr with hr | hr
  · exact h.2 r hr
  · exact g.2 r hr
theorem found_take (rs : List Ru) (s : ByteArray) (a n : Nat) (h : n < rs.length) : foundF (rs.take (n + 1)) s a = (foundF (rs.take n) s a || (suffixF rs[n].bf (s.extract 0 a) && prefixF rs[n].af (s.extract a s.size))) := by
  rw [List.take_succ_eq_append_getElem h, found_snoc]
  rfl

set_option maxRecDepth 100000 in
set_option maxHeartbeats 8000000 in
theorem walk_SegmentFirst (A : Option Addr) (n c : Nat) (l : List Int) (A2 : Option Addr) (n2 c2 : Nat) (m : List Int) (A3 : Option Addr) (n3 c3 : Nat) (m3 : List Int) (yes : Bool) (w : World) (hg : Got w) (h0 : n = l.length ∧ l.length ≤ maxLen ∧ RdE intC 1 w (.slice A n c) l ∧ ∀ x ∈ l, IntIn x)
    (h1 : n2 = m.length ∧ m.length ≤ maxLen ∧ RdE intC 1 w (.slice A2 n2 c2) m ∧ ∀ x ∈ m, IntIn x) (h2 : n3 = m3.length ∧ m3.length ≤ maxLen ∧ RdE intC 1 w (.slice A3 n3 c3) m3 ∧ ∀ x ∈ m3, IntIn x) :
    Calls Tryd.prog 8 #[.slice A n c, .slice A2 n2 c2, .slice A3 n3 c3, .bool yes] w fun e w' => e = .returned (.bool true) ∧ Below w.heap.size w w' := by
  obtain ⟨hn, hlm, hr, hin⟩ := h0
  obtain ⟨hn2, hlm2, hr2, hin2⟩ := h1
  obtain ⟨hn3, hlm3, hr3, hin3⟩ := h2
  subst hn hn2 hn3
  unfold maxLen at hlm hlm2 hlm3
  have HK := Lib.hid (fun (w' : World) (h : Below w.heap.size w w') => known6_any w' (got_below hg h))
  go_enter Tryd.func8, Tryd.ntmps8
  by_cases h60 : 60 < l.length
  · have h60i : (60 : Int) < (l.length : Int) := by omega
    go_wp2_with (go_at_call 17; refine (HK.out _ (Below.refl _ _)).mono ?_; rintro e w1 ⟨rfl, hb1⟩)
    go_ret
    exact ⟨rfl, hb1⟩
  have h60i : ¬ (60 : Int) < (l.length : Int) := by omega
  by_cases h61 : 60 < m.length
  · have h61i : (60 : Int) < (m.length : Int) := by omega
    go_wp2_with (go_at_call 17; refine (HK.out _ (Below.refl _ _)).mono ?_; rintro e w1 ⟨rfl, hb1⟩)
    go_ret
    exact ⟨rfl, hb1⟩
  have h61i : ¬ (60 : Int) < (m.length : Int) := by omega
  have HM := Lib.hid (rules6_any A c l w hr hin)
  have HM2 := Lib.hid (fun w' (h : Below w.heap.size w w') => rules6_any A2 c2 m w' (hr2.below h (Nat.le_refl _)) hin2)
  have HT := Lib.hid (fun w' (h : Below w.heap.size w w') => text6_any A3 c3 m3 w' (hr3.below h (Nat.le_refl _)) hin3 (by omega))
  have hsm := rulesM_small l
  have hsm2 := rulesM_small m
  have hl1 := (rulesM_bd l 0 5 (by decide)).1
  have hl2 := (rulesM_bd m 0 5 (by decide)).1
  generalize (rulesM l 0 5).1 = rs at HM hsm hl1
  generalize (rulesM m 0 5).1 = qs at HM2 hsm2 hl2
  change rs.length ≤ 5 at hl1
  change qs.length ≤ 5 at hl2
  clear hr hr2 hr3 hin hin2 hin3
  go_upto_region 4 with (first
    | (go_at_call_of 27 (Value.slice A l.length c); refine HM.out.mono ?_; rintro e w1 ⟨v1, rfl, hrd, hb1⟩)
    | (go_at_call_of 27 (Value.slice A2 m.length c2); refine (HM2.out _ hb1).mono ?_; rintro e w2 ⟨v2, rfl, hrd2, hb2⟩; have HB2 := Lib.hid (hb1.trans (hb2.mono hb1.size)))
    | (go_at_call 28; refine (HT.out _ HB2.out).mono ?_; rintro e w3 ⟨s, hs, rfl, hb3⟩))
  have HB := Lib.hid (HB2.out.trans (hb3.mono HB2.out.size))
  obtain ⟨xs1, hx1, hxl1, hxc1⟩ := (hrd.below hb2 (Nat.le_refl _)).below hb3 (Nat.le_refl _)
  obtain ⟨xs2, hx2, hxl2, hxc2⟩ := hrd2.below hb3 (Nat.le_refl _)
  have HC1 : Hid (RuCells w3 xs1 rs) := ⟨hxl1, hxc1⟩
  have HC2 : Hid (RuCells w3 xs2 qs) := ⟨hxl2, hxc2⟩
  have HX1 := Lib.hid hx1
  have HX2 := Lib.hid hx2
  obtain ⟨A4, c4, hv1, hlc4, _⟩ := hx1.shape
  obtain ⟨A5, c5, hv2, hlc5, _⟩ := hx2.shape
  subst hv1 hv2
  have hxa1 : xs1.length ≤ 5 := by omega
  have hxa2 : xs2.length ≤ 5 := by omega
  have hxr1 : xs1.length ≤ rs.length := by omega
  have hxr2 : rs.length ≤ xs1.length := by omega
  clear hrd hrd2 hb1 hb2 hb3 HB2 hx1 hx2 hxl1 hxc1 hxl2 hxc2 HM HM2 HT
  have hzw := HB.out.size
  go_upto_region 5 with (first
    | (refine wpList_appAt rfl (.const (.slice none 0 0)) (.tmp 32) 31 30 rfl Tryd.underlying31 _ ruC 3 56 rule_info rfl (by decide) ruC_len ruC_one w3.heap.size (.slice none 0 0) ([] : List RuV) rfl (OwnE.nil (f := ruC)) (.slice A4 xs1.length c4) xs1 rfl (HX1.out) (by simp only [List.length_nil]; omega) (by decide) (Nat.le_refl _) ?_; intro v4 w4 hown4 hbel4 hgr4 hat4; rw [List.nil_append] at hown4; obtain ⟨A6, c6, hv4⟩ := own_shape hown4; subst hv4; have HB4 := Lib.hid (hbel4 w3.heap.size w3 (Nat.le_refl _) (Below.refl _ _)); have hz4 := HB4.out.size; have HO4 := Lib.hid (own_below hown4 ((Below.refl _ w4).alloc (Nat.le_refl _) (.cells (ruC ⟨yes, ⟨none, 0, 0⟩, ⟨none, 0, 0⟩⟩).toArray 30)) (Nat.le_refl _)); clear hbel4 hgr4 hat4 hown4)
    | (refine wpList_appAt rfl (.tmp 33) (.tmp 36) 31 30 rfl Tryd.underlying31 _ ruC 3 56 rule_info rfl (by decide) ruC_len ruC_one w3.heap.size (.slice A6 xs1.length c6) xs1 rfl (HO4.out) (.slice (some ⟨w4.heap.size, 0, none⟩) 1 1) [⟨yes, ⟨none, 0, 0⟩, ⟨none, 0, 0⟩⟩] rfl (rdE_one_at ruC 3 ruC_len w4 _ rfl ⟨yes, ⟨none, 0, 0⟩, ⟨none, 0, 0⟩⟩ 30) (by simp; omega) (by decide) (by simp; omega) ?_; intro v5 w5 hown5 hbel5 hgr5 hat5; obtain ⟨ya, HYA⟩ : ∃ ya, Hid (ya = xs1 ++ [(⟨yes, ⟨none, 0, 0⟩, ⟨none, 0, 0⟩⟩ : RuV)]) := ⟨_, rfl⟩; rw [← HYA.out] at hown5; obtain ⟨A7, c7, hv5⟩ := own_shape hown5; subst hv5))
  have HB5 := Lib.hid (hbel5 w3.heap.size w3 (Nat.le_refl _) (HB4.out.alloc hz4 (.cells (ruC ⟨yes, ⟨none, 0, 0⟩, ⟨none, 0, 0⟩⟩).toArray 30)))
  have hya : ya.length ≤ 6 := by rw [HYA.out, List.length_append]; simp; omega
  have HX5 := Lib.hid (OwnE.rd (f := ruC) (m := 3) ruC_len hown5)
  have HCA : Hid (RuCells w5 ya (rs ++ [⟨yes, [], []⟩])) := by
    show RuCells _ _ _
    rw [HYA.out]
    exact (HC1.out.below HB5.out).app (RuCells.one w5 yes)
  have HX2' := Lib.hid (HX2.out.below HB5.out (Nat.le_refl _))
  have HC2' := Lib.hid (HC2.out.below HB5.out)
  clear hown5 hbel5 hgr5 hat5 HB4 HO4 hz4 HYA HX2 HC2
  go_upto_region 6 with (first
    | (refine wpList_appAt rfl (.const (.slice none 0 0)) (.tmp 38) 31 30 rfl Tryd.underlying31 _ ruC 3 56 rule_info rfl (by decide) ruC_len ruC_one w5.heap.size (.slice none 0 0) ([] : List RuV) rfl (OwnE.nil (f := ruC)) (.slice A7 ya.length c7) ya rfl (HX5.out) (by simp only [List.length_nil]; omega) (by decide) (Nat.le_refl _) ?_; intro v6 w6 hown6 hbel6 hgr6 hat6; rw [List.nil_append] at hown6; obtain ⟨A8, c8, hv6⟩ := own_shape hown6; subst hv6; have HB6 := Lib.hid (hbel6 w5.heap.size w5 (Nat.le_refl _) (Below.refl _ _)); have hz6 := HB6.out.size; have HO6 := Lib.hid hown6; clear hbel6 hgr6 hat6 hown6)
    | (refine wpList_appAt rfl (.tmp 39) (.tmp 40) 31 30 rfl Tryd.underlying31 _ ruC 3 56 rule_info rfl (by decide) ruC_len ruC_one w5.heap.size (.slice A8 ya.length c8) ya rfl (HO6.out) (.slice A5 xs2.length c5) xs2 rfl (HX2'.out.below HB6.out (Nat.le_refl _)) (by omega) (by decide) (hz6) ?_; intro v7 w7 hown7 hbel7 hgr7 hat7; obtain ⟨ym, HYM⟩ : ∃ ym, Hid (ym = ya ++ xs2) := ⟨_, rfl⟩; rw [← HYM.out] at hown7; obtain ⟨A9, c9, hv7⟩ := own_shape hown7; subst hv7))
  have HB7 := Lib.hid (hbel7 w5.heap.size w5 (Nat.le_refl _) HB6.out)
  have HCM : Hid (RuCells w7 ym ((rs ++ [⟨yes, [], []⟩]) ++ qs)) := by
    show RuCells _ _ _
    rw [HYM.out]
    exact (HCA.out.below HB7.out).app (HC2'.out.below HB7.out)
  have HRM : Hid (RdRu w7 (.slice A9 ym.length c9) ((rs ++ [⟨yes, [], []⟩]) ++ qs)) := Lib.hid (HCM.out.rd (OwnE.rd (f := ruC) (m := 3) ruC_len hown7))
  have HRA : Hid (RdRu w7 (.slice A7 ya.length c7) (rs ++ [⟨yes, [], []⟩])) := Lib.hid ((HCA.out.below HB7.out).rd (HX5.out.below HB7.out (Nat.le_refl _)))
  have HX7 := Lib.hid ((HX1.out.below HB5.out (Nat.le_refl _)).below HB7.out (Nat.le_refl _))
  have HC7 := Lib.hid ((HC1.out.below HB5.out).below HB7.out)
  have HBW : Hid (Below w.heap.size w w7) := Lib.hid ((HB.out.trans (HB5.out.mono HB.out.size)).trans (HB7.out.mono (Nat.le_trans HB.out.size HB5.out.size)))
  clear hown7 hbel7 hgr7 hat7 HB6 HO6 hz6 HYM HB7 HB5 HX5 HCA HX2' HC2' HCM HX1 HC1 HB hzw
  have hsA := hsm.all hl1 yes
  have hsM := hsA.app hsm2 (by rw [List.length_append]; simp; omega) hl2
  have hs1 : s.size ≤ 1000000 := by omega
  have HE1 := Lib.hid (breaks_any _ _ s w7 HRA.out hsA.1 hsA.2)
  have HE2 := Lib.hid (fun (w' : World) (h : Below w7.heap.size w7 w') => breaks_any _ _ s w' (HRM.out.below h (Nat.le_refl _)) hsM.1 hsM.2)
  rw [first_breaks] at HE2
  have hbl := breaks_len (rs ++ [⟨yes, [], []⟩]) s
  have HS := Lib.hid (fun (w' : World) (va vb : Value) (ha : RdE intC 1 w' va (breaksF (rs ++ [⟨yes, [], []⟩]) s)) (hb : RdE intC 1 w' vb (breaksF (rs ++ [⟨yes, [], []⟩]) s)) => sameInts_any (breaksF (rs ++ [⟨yes, [], []⟩]) s) va vb w' ha hb (by omega))
  generalize breaksF (rs ++ [⟨yes, [], []⟩]) s = bl at HE1 HE2 hbl HS
  have HDM := Lib.hid (fun (a : Nat) (h1 : 1 ≤ a) (h2 : a < s.size) (w' : World) (h : Below w7.heap.size w7 w') => segDecide_any _ _ s (a : Int) w' (HRM.out.below h (Nat.le_refl _)) hsM hs1 ⟨by omega, by omega⟩)
  have HDA := Lib.hid (fun (a : Nat) (h1 : 1 ≤ a) (h2 : a < s.size) (w' : World) (h : Below w7.heap.size w7 w') => segDecide_any _ _ s (a : Int) w' ((HC7.out.below h).rd (HX7.out.below h (Nat.le_refl _))) hsm hs1 ⟨by omega, by omega⟩)
  have HEM : Hid (∀ a : Nat, 1 ≤ a → a < s.size → decB ((rs ++ [⟨yes, [], []⟩]) ++ qs) s (a : Int) = if foundF rs s a = true then decB rs s (a : Int) else yes) := fun a h1 h2 => by
    unfold decB
    rw [decide_eq_true (show (0 : Int) < (a : Int) by omega), decide_eq_true (show (a : Int) < (s.size : Int) by omega), Int.toNat_natCast, Bool.true_and, Bool.true_and, Bool.true_and, Bool.true_and]
    exact first_all rs yes qs s a
  go_upto_region 8 with (first
    | (go_at_call_of 16 (Value.slice A7 ya.length c7); refine HE1.out.mono ?_; rintro e w8 ⟨v8, rfl, ho8, hb8⟩; have HB8 := Lib.hid hb8; have HO8 := Lib.hid (OwnE.rd (f := intC) (m := 1) (fun _ => rfl) ho8))
    | (go_at_call_of 16 (Value.slice A9 ym.length c9); refine (HE2.out _ HB8.out).mono ?_; rintro e w9 ⟨v9, rfl, ho9, hb9⟩; have HB9 := Lib.hid (HB8.out.trans (hb9.mono HB8.out.size)); have HO9 := Lib.hid (OwnE.rd (f := intC) (m := 1) (fun _ => rfl) ho9))
    | (go_at_call 18; refine (HS.out _ _ _ (HO8.out.below hb9 (Nat.le_refl _)) HO9.out).mono ?_; rintro e w10 ⟨rfl, hb10⟩; have HB10 := Lib.hid (HB9.out.trans (hb10.mono HB9.out.size))))
  clear HB8 HO8 HB9 HO9 HE1 HE2 HS hb8 hb9 hb10 ho8 ho9
  go_wp2_with fail
  have HSL1 : Hid (∀ (a : Nat), a ≤ s.size → ∀ w', (Instr.sliceAt 9 (.string s) none (some (.int .i64 (a : Int))) none).run Tryd.prog w' = .ok (.string (s.extract 0 a)) w') := fun a h w' => by
    have h1 : (a : Int) ≤ (s.size : Int) := by omega
    have h2 : (0 : Int) ≤ (a : Int) := by omega
    go_simp
  have HSL2 : Hid (∀ (a : Nat), a ≤ s.size → ∀ w', (Instr.sliceAt 9 (.string s) (some (.int .i64 (a : Int))) none none).run Tryd.prog w' = .ok (.string (s.extract a s.size)) w') := fun a h w' => by
    have h1 : (a : Int) ≤ (s.size : Int) := by omega
    have h2 : (0 : Int) ≤ (a : Int) := by omega
    go_simp
  have HSUF := Lib.hid (fun (p : List At) (pv : Value) (a : Nat) (w' : World) (hp : RdE atC 34 w' pv p) (hl : p.length ≤ 140737488355328) => rsuffix_any p (s.extract 0 a) pv w' hp (by rw [ByteArray.size_extract]; omega) hl)
  have HPRE := Lib.hid (fun (p : List At) (pv : Value) (a : Nat) (w' : World) (hp : RdE atC 34 w' pv p) (hl : p.length ≤ 140737488355328) => rprefix_any p (s.extract a s.size) pv w' hp (by rw [ByteArray.size_extract]; omega) hl)
  obtain ⟨wo, HWO⟩ : ∃ wo, Hid (wo = w7) := ⟨w7, rfl⟩
  go_loopg [14, 15, 16] s.size (fun gk av bv iv wr => ∃ a : Nat, av = .int .i64 a ∧ 1 ≤ a ∧ (a ≤ s.size ∨ a = 1) ∧ Hid (Below w7.heap.size w7 wr) ∧ s.size - a ≤ gk)
  case atStart => exact ⟨1, rfl, by omega, .inr rfl, HB10.out, by omega⟩
  case round =>
    clear HWO HB10
    obtain ⟨a, rfl, ha1, ha2, HBA, hgk⟩ := hrel
    by_cases hal : a < s.size
    · have hai : (a : Int) < (s.size : Int) := by omega
      have HM2 := Lib.hid (HDM.out a ha1 hal)
      have HA2 := Lib.hid (HDA.out a ha1 hal)
      have HE2 := Lib.hid (HEM.out a ha1 hal)
      have HL1 := Lib.hid (HSL1.out a (by omega))
      have HL2 := Lib.hid (HSL2.out a (by omega))
      have hz1 := HBA.out.size
      go_wp2_with fail
      obtain ⟨wo, HWO⟩ : ∃ wo, Hid (wo = wr) := ⟨wr, rfl⟩
      go_loopg [15, 16, 58] xs1.length (fun gk bv iv kv wr => ∃ k : Nat, kv = .int .i64 k ∧ k ≤ xs1.length ∧ bv = .bool (foundF (rs.take k) s a) ∧ Hid (Below w7.heap.size w7 wr) ∧ xs1.length - k ≤ gk)
      case atStart => exact ⟨0, rfl, by omega, rfl, HBA.out, by omega⟩
      case round =>
        clear HWO HBA
        obtain ⟨k, rfl, hk, rfl, HB, hgk2⟩ := hrel
        by_cases hkl : k < xs1.length
        · have hki : (k : Int) < (xs1.length : Int) := by omega
          have hk0 : (0 : Int) ≤ (k : Int) := by omega
          obtain ⟨bp, o, rfl, hbl, hcell⟩ := HX7.out.cells (by omega)
          have hxk : xs1[k]? = some xs1[k] := List.getElem?_eq_getElem hkl
          have hrk : rs[k]? = some (rs[k]'(by omega)) := List.getElem?_eq_getElem (by omega)
          have z1 := (HB.out.cell (p := ⟨bp, o + (k * 3 + 1), none⟩) hbl).trans (hcell k _ 1 _ hxk rfl)
          have z2 := (HB.out.cell (p := ⟨bp, o + (k * 3 + 2), none⟩) hbl).trans (hcell k _ 2 _ hxk rfl)
          rw [show o + (k * 3 + 1) = o + k * 3 + 1 by omega] at z1
          rw [show o + (k * 3 + 2) = o + k * 3 + 2 by omega] at z2
          obtain ⟨_, hbf, haf⟩ := HC7.out.2 k _ _ hxk hrk
          have hrl := hsm.2 _ (List.getElem_mem (show k < rs.length by omega))
          have HF := Lib.hid (found_take rs s a k (by omega))
          have HU1 := Lib.hid (hbf.below HB.out (Nat.le_refl _))
          have HT1 := Lib.hid (haf.below HB.out (Nat.le_refl _))
          clear hcell hxk hrk hbf haf
          generalize xs1[k] = y at z1 z2 HU1 HT1
          generalize rs[k]'(by omega) = r at HU1 HT1 hrl HF
          obtain ⟨yb, ⟨uA, un, uc⟩, ⟨tA, tn, tc⟩⟩ := y
          change wr.cell? _ = some (.slice uA un uc) at z1
          change wr.cell? _ = some (.slice tA tn tc) at z2
          change Hid (RdE atC 34 wr (.slice uA un uc) r.bf) at HU1
          change Hid (RdE atC 34 wr (.slice tA tn tc) r.af) at HT1
          have hz := HB.out.size
          have hq1 : bp < wr.heap.size := Nat.lt_of_lt_of_le hbl hz
          have HS1 := Lib.hid (fun (w' : World) (h : Below wr.heap.size wr w') => HSUF.out r.bf (.slice uA un uc) a w' (HU1.out.below h (Nat.le_refl _)) (by omega))
          have HP1 := Lib.hid (fun (w' : World) (h : Below wr.heap.size wr w') => HPRE.out r.af (.slice tA tn tc) a w' (HT1.out.below h (Nat.le_refl _)) (by omega))
          obtain ⟨m1, HM1⟩ : ∃ m1, Hid (m1 = suffixF r.bf (s.extract 0 a)) := ⟨_, rfl⟩
          obtain ⟨m2, HM2⟩ : ∃ m2, Hid (m2 = prefixF r.af (s.extract a s.size)) := ⟨_, rfl⟩
          rw [← HM1.out] at HS1 HF
          rw [← HM2.out] at HP1 HF
          clear HM1 HM2 HU1 HT1
          have HSL1' := HL1
          have HSL2' := HL2
          generalize foundF (rs.take k) s a = ap at HF ⊢
          cases ap with
          | true =>
            have HF2 : Hid (foundF (rs.take (k + 1)) s a = true) := HF.out
            go_wp2_with fail
            refine wp_region_at 24 #[false, false, false, false, false, false, false, false, false, false, false, false, false, false, false, false, false, false, false, false, false, false, false, false] rfl rfl (by kernel_rfl) ?_
            refine wpAny_at (i := 0) (v := .bool true) (some 61) rfl rfl (by kernel_rfl) (by kernel_rfl) (by kernel_rfl) (fun _ _ _ h => h) (by kernel_rfl) (fun _ => ex_move _ _ rfl (by kernel_rfl)) ?_
            simp only [Act.put, List.setIfInBounds_toArray, List.set_cons_zero, List.set_cons_succ]
            refine wpAny_at (i := 1) (v := .bool true) (some 62) rfl rfl (by kernel_rfl) (by kernel_rfl) (by kernel_rfl) (fun _ _ _ h => h) (by kernel_rfl) (fun _ => ex_move _ _ rfl (by kernel_rfl)) ?_
            simp only [Act.put, List.setIfInBounds_toArray, List.set_cons_zero, List.set_cons_succ]
            refine wpAny_skip 2 (some 63) rfl rfl (by kernel_rfl) (by kernel_rfl) (by kernel_rfl) (fun _ _ _ h => h) (by kernel_rfl) ?_
            simp only [Act.put, List.setIfInBounds_toArray, List.set_cons_zero, List.set_cons_succ]
            refine wpAny_skip 3 (some 64) rfl rfl (by kernel_rfl) (by kernel_rfl) (by kernel_rfl) (fun _ _ _ h => h) (by kernel_rfl) ?_
            simp only [Act.put, List.setIfInBounds_toArray, List.set_cons_zero, List.set_cons_succ]
            refine wpAny_skip 4 (some 65) rfl rfl (by kernel_rfl) (by kernel_rfl) (by kernel_rfl) (fun _ _ _ h => h) (by kernel_rfl) ?_
            simp only [Act.put, List.setIfInBounds_toArray, List.set_cons_zero, List.set_cons_succ]
            refine wpAny_skip 5 (some 66) rfl rfl (by kernel_rfl) (by kernel_rfl) (by kernel_rfl) (fun _ _ _ h => h) (by kernel_rfl) ?_
            simp only [Act.put, List.setIfInBounds_toArray, List.set_cons_zero, List.set_cons_succ]
            refine wpAny_skip 6 (some 67) rfl rfl (by kernel_rfl) (by kernel_rfl) (by kernel_rfl) (fun _ _ _ h => h) (by kernel_rfl) ?_
            simp only [Act.put, List.setIfInBounds_toArray, List.set_cons_zero, List.set_cons_succ]
            refine wpAny_skip 7 (some 68) rfl rfl (by kernel_rfl) (by kernel_rfl) (by kernel_rfl) (fun _ _ _ h => h) (by kernel_rfl) ?_
            simp only [Act.put, List.setIfInBounds_toArray, List.set_cons_zero, List.set_cons_succ]
            refine wpAny_skip 8 (some 69) rfl rfl (by kernel_rfl) (by kernel_rfl) (by kernel_rfl) (fun _ _ _ h => h) (by kernel_rfl) ?_
            simp only [Act.put, List.setIfInBounds_toArray, List.set_cons_zero, List.set_cons_succ]
            refine wpAny_skip 9 (some 70) rfl rfl (by kernel_rfl) (by kernel_rfl) (by kernel_rfl) (fun _ _ _ h => h) (by kernel_rfl) ?_
            simp only [Act.put, List.setIfInBounds_toArray, List.set_cons_zero, List.set_cons_succ]
            refine wpAny_skip 10 (some 71) rfl rfl (by kernel_rfl) (by kernel_rfl) (by kernel_rfl) (fun _ _ _ h => h) (by kernel_rfl) ?_
            simp only [Act.put, List.setIfInBounds_toArray, List.set_cons_zero, List.set_cons_succ]
            refine wpAny_skip 11 (some 72) rfl rfl (by kernel_rfl) (by kernel_rfl) (by kernel_rfl) (fun _ _ _ h => h) (by kernel_rfl) ?_
            simp only [Act.put, List.setIfInBounds_toArray, List.set_cons_zero, List.set_cons_succ]
            refine wpAny_skip 12 (some 73) rfl rfl (by kernel_rfl) (by kernel_rfl) (by kernel_rfl) (fun _ _ _ h => h) (by kernel_rfl) ?_
            simp only [Act.put, List.setIfInBounds_toArray, List.set_cons_zero, List.set_cons_succ]
            refine wpAny_skip 13 (some 74) rfl rfl (by kernel_rfl) (by kernel_rfl) (by kernel_rfl) (fun _ _ _ h => h) (by kernel_rfl) ?_
            simp only [Act.put, List.setIfInBounds_toArray, List.set_cons_zero, List.set_cons_succ]
            refine wpAny_skip 14 (some 75) rfl rfl (by kernel_rfl) (by kernel_rfl) (by kernel_rfl) (fun _ _ _ h => h) (by kernel_rfl) ?_
            simp only [Act.put, List.setIfInBounds_toArray, List.set_cons_zero, List.set_cons_succ]
            refine wpAny_skip 15 (some 76) rfl rfl (by kernel_rfl) (by kernel_rfl) (by kernel_rfl) (fun _ _ _ h => h) (by kernel_rfl) ?_
            simp only [Act.put, List.setIfInBounds_toArray, List.set_cons_zero, List.set_cons_succ]
            refine wpAny_skip 16 (some 77) rfl rfl (by kernel_rfl) (by kernel_rfl) (by kernel_rfl) (fun _ _ _ h => h) (by kernel_rfl) ?_
            simp only [Act.put, List.setIfInBounds_toArray, List.set_cons_zero, List.set_cons_succ]
            refine wpAny_skip 17 (some 78) rfl rfl (by kernel_rfl) (by kernel_rfl) (by kernel_rfl) (fun _ _ _ h => h) (by kernel_rfl) ?_
            simp only [Act.put, List.setIfInBounds_toArray, List.set_cons_zero, List.set_cons_succ]
            refine wpAny_skip 18 (some 79) rfl rfl (by kernel_rfl) (by kernel_rfl) (by kernel_rfl) (fun _ _ _ h => h) (by kernel_rfl) ?_
            simp only [Act.put, List.setIfInBounds_toArray, List.set_cons_zero, List.set_cons_succ]
            refine wpAny_skip 19 (some 80) rfl rfl (by kernel_rfl) (by kernel_rfl) (by kernel_rfl) (fun _ _ _ h => h) (by kernel_rfl) ?_
            simp only [Act.put, List.setIfInBounds_toArray, List.set_cons_zero, List.set_cons_succ]
            refine wpAny_skip 20 (some 81) rfl rfl (by kernel_rfl) (by kernel_rfl) (by kernel_rfl) (fun _ _ _ h => h) (by kernel_rfl) ?_
            simp only [Act.put, List.setIfInBounds_toArray, List.set_cons_zero, List.set_cons_succ]
            refine wpAny_skip 21 (some 82) rfl rfl (by kernel_rfl) (by kernel_rfl) (by kernel_rfl) (fun _ _ _ h => h) (by kernel_rfl) ?_
            simp only [Act.put, List.setIfInBounds_toArray, List.set_cons_zero, List.set_cons_succ]
            refine wpAny_at (i := 22) (v := .bool true) (some 83) rfl rfl (by kernel_rfl) (by kernel_rfl) (by kernel_rfl) (fun _ _ _ h => h) (by kernel_rfl) (fun _ => ex_pick _ _ _ true (.bool true) (undef) rfl (by kernel_rfl) (by kernel_rfl) (by kernel_rfl)) ?_
            simp only [Act.put, List.setIfInBounds_toArray, List.set_cons_zero, List.set_cons_succ]
            refine wpAny_at (i := 23) (v := .bool true) (some 15) rfl rfl (by kernel_rfl) (by kernel_rfl) (by kernel_rfl) (fun _ _ _ h => h) (by kernel_rfl) (fun _ => ex_assign _ _ rfl (by kernel_rfl)) ?_
            simp only [Act.put, List.setIfInBounds_toArray, List.set_cons_zero, List.set_cons_succ]
            refine wpAny_done (by kernel_rfl) ?_ _
            have HB5 := Lib.hid (below_drewN HB.out 1)
            go_wp2_with fail
            go_roundg (xs1.length - (k + 1))
            case measure => omega
            case rel => exact ⟨k + 1, by go_num, by omega, by rw [HF2.out], HB5.out, Nat.le_refl _⟩
          | false =>
            cases m1 with
            | false =>
              have HF2 : Hid (foundF (rs.take (k + 1)) s a = false) := HF.out
              go_wp2_with fail
              refine wp_region_at 24 #[false, false, false, false, false, false, false, false, false, false, false, false, false, false, false, false, false, false, false, false, false, false, false, false] rfl rfl (by kernel_rfl) ?_
              refine wpAny_at (i := 0) (v := .bool false) (some 61) rfl rfl (by kernel_rfl) (by kernel_rfl) (by kernel_rfl) (fun _ _ _ h => h) (by kernel_rfl) (fun _ => ex_move _ _ rfl (by kernel_rfl)) ?_
              simp only [Act.put, List.setIfInBounds_toArray, List.set_cons_zero, List.set_cons_succ]
              refine wpAny_at (i := 1) (v := .bool false) (some 62) rfl rfl (by kernel_rfl) (by kernel_rfl) (by kernel_rfl) (fun _ _ _ h => h) (by kernel_rfl) (fun _ => ex_move _ _ rfl (by kernel_rfl)) ?_
              simp only [Act.put, List.setIfInBounds_toArray, List.set_cons_zero, List.set_cons_succ]
              refine wpAny_at (i := 2) (v := .slice (some ⟨bp, o, none⟩) xs1.length c4) (some 63) rfl rfl (by kernel_rfl) (by kernel_rfl) (by kernel_rfl) (fun _ _ _ h => h) (by kernel_rfl) (fun _ => ex_move _ _ rfl (by kernel_rfl)) ?_
              simp only [Act.put, List.setIfInBounds_toArray, List.set_cons_zero, List.set_cons_succ]
              refine wpAny_at (i := 3) (v := .int .i64 (k : Int)) (some 64) rfl rfl (by kernel_rfl) (by kernel_rfl) (by kernel_rfl) (fun _ _ _ h => h) (by kernel_rfl) (fun _ => ex_move _ _ rfl (by kernel_rfl)) ?_
              simp only [Act.put, List.setIfInBounds_toArray, List.set_cons_zero, List.set_cons_succ]
              refine wpAny_at (i := 4) (v := .pointer (some ⟨bp, o + k * 3, none⟩)) (some 65) rfl rfl (by kernel_rfl) (by kernel_rfl) (by kernel_rfl) (fun _ _ _ h => h) (by kernel_rfl) (fun _ => ex_indexAddr 31 _ _ (.slice (some ⟨bp, o, none⟩) xs1.length c4) (.int .i64 (k : Int)) _ rfl (by kernel_rfl) (by kernel_rfl) (by go_simp)) ?_
              simp only [Act.put, List.setIfInBounds_toArray, List.set_cons_zero, List.set_cons_succ]
              refine wpAny_at (i := 5) (v := .pointer (some ⟨bp, o + k * 3 + 1, none⟩)) (some 66) rfl rfl (by kernel_rfl) (by kernel_rfl) (by kernel_rfl) (fun _ _ _ h => h) (by kernel_rfl) (fun _ => ex_fieldAddr 30 _ 1 (.pointer (some ⟨bp, o + k * 3, none⟩)) _ rfl (by kernel_rfl) (by go_simp)) ?_
              simp only [Act.put, List.setIfInBounds_toArray, List.set_cons_zero, List.set_cons_succ]
              refine wpAny_at (i := 7) (v := .string s) (some 68) rfl rfl (by kernel_rfl) (by kernel_rfl) (by kernel_rfl) (fun _ _ _ h => h) (by kernel_rfl) (fun _ => ex_move _ _ rfl (by kernel_rfl)) ?_
              simp only [Act.put, List.setIfInBounds_toArray, List.set_cons_zero, List.set_cons_succ]
              refine wpAny_at (i := 8) (v := .int .i64 (a : Int)) (some 69) rfl rfl (by kernel_rfl) (by kernel_rfl) (by kernel_rfl) (fun _ _ _ h => h) (by kernel_rfl) (fun _ => ex_move _ _ rfl (by kernel_rfl)) ?_
              simp only [Act.put, List.setIfInBounds_toArray, List.set_cons_zero, List.set_cons_succ]
              refine wpAny_at (i := 9) (v := .string (s.extract 0 a)) (some 70) rfl rfl (by kernel_rfl) (by kernel_rfl) (by kernel_rfl) (fun _ _ _ h => h) (by kernel_rfl) (fun _ => ex_slice 9 _ _ _ (.string s) _ none (some (.int .i64 (a : Int))) rfl (by kernel_rfl) (by kernel_rfl) (by kernel_rfl) (HSL1'.out _)) ?_
              simp only [Act.put, List.setIfInBounds_toArray, List.set_cons_zero, List.set_cons_succ]
              refine wpAny_val 6 (some 67) (.slice uA un uc) (by kernel_rfl) rfl rfl (by kernel_rfl) (ex_load 28 _ (.pointer (some ⟨bp, o + k * 3 + 1, none⟩)) _ rfl (by kernel_rfl) (ld_slice (w := wr.drew) z1)) ?_
              simp only [Act.put, List.setIfInBounds_toArray, List.set_cons_zero, List.set_cons_succ]
              refine wpAny_call 10 (some 71) (by kernel_rfl) rfl rfl (by kernel_rfl) 32 (#[.slice uA un uc, .string (s.extract 0 a)]) (by go_simp) (HS1.out _ (below_drewN (Below.refl _ wr) 1)) ?_
              rintro e wa ⟨rfl, hba⟩
              refine ⟨_, rfl, ?_⟩
              have hx5 := (below_drewN (Below.refl wr.heap.size wr) 1).trans hba
              simp only [Act.put, List.setIfInBounds_toArray, List.set_cons_zero, List.set_cons_succ]
              refine wpAny_at (i := 11) (v := .bool false) (some 72) rfl rfl (by kernel_rfl) (by kernel_rfl) (by kernel_rfl) (fun _ _ _ h => h) (by kernel_rfl) (fun _ => ex_move _ _ rfl (by kernel_rfl)) ?_
              simp only [Act.put, List.setIfInBounds_toArray, List.set_cons_zero, List.set_cons_succ]
              refine wpAny_skip 12 (some 73) rfl rfl (by kernel_rfl) (by kernel_rfl) (by kernel_rfl) (fun _ _ _ h => h) (by kernel_rfl) ?_
              simp only [Act.put, List.setIfInBounds_toArray, List.set_cons_zero, List.set_cons_succ]
              refine wpAny_skip 13 (some 74) rfl rfl (by kernel_rfl) (by kernel_rfl) (by kernel_rfl) (fun _ _ _ h => h) (by kernel_rfl) ?_
              simp only [Act.put, List.setIfInBounds_toArray, List.set_cons_zero, List.set_cons_succ]
              refine wpAny_skip 14 (some 75) rfl rfl (by kernel_rfl) (by kernel_rfl) (by kernel_rfl) (fun _ _ _ h => h) (by kernel_rfl) ?_
              simp only [Act.put, List.setIfInBounds_toArray, List.set_cons_zero, List.set_cons_succ]
              refine wpAny_skip 15 (some 76) rfl rfl (by kernel_rfl) (by kernel_rfl) (by kernel_rfl) (fun _ _ _ h => h) (by kernel_rfl) ?_
              simp only [Act.put, List.setIfInBounds_toArray, List.set_cons_zero, List.set_cons_succ]
              refine wpAny_skip 16 (some 77) rfl rfl (by kernel_rfl) (by kernel_rfl) (by kernel_rfl) (fun _ _ _ h => h) (by kernel_rfl) ?_
              simp only [Act.put, List.setIfInBounds_toArray, List.set_cons_zero, List.set_cons_succ]
              refine wpAny_skip 17 (some 78) rfl rfl (by kernel_rfl) (by kernel_rfl) (by kernel_rfl) (fun _ _ _ h => h) (by kernel_rfl) ?_
              simp only [Act.put, List.setIfInBounds_toArray, List.set_cons_zero, List.set_cons_succ]
              refine wpAny_skip 18 (some 79) rfl rfl (by kernel_rfl) (by kernel_rfl) (by kernel_rfl) (fun _ _ _ h => h) (by kernel_rfl) ?_
              simp only [Act.put, List.setIfInBounds_toArray, List.set_cons_zero, List.set_cons_succ]
              refine wpAny_skip 19 (some 80) rfl rfl (by kernel_rfl) (by kernel_rfl) (by kernel_rfl) (fun _ _ _ h => h) (by kernel_rfl) ?_
              simp only [Act.put, List.setIfInBounds_toArray, List.set_cons_zero, List.set_cons_succ]
              refine wpAny_skip 20 (some 81) rfl rfl (by kernel_rfl) (by kernel_rfl) (by kernel_rfl) (fun _ _ _ h => h) (by kernel_rfl) ?_
              simp only [Act.put, List.setIfInBounds_toArray, List.set_cons_zero, List.set_cons_succ]
              refine wpAny_at (i := 21) (v := .bool false) (some 82) rfl rfl (by kernel_rfl) (by kernel_rfl) (by kernel_rfl) (fun _ _ _ h => h) (by kernel_rfl) (fun _ => ex_pick _ _ _ false (undef) (.bool false) rfl (by kernel_rfl) (by kernel_rfl) (by kernel_rfl)) ?_
              simp only [Act.put, List.setIfInBounds_toArray, List.set_cons_zero, List.set_cons_succ]
              refine wpAny_at (i := 22) (v := .bool false) (some 83) rfl rfl (by kernel_rfl) (by kernel_rfl) (by kernel_rfl) (fun _ _ _ h => h) (by kernel_rfl) (fun _ => ex_pick _ _ _ false (.bool true) (.bool false) rfl (by kernel_rfl) (by kernel_rfl) (by kernel_rfl)) ?_
              simp only [Act.put, List.setIfInBounds_toArray, List.set_cons_zero, List.set_cons_succ]
              refine wpAny_at (i := 23) (v := .bool false) (some 15) rfl rfl (by kernel_rfl) (by kernel_rfl) (by kernel_rfl) (fun _ _ _ h => h) (by kernel_rfl) (fun _ => ex_assign _ _ rfl (by kernel_rfl)) ?_
              simp only [Act.put, List.setIfInBounds_toArray, List.set_cons_zero, List.set_cons_succ]
              refine wpAny_done (by kernel_rfl) ?_ _
              have HB5 := Lib.hid (HB.out.trans (hx5.mono hz))
              clear hx5 hba
              go_wp2_with fail
              go_roundg (xs1.length - (k + 1))
              case measure => omega
              case rel => exact ⟨k + 1, by go_num, by omega, by rw [HF2.out], HB5.out, Nat.le_refl _⟩
            | true =>
              cases m2 with
              | false =>
                have HF2 : Hid (foundF (rs.take (k + 1)) s a = false) := HF.out
                go_wp2_with fail
                refine wp_region_at 24 #[false, false, false, false, false, false, false, false, false, false, false, false, false, false, false, false, false, false, false, false, false, false, false, false] rfl rfl (by kernel_rfl) ?_
                refine wpAny_at (i := 0) (v := .bool false) (some 61) rfl rfl (by kernel_rfl) (by kernel_rfl) (by kernel_rfl) (fun _ _ _ h => h) (by kernel_rfl) (fun _ => ex_move _ _ rfl (by kernel_rfl)) ?_
                simp only [Act.put, List.setIfInBounds_toArray, List.set_cons_zero, List.set_cons_succ]
                refine wpAny_at (i := 1) (v := .bool false) (some 62) rfl rfl (by kernel_rfl) (by kernel_rfl) (by kernel_rfl) (fun _ _ _ h => h) (by kernel_rfl) (fun _ => ex_move _ _ rfl (by kernel_rfl)) ?_
                simp only [Act.put, List.setIfInBounds_toArray, List.set_cons_zero, List.set_cons_succ]
                refine wpAny_at (i := 2) (v := .slice (some ⟨bp, o, none⟩) xs1.length c4) (some 63) rfl rfl (by kernel_rfl) (by kernel_rfl) (by kernel_rfl) (fun _ _ _ h => h) (by kernel_rfl) (fun _ => ex_move _ _ rfl (by kernel_rfl)) ?_
                simp only [Act.put, List.setIfInBounds_toArray, List.set_cons_zero, List.set_cons_succ]
                refine wpAny_at (i := 3) (v := .int .i64 (k : Int)) (some 64) rfl rfl (by kernel_rfl) (by kernel_rfl) (by kernel_rfl) (fun _ _ _ h => h) (by kernel_rfl) (fun _ => ex_move _ _ rfl (by kernel_rfl)) ?_
                simp only [Act.put, List.setIfInBounds_toArray, List.set_cons_zero, List.set_cons_succ]
                refine wpAny_at (i := 4) (v := .pointer (some ⟨bp, o + k * 3, none⟩)) (some 65) rfl rfl (by kernel_rfl) (by kernel_rfl) (by kernel_rfl) (fun _ _ _ h => h) (by kernel_rfl) (fun _ => ex_indexAddr 31 _ _ (.slice (some ⟨bp, o, none⟩) xs1.length c4) (.int .i64 (k : Int)) _ rfl (by kernel_rfl) (by kernel_rfl) (by go_simp)) ?_
                simp only [Act.put, List.setIfInBounds_toArray, List.set_cons_zero, List.set_cons_succ]
                refine wpAny_at (i := 5) (v := .pointer (some ⟨bp, o + k * 3 + 1, none⟩)) (some 66) rfl rfl (by kernel_rfl) (by kernel_rfl) (by kernel_rfl) (fun _ _ _ h => h) (by kernel_rfl) (fun _ => ex_fieldAddr 30 _ 1 (.pointer (some ⟨bp, o + k * 3, none⟩)) _ rfl (by kernel_rfl) (by go_simp)) ?_
                simp only [Act.put, List.setIfInBounds_toArray, List.set_cons_zero, List.set_cons_succ]
                refine wpAny_at (i := 7) (v := .string s) (some 68) rfl rfl (by kernel_rfl) (by kernel_rfl) (by kernel_rfl) (fun _ _ _ h => h) (by kernel_rfl) (fun _ => ex_move _ _ rfl (by kernel_rfl)) ?_
                simp only [Act.put, List.setIfInBounds_toArray, List.set_cons_zero, List.set_cons_succ]
                refine wpAny_at (i := 8) (v := .int .i64 (a : Int)) (some 69) rfl rfl (by kernel_rfl) (by kernel_rfl) (by kernel_rfl) (fun _ _ _ h => h) (by kernel_rfl) (fun _ => ex_move _ _ rfl (by kernel_rfl)) ?_
                simp only [Act.put, List.setIfInBounds_toArray, List.set_cons_zero, List.set_cons_succ]
                refine wpAny_at (i := 9) (v := .string (s.extract 0 a)) (some 70) rfl rfl (by kernel_rfl) (by kernel_rfl) (by kernel_rfl) (fun _ _ _ h => h) (by kernel_rfl) (fun _ => ex_slice 9 _ _ _ (.string s) _ none (some (.int .i64 (a : Int))) rfl (by kernel_rfl) (by kernel_rfl) (by kernel_rfl) (HSL1'.out _)) ?_
                simp only [Act.put, List.setIfInBounds_toArray, List.set_cons_zero, List.set_cons_succ]
                refine wpAny_val 6 (some 67) (.slice uA un uc) (by kernel_rfl) rfl rfl (by kernel_rfl) (ex_load 28 _ (.pointer (some ⟨bp, o + k * 3 + 1, none⟩)) _ rfl (by kernel_rfl) (ld_slice (w := wr.drew) z1)) ?_
                simp only [Act.put, List.setIfInBounds_toArray, List.set_cons_zero, List.set_cons_succ]
                refine wpAny_call 10 (some 71) (by kernel_rfl) rfl rfl (by kernel_rfl) 32 (#[.slice uA un uc, .string (s.extract 0 a)]) (by go_simp) (HS1.out _ (below_drewN (Below.refl _ wr) 1)) ?_
                rintro e wa ⟨rfl, hba⟩
                refine ⟨_, rfl, ?_⟩
                have hx5 := (below_drewN (Below.refl wr.heap.size wr) 1).trans hba
                simp only [Act.put, List.setIfInBounds_toArray, List.set_cons_zero, List.set_cons_succ]
                refine wpAny_at (i := 11) (v := .bool true) (some 72) rfl rfl (by kernel_rfl) (by kernel_rfl) (by kernel_rfl) (fun _ _ _ h => h) (by kernel_rfl) (fun _ => ex_move _ _ rfl (by kernel_rfl)) ?_
                simp only [Act.put, List.setIfInBounds_toArray, List.set_cons_zero, List.set_cons_succ]
                refine wpAny_at (i := 12) (v := .slice (some ⟨bp, o, none⟩) xs1.length c4) (some 73) rfl rfl (by kernel_rfl) (by kernel_rfl) (by kernel_rfl) (fun _ _ _ h => h) (by kernel_rfl) (fun _ => ex_move _ _ rfl (by kernel_rfl)) ?_
                simp only [Act.put, List.setIfInBounds_toArray, List.set_cons_zero, List.set_cons_succ]
                refine wpAny_at (i := 13) (v := .int .i64 (k : Int)) (some 74) rfl rfl (by kernel_rfl) (by kernel_rfl) (by kernel_rfl) (fun _ _ _ h => h) (by kernel_rfl) (fun _ => ex_move _ _ rfl (by kernel_rfl)) ?_
                simp only [Act.put, List.setIfInBounds_toArray, List.set_cons_zero, List.set_cons_succ]
                refine wpAny_at (i := 14) (v := .pointer (some ⟨bp, o + k * 3, none⟩)) (some 75) rfl rfl (by kernel_rfl) (by kernel_rfl) (by kernel_rfl) (fun _ _ _ h => h) (by kernel_rfl) (fun _ => ex_indexAddr 31 _ _ (.slice (some ⟨bp, o, none⟩) xs1.length c4) (.int .i64 (k : Int)) _ rfl (by kernel_rfl) (by kernel_rfl) (by go_simp)) ?_
                simp only [Act.put, List.setIfInBounds_toArray, List.set_cons_zero, List.set_cons_succ]
                refine wpAny_at (i := 15) (v := .pointer (some ⟨bp, o + k * 3 + 2, none⟩)) (some 76) rfl rfl (by kernel_rfl) (by kernel_rfl) (by kernel_rfl) (fun _ _ _ h => h) (by kernel_rfl) (fun _ => ex_fieldAddr 30 _ 2 (.pointer (some ⟨bp, o + k * 3, none⟩)) _ rfl (by kernel_rfl) (by go_simp)) ?_
                simp only [Act.put, List.setIfInBounds_toArray, List.set_cons_zero, List.set_cons_succ]
                refine wpAny_at (i := 17) (v := .string s) (some 78) rfl rfl (by kernel_rfl) (by kernel_rfl) (by kernel_rfl) (fun _ _ _ h => h) (by kernel_rfl) (fun _ => ex_move _ _ rfl (by kernel_rfl)) ?_
                simp only [Act.put, List.setIfInBounds_toArray, List.set_cons_zero, List.set_cons_succ]
                refine wpAny_at (i := 18) (v := .int .i64 (a : Int)) (some 79) rfl rfl (by kernel_rfl) (by kernel_rfl) (by kernel_rfl) (fun _ _ _ h => h) (by kernel_rfl) (fun _ => ex_move _ _ rfl (by kernel_rfl)) ?_
                simp only [Act.put, List.setIfInBounds_toArray, List.set_cons_zero, List.set_cons_succ]
                refine wpAny_at (i := 19) (v := .string (s.extract a s.size)) (some 80) rfl rfl (by kernel_rfl) (by kernel_rfl) (by kernel_rfl) (fun _ _ _ h => h) (by kernel_rfl) (fun _ => ex_slice 9 _ _ _ (.string s) _ (some (.int .i64 (a : Int))) none rfl (by kernel_rfl) (by kernel_rfl) (by kernel_rfl) (HSL2'.out _)) ?_
                simp only [Act.put, List.setIfInBounds_toArray, List.set_cons_zero, List.set_cons_succ]
                refine wpAny_val 16 (some 77) (.slice tA tn tc) (by kernel_rfl) rfl rfl (by kernel_rfl) (ex_load 28 _ (.pointer (some ⟨bp, o + k * 3 + 2, none⟩)) _ rfl (by kernel_rfl) (ld_slice ((hx5.cell (p := ⟨bp, o + k * 3 + 2, none⟩) hq1).trans z2))) ?_
                simp only [Act.put, List.setIfInBounds_toArray, List.set_cons_zero, List.set_cons_succ]
                refine wpAny_call 20 (some 81) (by kernel_rfl) rfl rfl (by kernel_rfl) 33 (#[.slice tA tn tc, .string (s.extract a s.size)]) (by go_simp) (HP1.out _ hx5) ?_
                rintro e wb ⟨rfl, hbb⟩
                refine ⟨_, rfl, ?_⟩
                simp only [Act.put, List.setIfInBounds_toArray, List.set_cons_zero, List.set_cons_succ]
                refine wpAny_at (i := 21) (v := .bool false) (some 82) rfl rfl (by kernel_rfl) (by kernel_rfl) (by kernel_rfl) (fun _ _ _ h => h) (by kernel_rfl) (fun _ => ex_pick _ _ _ true (.bool false) (.bool false) rfl (by kernel_rfl) (by kernel_rfl) (by kernel_rfl)) ?_
                simp only [Act.put, List.setIfInBounds_toArray, List.set_cons_zero, List.set_cons_succ]
                refine wpAny_at (i := 22) (v := .bool false) (some 83) rfl rfl (by kernel_rfl) (by kernel_rfl) (by kernel_rfl) (fun _ _ _ h => h) (by kernel_rfl) (fun _ => ex_pick _ _ _ false (.bool true) (.bool false) rfl (by kernel_rfl) (by kernel_rfl) (by kernel_rfl)) ?_
                simp only [Act.put, List.setIfInBounds_toArray, List.set_cons_zero, List.set_cons_succ]
                refine wpAny_at (i := 23) (v := .bool false) (some 15) rfl rfl (by kernel_rfl) (by kernel_rfl) (by kernel_rfl) (fun _ _ _ h => h) (by kernel_rfl) (fun _ => ex_assign _ _ rfl (by kernel_rfl)) ?_
                simp only [Act.put, List.setIfInBounds_toArray, List.set_cons_zero, List.set_cons_succ]
                refine wpAny_done (by kernel_rfl) ?_ _
                have HB5 := Lib.hid (HB.out.trans ((hx5.trans (hbb.mono hx5.size)).mono hz))
                clear hx5 hba hbb
                go_wp2_with fail
                go_roundg (xs1.length - (k + 1))
                case measure => omega
                case rel => exact ⟨k + 1, by go_num, by omega, by rw [HF2.out], HB5.out, Nat.le_refl _⟩
              | true =>
                have HF2 : Hid (foundF (rs.take (k + 1)) s a = true) := HF.out
                go_wp2_with fail
                refine wp_region_at 24 #[false, false, false, false, false, false, false, false, false, false, false, false, false, false, false, false, false, false, false, false, false, false, false, false] rfl rfl (by kernel_rfl) ?_
                refine wpAny_at (i := 0) (v := .bool false) (some 61) rfl rfl (by kernel_rfl) (by kernel_rfl) (by kernel_rfl) (fun _ _ _ h => h) (by kernel_rfl) (fun _ => ex_move _ _ rfl (by kernel_rfl)) ?_
                simp only [Act.put, List.setIfInBounds_toArray, List.set_cons_zero, List.set_cons_succ]
                refine wpAny_at (i := 1) (v := .bool false) (some 62) rfl rfl (by kernel_rfl) (by kernel_rfl) (by kernel_rfl) (fun _ _ _ h => h) (by kernel_rfl) (fun _ => ex_move _ _ rfl (by kernel_rfl)) ?_
                simp only [Act.put, List.setIfInBounds_toArray, List.set_cons_zero, List.set_cons_succ]
                refine wpAny_at (i := 2) (v := .slice (some ⟨bp, o, none⟩) xs1.length c4) (some 63) rfl rfl (by kernel_rfl) (by kernel_rfl) (by kernel_rfl) (fun _ _ _ h => h) (by kernel_rfl) (fun _ => ex_move _ _ rfl (by kernel_rfl)) ?_
                simp only [Act.put, List.setIfInBounds_toArray, List.set_cons_zero, List.set_cons_succ]
                refine wpAny_at (i := 3) (v := .int .i64 (k : Int)) (some 64) rfl rfl (by kernel_rfl) (by kernel_rfl) (by kernel_rfl) (fun _ _ _ h => h) (by kernel_rfl) (fun _ => ex_move _ _ rfl (by kernel_rfl)) ?_
                simp only [Act.put, List.setIfInBounds_toArray, List.set_cons_zero, List.set_cons_succ]
                refine wpAny_at (i := 4) (v := .pointer (some ⟨bp, o + k * 3, none⟩)) (some 65) rfl rfl (by kernel_rfl) (by kernel_rfl) (by kernel_rfl) (fun _ _ _ h => h) (by kernel_rfl) (fun _ => ex_indexAddr 31 _ _ (.slice (some ⟨bp, o, none⟩) xs1.length c4) (.int .i64 (k : Int)) _ rfl (by kernel_rfl) (by kernel_rfl) (by go_simp)) ?_
                simp only [Act.put, List.setIfInBounds_toArray, List.set_cons_zero, List.set_cons_succ]
                refine wpAny_at (i := 5) (v := .pointer (some ⟨bp, o + k * 3 + 1, none⟩)) (some 66) rfl rfl (by kernel_rfl) (by kernel_rfl) (by kernel_rfl) (fun _ _ _ h => h) (by kernel_rfl) (fun _ => ex_fieldAddr 30 _ 1 (.pointer (some ⟨bp, o + k * 3, none⟩)) _ rfl (by kernel_rfl) (by go_simp)) ?_
                simp only [Act.put, List.setIfInBounds_toArray, List.set_cons_zero, List.set_cons_succ]
                refine wpAny_at (i := 7) (v := .string s) (some 68) rfl rfl (by kernel_rfl) (by kernel_rfl) (by kernel_rfl) (fun _ _ _ h => h) (by kernel_rfl) (fun _ => ex_move _ _ rfl (by kernel_rfl)) ?_
                simp only [Act.put, List.setIfInBounds_toArray, List.set_cons_zero, List.set_cons_succ]
                refine wpAny_at (i := 8) (v := .int .i64 (a : Int)) (some 69) rfl rfl (by kernel_rfl) (by kernel_rfl) (by kernel_rfl) (fun _ _ _ h => h) (by kernel_rfl) (fun _ => ex_move _ _ rfl (by kernel_rfl)) ?_
                simp only [Act.put, List.setIfInBounds_toArray, List.set_cons_zero, List.set_cons_succ]
                refine wpAny_at (i := 9) (v := .string (s.extract 0 a)) (some 70) rfl rfl (by kernel_rfl) (by kernel_rfl) (by kernel_rfl) (fun _ _ _ h => h) (by kernel_rfl) (fun _ => ex_slice 9 _ _ _ (.string s) _ none (some (.int .i64 (a : Int))) rfl (by kernel_rfl) (by kernel_rfl) (by kernel_rfl) (HSL1'.out _)) ?_
                simp only [Act.put, List.setIfInBounds_toArray, List.set_cons_zero, List.set_cons_succ]
                refine wpAny_val 6 (some 67) (.slice uA un uc) (by kernel_rfl) rfl rfl (by kernel_rfl) (ex_load 28 _ (.pointer (some ⟨bp, o + k * 3 + 1, none⟩)) _ rfl (by kernel_rfl) (ld_slice (w := wr.drew) z1)) ?_
                simp only [Act.put, List.setIfInBounds_toArray, List.set_cons_zero, List.set_cons_succ]
                refine wpAny_call 10 (some 71) (by kernel_rfl) rfl rfl (by kernel_rfl) 32 (#[.slice uA un uc, .string (s.extract 0 a)]) (by go_simp) (HS1.out _ (below_drewN (Below.refl _ wr) 1)) ?_
                rintro e wa ⟨rfl, hba⟩
                refine ⟨_, rfl, ?_⟩
                have hx5 := (below_drewN (Below.refl wr.heap.size wr) 1).trans hba
                simp only [Act.put, List.setIfInBounds_toArray, List.set_cons_zero, List.set_cons_succ]
                refine wpAny_at (i := 11) (v := .bool true) (some 72) rfl rfl (by kernel_rfl) (by kernel_rfl) (by kernel_rfl) (fun _ _ _ h => h) (by kernel_rfl) (fun _ => ex_move _ _ rfl (by kernel_rfl)) ?_
                simp only [Act.put, List.setIfInBounds_toArray, List.set_cons_zero, List.set_cons_succ]
                refine wpAny_at (i := 12) (v := .slice (some ⟨bp, o, none⟩) xs1.length c4) (some 73) rfl rfl (by kernel_rfl) (by kernel_rfl) (by kernel_rfl) (fun _ _ _ h => h) (by kernel_rfl) (fun _ => ex_move _ _ rfl (by kernel_rfl)) ?_
                simp only [Act.put, List.setIfInBounds_toArray, List.set_cons_zero, List.set_cons_succ]
                refine wpAny_at (i := 13) (v := .int .i64 (k : Int)) (some 74) rfl rfl (by kernel_rfl) (by kernel_rfl) (by kernel_rfl) (fun _ _ _ h => h) (by kernel_rfl) (fun _ => ex_move _ _ rfl (by kernel_rfl)) ?_
                simp only [Act.put, List.setIfInBounds_toArray, List.set_cons_zero, List.set_cons_succ]
                refine wpAny_at (i := 14) (v := .pointer (some ⟨bp, o + k * 3, none⟩)) (some 75) rfl rfl (by kernel_rfl) (by kernel_rfl) (by kernel_rfl) (fun _ _ _ h => h) (by kernel_rfl) (fun _ => ex_indexAddr 31 _ _ (.slice (some ⟨bp, o, none⟩) xs1.length c4) (.int .i64 (k : Int)) _ rfl (by kernel_rfl) (by kernel_rfl) (by go_simp)) ?_
                simp only [Act.put, List.setIfInBounds_toArray, List.set_cons_zero, List.set_cons_succ]
                refine wpAny_at (i := 15) (v := .pointer (some ⟨bp, o + k * 3 + 2, none⟩)) (some 76) rfl rfl (by kernel_rfl) (by kernel_rfl) (by kernel_rfl) (fun _ _ _ h => h) (by kernel_rfl) (fun _ => ex_fieldAddr 30 _ 2 (.pointer (some ⟨bp, o + k * 3, none⟩)) _ rfl (by kernel_rfl) (by go_simp)) ?_
                simp only [Act.put, List.setIfInBounds_toArray, List.set_cons_zero, List.set_cons_succ]
                refine wpAny_at (i := 17) (v := .string s) (some 78) rfl rfl (by kernel_rfl) (by kernel_rfl) (by kernel_rfl) (fun _ _ _ h => h) (by kernel_rfl) (fun _ => ex_move _ _ rfl (by kernel_rfl)) ?_
                simp only [Act.put, List.setIfInBounds_toArray, List.set_cons_zero, List.set_cons_succ]
                refine wpAny_at (i := 18) (v := .int .i64 (a : Int)) (some 79) rfl rfl (by kernel_rfl) (by kernel_rfl) (by kernel_rfl) (fun _ _ _ h => h) (by kernel_rfl) (fun _ => ex_move _ _ rfl (by kernel_rfl)) ?_
                simp only [Act.put, List.setIfInBounds_toArray, List.set_cons_zero, List.set_cons_succ]
                refine wpAny_at (i := 19) (v := .string (s.extract a s.size)) (some 80) rfl rfl (by kernel_rfl) (by kernel_rfl) (by kernel_rfl) (fun _ _ _ h => h) (by kernel_rfl) (fun _ => ex_slice 9 _ _ _ (.string s) _ (some (.int .i64 (a : Int))) none rfl (by kernel_rfl) (by kernel_rfl) (by kernel_rfl) (HSL2'.out _)) ?_
                simp only [Act.put, List.setIfInBounds_toArray, List.set_cons_zero, List.set_cons_succ]
                refine wpAny_val 16 (some 77) (.slice tA tn tc) (by kernel_rfl) rfl rfl (by kernel_rfl) (ex_load 28 _ (.pointer (some ⟨bp, o + k * 3 + 2, none⟩)) _ rfl (by kernel_rfl) (ld_slice ((hx5.cell (p := ⟨bp, o + k * 3 + 2, none⟩) hq1).trans z2))) ?_
                simp only [Act.put, List.setIfInBounds_toArray, List.set_cons_zero, List.set_cons_succ]
                refine wpAny_call 20 (some 81) (by kernel_rfl) rfl rfl (by kernel_rfl) 33 (#[.slice tA tn tc, .string (s.extract a s.size)]) (by go_simp) (HP1.out _ hx5) ?_
                rintro e wb ⟨rfl, hbb⟩
                refine ⟨_, rfl, ?_⟩
                simp only [Act.put, List.setIfInBounds_toArray, List.set_cons_zero, List.set_cons_succ]
                refine wpAny_at (i := 21) (v := .bool true) (some 82) rfl rfl (by kernel_rfl) (by kernel_rfl) (by kernel_rfl) (fun _ _ _ h => h) (by kernel_rfl) (fun _ => ex_pick _ _ _ true (.bool true) (.bool false) rfl (by kernel_rfl) (by kernel_rfl) (by kernel_rfl)) ?_
                simp only [Act.put, List.setIfInBounds_toArray, List.set_cons_zero, List.set_cons_succ]
                refine wpAny_at (i := 22) (v := .bool true) (some 83) rfl rfl (by kernel_rfl) (by kernel_rfl) (by kernel_rfl) (fun _ _ _ h => h) (by kernel_rfl) (fun _ => ex_pick _ _ _ false (.bool true) (.bool true) rfl (by kernel_rfl) (by kernel_rfl) (by kernel_rfl)) ?_
                simp only [Act.put, List.setIfInBounds_toArray, List.set_cons_zero, List.set_cons_succ]
                refine wpAny_at (i := 23) (v := .bool true) (some 15) rfl rfl (by kernel_rfl) (by kernel_rfl) (by kernel_rfl) (fun _ _ _ h => h) (by kernel_rfl) (fun _ => ex_assign _ _ rfl (by kernel_rfl)) ?_
                simp only [Act.put, List.setIfInBounds_toArray, List.set_cons_zero, List.set_cons_succ]
                refine wpAny_done (by kernel_rfl) ?_ _
                have HB5 := Lib.hid (HB.out.trans ((hx5.trans (hbb.mono hx5.size)).mono hz))
                clear hx5 hba hbb
                go_wp2_with fail
                go_roundg (xs1.length - (k + 1))
                case measure => omega
                case rel => exact ⟨k + 1, by go_num, by omega, by rw [HF2.out], HB5.out, Nat.le_refl _⟩
        · obtain rfl : k = xs1.length := by omega
          have hki : ¬ (xs1.length : Int) < (xs1.length : Int) := by omega
          rw [List.take_of_length_le (by omega)]
          generalize foundF rs s a = fd at HE2 ⊢
          cases fd with
          | false =>
            rw [if_neg Bool.false_ne_true] at HE2
            rw [HE2.out] at HM2
            have ty : (yes != yes) = false := bne_self_eq_false yes
            go_wp2_with (go_at_call 29; refine (HM2.out _ HB.out).mono ?_; rintro e w11 ⟨rfl, hb11⟩)
            go_roundg (s.size - (a + 1))
            case measure => omega
            case rel => exact ⟨a + 1, by go_num, by omega, .inl (by omega), HB.out.trans (hb11.mono HB.out.size), Nat.le_refl _⟩
          | true =>
            rw [if_pos rfl] at HE2
            rw [HE2.out] at HM2
            generalize decB rs s (a : Int) = dv at HM2 HA2
            have ty : (dv != dv) = false := bne_self_eq_false dv
            go_wp2_with (first
              | (go_at_call_of 29 (Value.slice A9 ym.length c9); refine (HM2.out _ HB.out).mono ?_; rintro e w11 ⟨rfl, hb11⟩; have HB11 := Lib.hid (HB.out.trans (hb11.mono HB.out.size)))
              | (go_at_call_of 29 (Value.slice A4 xs1.length c4); refine (HA2.out _ HB11.out).mono ?_; rintro e w12 ⟨rfl, hb12⟩))
            go_roundg (s.size - (a + 1))
            case measure => omega
            case rel => exact ⟨a + 1, by go_num, by omega, .inl (by omega), HB11.out.trans (hb12.mono HB11.out.size), Nat.le_refl _⟩
    · have hai : ¬ (a : Int) < (s.size : Int) := by omega
      have HBZ := Lib.hid (HBW.out.trans (HBA.out.mono HBW.out.size))
      go_wp2_with (go_at_call 17; refine (HK.out _ HBZ.out).mono ?_; rintro e w9 ⟨rfl, hb9⟩)
      go_ret
      exact ⟨rfl, HBZ.out.trans (hb9.mono HBZ.out.size)⟩

end Go.Proofs.YtpboaadjbkaidaaDoor
