
/-
  The statement SegmentCovers: the walk.
-/
import Derived.Test.YtpboaadjbkaidaaDoorPackV4
import Derived.Test.YtpboaadjbkaidaaDoorPackV5
import Derived.Test.YtpboaadjbkaidaaDoorPackV1
set_option linter.unusedVariables false
set_option linter.unusedSimpArgs false
namespace Go.Proofs.YtpboaadjbkaidaaDoor
set_option maxRecDepth 100000
open Go.RowKit

theorem lenI_bytesC : ∀ f : List Tk, lenI f ≤ bytesOf f + f.length
  | [] => Nat.le_refl _
  | x :: f => by
    have h2 := lenI_bytesC f
    have e : bytesOf (x :: f) = x.t.size + bytesOf f := by
      have := bytesOf_append [x] f
      rw [bytesOf_one] at this
      exact this
    rw [lenI, List.length_cons, e]
    have h3 : wdI x ≤ x.t.size + 1 := by
      unfold wdI
      split <;> omega
    omega
/-- What a made fragment keeps to. -/
theorem madeC_ok (l : List Int) (n : Nat) (hn : n ≤ 8) : (fragL l 0 n).f.length ≤ 8 ∧ lenI (fragL l 0 n).f ≤ 200 := by
  have hb := nextN_bd l 0 ((n : Int) + 1) (by omega)
  have h := fragGo_ok l (nextN l 0 ((n : Int) + 1)).toNat ⟨[], [], 0, 0 + 1⟩ 0 (fok_start 1 (Nat.le_refl _))
  have h' : FOK (fragL l 0 n) (0 + (nextN l 0 ((n : Int) + 1)).toNat) := h
  have h1 := h'.len
  have h2 := h'.bytes
  have h3 := lenI_bytesC (fragL l 0 n).f
  exact ⟨by omega, by omega⟩
theorem lenI_mem : ∀ (g : List Tk) (x : Tk), x ∈ g → wdI x ≤ lenI g
  | y :: g, x, h => by
    rw [lenI]
    rcases List.mem_cons.1 h with rfl | h
    · omega
    · have := lenI_mem g x h
      omega
theorem slI_lenI (f : List Tk) (p q : Nat) (hq : q ≤ lenI f) (hpq : p ≤ q) : lenI (slI f 0 p q) = q - p := by
  have h1 := posI_len (slI f 0 p q)
  rw [posI_sl, List.length_drop, List.length_take] at h1
  have h2 := posI_len f
  omega
theorem plS_all (g : List Tk) : (plS g).data.toList.all spcB = (plI g).all spcB := by
  show (plI g).toArray.toList.all spcB = _
  rw [List.toList_toArray]
theorem app_all (a b : ByteArray) (ha : a.data.toList.all spcB = true) (hb : b.data.toList.all spcB = true) : (a ++ b).data.toList.all spcB = true := by
  rw [ByteArray.data_append, Array.toList_append, List.all_append, ha, hb]
  rfl

set_option maxRecDepth 100000 in
set_option maxHeartbeats 16000000 in
theorem walk_SegmentCovers (A : Option Addr) (n c : Nat) (l : List Int) (A2 : Option Addr) (n2 c2 : Nat) (m : List Int) (w : World) (hg : Got w)
    (h0 : n = l.length ∧ l.length ≤ maxLen ∧ RdE intC 1 w (.slice A n c) l ∧ ∀ x ∈ l, IntIn x)
    (h1 : n2 = m.length ∧ m.length ≤ maxLen ∧ RdE intC 1 w (.slice A2 n2 c2) m ∧ ∀ x ∈ m, IntIn x) :
    Calls Tryd.prog 13 #[.slice A n c, .slice A2 n2 c2] w fun e w' => e = .returned (.bool true) ∧ Below w.heap.size w w' := by
  obtain ⟨rfl, hll, hrl, hli⟩ := h0
  obtain ⟨rfl, hml, hrm, hmi⟩ := h1
  unfold maxLen at hll hml
  have HK := Lib.hid (fun (w' : World) (h : Below w.heap.size w w') => known6_any w' (got_below hg h))
  by_cases h60 : 60 < l.length
  · have h60i : (60 : Int) < (l.length : Int) := by omega
    go_enter Tryd.func13, Tryd.ntmps13
    go_wp2_with (go_at_call 17; refine (HK.out _ (Below.refl _ _)).mono ?_; rintro e w1 ⟨rfl, hb1⟩)
    go_ret
    exact ⟨rfl, hb1⟩
  have h60i : ¬ (60 : Int) < (l.length : Int) := by omega
  by_cases h100 : 100 < m.length
  · have h100i : (100 : Int) < (m.length : Int) := by omega
    go_enter Tryd.func13, Tryd.ntmps13
    go_wp2_with (go_at_call 17; refine (HK.out _ (Below.refl _ _)).mono ?_; rintro e w1 ⟨rfl, hb1⟩)
    go_ret
    exact ⟨rfl, hb1⟩
  have h100i : ¬ (100 : Int) < (m.length : Int) := by omega
  obtain ⟨hgl, hgw⟩ := madeC_ok m 8 (by decide)
  have hN : Nums (w.alloc (.cells #[.slice A2 m.length c2, .int .i64 0] 62)) w.heap.size m 0 :=
    ⟨_, w, Array.getElem?_push_size, hrm, Nat.le_refl _, fun k hk => Below.heap_alloc _ _ _ hk, hmi⟩
  have HF := Lib.hid (fragment_any' m w.heap.size 8 _ hN (by decide))
  generalize (fragL m 0 8).f = f at HF hgl hgw
  have HRM := Lib.hid (fun (u : World) (h : Below w.heap.size w u) => rules6_any A c l u (hrl.below h (Nat.le_refl _)) hli)
  have hsm := rulesM_small l
  generalize (rulesM l 0 5).1 = rs at HRM hsm
  have HG1 := Lib.hid (fun (v vg : Value) (u : World) (hr : RdRu u v rs) (ht : RdT u vg f) => ranges_any rs v f vg u hr hsm ht (by omega) (by omega))
  have hl1 := ranges_len rs f (by omega)
  have HCV : Hid (CovF (sqF f) 0 (rangesF rs f)) := rng_cov (sqF f) (sqF_ex f) _ 0 0 (by rw [sqF_len]; exact cuts_ok rs f) (Nat.le_refl _) (fun j _ _ h => by omega)
  generalize rangesF rs f = rl at HG1 hl1 HCV
  have hqn := sqF_len f
  have HQN := Lib.hid hqn
  clear hN hrl hrm hli hmi h60 h100 hsm hqn
  go_enter Tryd.func13, Tryd.ntmps13
  go_upto_region 5 with (go_at_call 35; refine HF.out.mono ?_; rintro e w2 ⟨v2, rfl, ho2, hb2⟩)
  obtain ⟨Ag, cg, hv2⟩ := own_shape ho2
  subst hv2
  have HB0 : Hid (Below w.heap.size w w2) := Lib.hid (((Below.refl w.heap.size w).alloc (Nat.le_refl _) (.cells #[.slice A2 m.length c2, .int .i64 0] 62)).trans (hb2.below (Nat.le_refl _) (by simp)))
  have HR2 := Lib.hid (OwnE.rd tkC_three ho2)
  have HRG := Lib.hid (fun (u : World) (h : Below w2.heap.size w2 u) => RdE.below HR2.out h (Nat.le_refl _))
  clear ho2 hb2 HF HR2
  go_wp2_with (first
    | (go_at_call 27; refine (HRM.out _ HB0.out).mono ?_; rintro e w3 ⟨v3, rfl, hr3, hb3⟩; have HR3 := Lib.hid hr3; have HC3 := Lib.hid hb3; clear hr3 hb3)
    | (go_at_call 43; refine (HG1.out _ _ _ HR3.out (HRG.out _ HC3.out)).mono ?_; rintro e w4 ⟨v4, rfl, ho4, hb4⟩; have HC4 := Lib.hid (HC3.out.trans (hb4.mono HC3.out.size)); have HO4 := Lib.hid (OwnE.rd rangeC_two ho4); obtain ⟨A4, c4, hv4⟩ := own_shape ho4; subst hv4; clear ho4 hb4))
  have HRF := Lib.hid (fun (u : World) (h : Below w4.heap.size w4 u) => HRG.out u (HC4.out.trans (h.mono HC4.out.size)))
  have HB4 := Lib.hid (HB0.out.trans (HC4.out.mono HB0.out.size))
  have HSL := Lib.hid (fun (p q : Nat) (u : World) (h : Below w4.heap.size w4 u) (hpq : p ≤ q) (hq : q ≤ lenI f) => rslice_any f _ p q u (HRF.out u h) (by omega) (by omega) hpq hq)
  have HLS := Lib.hid (fun p q => slI_len f 0 p q)
  have HLW := Lib.hid (fun p q h1 h2 => slI_lenI f p q h1 h2)
  have HLN := Lib.hid (fun (u : World) (h : Below w4.heap.size w4 u) => rlength_any f _ u (HRF.out u h) (by omega) (by omega))
  clear HG1 HRM HR3 HC3 HC4 HRG HRF
  obtain ⟨wo, HWO⟩ : ∃ wo, Hid (wo = w4) := ⟨w4, rfl⟩
  go_loopg [6, 7, 9, 10, 11, 12, 13, 34] rl.length (fun gk av rv xv gv ok iv is jv wr => ∃ (k p : Nat) (s : ByteArray), av = .int .i64 p ∧ rv = .string s ∧ jv = .int .i64 k ∧ k ≤ rl.length ∧ Hid (CovF (sqF f) p (rl.drop k)) ∧ p ≤ lenI f ∧ s.size ≤ p ∧ Hid (s.data.toList.all spcB = true) ∧ Hid (Below w4.heap.size w4 wr) ∧ rl.length - k ≤ gk)
  case atStart => exact ⟨0, 0, ⟨#[]⟩, rfl, rfl, rfl, Nat.zero_le _, by (show CovF _ _ _); rw [List.drop_zero]; exact HCV.out, Nat.zero_le _, Nat.le_refl _, rfl, Below.refl _ _, by omega⟩
  case round =>
    clear HWO HCV
    obtain ⟨k, p, s, rfl, rfl, rfl, hk, HCV, hpl, hsp, HSP, HB, hgk⟩ := hrel
    have hsz := HB.out.size
    by_cases hkl : k < rl.length
    · have hki : (k : Int) < (rl.length : Int) := by omega
      have hk0 : (0 : Int) ≤ (k : Int) := by omega
      obtain ⟨b, o, rfl, hb, hc⟩ := HO4.out.cells (by omega)
      have hx := List.getElem?_eq_getElem hkl
      have q1 := (HB.out.cell (p := ⟨b, o + (k * 2 + 0), none⟩) hb).trans (hc k rl[k] 0 _ hx rfl)
      have q2 := (HB.out.cell (p := ⟨b, o + (k * 2 + 1), none⟩) hb).trans (hc k rl[k] 1 _ hx rfl)
      rw [show o + (k * 2 + 0) = o + k * 2 by omega] at q1
      rw [show o + (k * 2 + 1) = o + k * 2 + 1 by omega] at q2
      have hb2 : b < wr.heap.size := by omega
      rw [List.drop_eq_getElem_cons hkl] at HCV
      generalize rl[k] = r at q1 q2 HCV
      obtain ⟨x, y⟩ := r
      simp only at q1 q2
      clear hc hx
      obtain ⟨c1, c2, c3, c4, ⟨c5, c6⟩, ⟨c7, c8⟩, ⟨j, c9, c10, c11, c12⟩, c13⟩ := HCV.out
      simp only at c1 c2 c3 c4 c5 c6 c7 c8 c10 c11 c13
      have hyl : y ≤ lenI f := by rw [← HQN.out]; exact c3
      have HGA := Lib.hid (cov_gap f p x c4)
      have HIN := Lib.hid (cov_in f x y j c9 c10 c11 c12)
      have hin0 := cov_some f x y HIN.out
      have hfi : ∀ z, (slI f 0 x y)[0]? = some z → edgeB z true = false := fun z hz => by
        obtain ⟨h, e⟩ := List.getElem?_eq_some_iff.1 hz
        rw [← e]
        exact cov_first f x y c5 c2 c6 h
      have HFI := Lib.hid hfi
      clear hfi
      have HLA := Lib.hid (fun z hz => cov_last f x y c7 c2 c8 z hz)
      have HCN := Lib.hid c13
      have HS1 := Lib.hid (fun (u : World) (h : Below w4.heap.size w4 u) => HSL.out p x u h c1 (by omega))
      have HS2 := Lib.hid (fun (u : World) (h : Below w4.heap.size w4 u) => HSL.out x y u h (by omega) hyl)
      have hL1 := HLW.out p x (by omega) c1
      have hL2 := HLW.out x y hyl (by omega)
      have hN1 := HLS.out p x
      have hN2 := HLS.out x y
      clear c3 c4 c5 c6 c7 c8 c9 c10 c11 c12 c13 HCV
      generalize slI f 0 p x = g1 at HGA HS1 hL1 hN1
      generalize slI f 0 x y = g2 at HIN HFI HLA HS2 hL2 hN2 hin0
      have hP1 := plS_size g1
      have hP2 := plI_len g1
      have hP3 := plS_size g2
      have hP4 := plI_len g2
      have HP1 := Lib.hid (fun (v : Value) (u : World) (h : RdT u v g1) => rplain_any g1 v u h (by omega) (by omega))
      have HP2 := Lib.hid (fun (v : Value) (u : World) (h : RdT u v g2) => rplain_any g2 v u h (by omega) (by omega))
      rw [← plS_all] at HGA HIN
      generalize plS g1 = s1 at HGA HP1 hP1
      generalize plS g2 = s2 at HIN HP2 hP3
      have HBK := Lib.hid (fun u => blank_any s2 u (by omega))
      rw [HIN.out] at HBK
      have hs1 : s1.size ≤ x - p := by omega
      clear hP1 hP2 hP3 hP4 hN1 HIN
      obtain ⟨d, hd⟩ : ∃ d, g2.length = d + 1 := ⟨g2.length - 1, by omega⟩
      have hdl : d ≤ 1000000 := by omega
      have HD := Lib.hid hd
      clear hN2
      have HX : Hid ((wr.alloc (.cells #[.int .i64 (x : Int), .int .i64 (y : Int)] 78)).heap[wr.heap.size]? = some (.cells #[.int .i64 (x : Int), .int .i64 (y : Int)] 78)) := heap_alloc_new wr _
      have HB1 := Lib.hid (HB.out.alloc hsz (.cells #[.int .i64 (x : Int), .int .i64 (y : Int)] 78))
      have HM2 := Lib.hid (fun z hz => lenI_mem g2 z hz)
      go_upto_region 8 with fail
      generalize wr.alloc (.cells #[.int .i64 (x : Int), .int .i64 (y : Int)] 78) = w5 at HX HB1 ⊢
      obtain ⟨r, hr⟩ : ∃ r, Hid (r = wr.heap.size) := ⟨_, rfl⟩
      rw [← hr.out] at HX ⊢
      have hr4 : w4.heap.size ≤ r := by have := hr.out; omega
      have hrl : r < w5.heap.size := (Array.getElem?_eq_some_iff.1 HX.out).1
      obtain ⟨x0, x1, _, _⟩ := box2 HX.out
      have hz5 := HB1.out.size
      clear q1 q2 hb2 HB
      go_upto_region 9 with (go_at_call 46; refine (HS1.out _ HB1.out).mono ?_; rintro e w6 ⟨v6, rfl, ho6, hb6⟩; have HX6 := Lib.hid ((hb6.block r hrl).trans HX.out); have HB6 := Lib.hid (HB1.out.trans (hb6.mono hz5)); have HR6 := Lib.hid (OwnE.rd tkC_three ho6))
      obtain ⟨A6, c6, hv6⟩ := HR6.out.shape
      obtain ⟨hv6, _⟩ := hv6
      subst hv6
      have hz6 := HB6.out.size
      have hrl6 : r < w6.heap.size := (Array.getElem?_eq_some_iff.1 HX6.out).1
      clear x0 x1 HX HB1 ho6 hb6 HS1 hrl
      obtain ⟨x0, x1, _, _⟩ := box2 HX6.out
      go_upto_region 10 with (go_at_call 46; refine (HS2.out _ HB6.out).mono ?_; rintro e w7 ⟨v7, rfl, ho7, hb7⟩; have HX7 := Lib.hid ((hb7.block r hrl6).trans HX6.out); have HB7 := Lib.hid (HB6.out.trans (hb7.mono hz6)); have HR7 := Lib.hid (OwnE.rd tkC_three ho7); have HR6 := Lib.hid (HR6.out.below hb7 (Nat.le_refl _)))
      obtain ⟨A7, c7, hv7⟩ := own_shape ho7
      rw [HD.out] at hv7
      subst hv7
      have hz7 := HB7.out.size
      clear x0 x1 HX6 HB6 ho7 hb7 HS2 hrl6
      have hd1 : ((d + 1 : Nat) : Int) = (d : Int) + 1 := by omega
      have t1 : ((d : Int) + 1 == 0) = false := by simp; omega
      obtain ⟨b7, o7, hA7, hbl7, hc7⟩ := HR7.out.cells (by rw [HD.out]; omega)
      subst hA7
      have hg0 : (0 : Nat) < g2.length := by rw [HD.out]; omega
      have hgd : d < g2.length := by rw [HD.out]; omega
      have hx0 := List.getElem?_eq_getElem hg0
      have hxd := List.getElem?_eq_getElem hgd
      have q1 := hc7 0 g2[0] 0 _ hx0 rfl
      have q2 := hc7 0 g2[0] 1 _ hx0 rfl
      have q3 := hc7 0 g2[0] 2 _ hx0 rfl
      have p1 := hc7 d g2[d] 0 _ hxd rfl
      have p2 := hc7 d g2[d] 1 _ hxd rfl
      have p3 := hc7 d g2[d] 2 _ hxd rfl
      rw [show o7 + (0 * 3 + 0) = o7 by omega] at q1
      rw [show o7 + (0 * 3 + 1) = o7 + 1 by omega] at q2
      rw [show o7 + (0 * 3 + 2) = o7 + 2 by omega] at q3
      rw [show o7 + (d * 3 + 0) = o7 + d * 3 by omega] at p1
      rw [show o7 + (d * 3 + 1) = o7 + d * 3 + 1 by omega] at p2
      rw [show o7 + (d * 3 + 2) = o7 + d * 3 + 2 by omega] at p3
      have hf := HFI.out _ hx0
      have hla := HLA.out _ (by rw [HD.out, Nat.add_sub_cancel]; exact hxd)
      have hm0 := HM2.out _ (List.getElem_mem hg0)
      have hmd := HM2.out _ (List.getElem_mem hgd)
      generalize g2[0] = y0 at q1 q2 q3 hf hm0
      generalize g2[d] = y1 at p1 p2 p3 hla hmd
      obtain ⟨a1, a2, a3⟩ := y0
      obtain ⟨e1, e2, e3⟩ := y1
      simp only at q1 q2 q3 p1 p2 p3
      have hwa : a1 = 1 → a2.size ≤ 1000000000 := fun h => by
        have : wdI ⟨a1, a2, a3⟩ = a2.size := by unfold wdI; rw [if_pos h]
        omega
      have hwe : e1 = 1 → e2.size ≤ 1000000000 := fun h => by
        have : wdI ⟨e1, e2, e3⟩ = e2.size := by unfold wdI; rw [if_pos h]
        omega
      have HE0 := Lib.hid (fun u => edge_any a1 a2 a3 true u hwa)
      have HE1 := Lib.hid (fun u => edge_any e1 e2 e3 false u hwe)
      rw [hf] at HE0
      rw [hla] at HE1
      have P1 := Lib.hid p1
      have P2 := Lib.hid p2
      have P3 := Lib.hid p3
      clear hwa hwe hf hla hm0 hmd hx0 hxd hg0 hgd hc7 HFI HLA HM2 p1 p2 p3
      go_upto_region 12 with (first
        | (go_at_call 36; refine (HP2.out _ _ HR7.out).mono ?_; rintro e w8 ⟨rfl, rfl⟩)
        | (go_at_call 47; refine (HBK.out _).mono ?_; rintro e w8 ⟨rfl, rfl⟩))
      have hrl7 : r < w7.heap.size := (Array.getElem?_eq_some_iff.1 HX7.out).1
      refine (HE0.out _).mono ?_
      rintro e w8 ⟨rfl, hb8⟩
      have HB8 := Lib.hid (HB7.out.trans (hb8.mono hz7))
      have HX8 := Lib.hid ((hb8.block r hrl7).trans HX7.out)
      have HR8 := Lib.hid (HR6.out.below hb8 (Nat.le_refl _))
      have hz8 := hb8.size
      have hbl8 : b7 < w8.heap.size := by omega
      have p1 := (hb8.cell (p := ⟨b7, o7 + d * 3, none⟩) hbl7).trans P1.out
      have p2 := (hb8.cell (p := ⟨b7, o7 + d * 3 + 1, none⟩) hbl7).trans P2.out
      have p3 := (hb8.cell (p := ⟨b7, o7 + d * 3 + 2, none⟩) hbl7).trans P3.out
      have hrl8 : r < w8.heap.size := (Array.getElem?_eq_some_iff.1 HX8.out).1
      clear q1 q2 q3 hb8
      go_upto_region 12 with fail
      refine (HE1.out _).mono ?_
      rintro e w9 ⟨rfl, hb9⟩
      have HB9 := Lib.hid (HB8.out.trans (hb9.mono HB8.out.size))
      have HX9 := Lib.hid ((hb9.block r hrl8).trans HX8.out)
      have HR9 := Lib.hid (HR8.out.below hb9 (Nat.le_refl _))
      clear p1 p2 p3 hb9 hz8 hbl8
      go_upto_region 12 with fail
      have hrl9 : r < w9.heap.size := (Array.getElem?_eq_some_iff.1 HX9.out).1
      obtain ⟨x0, x1, _, _⟩ := box2 HX9.out
      have HSA := Lib.hid (app_all s s1 HSP.out HGA.out)
      have hss : (s ++ s1).size ≤ y := by rw [ByteArray.size_append]; omega
      have hsq : s.size ≤ 200 := by omega
      have hsr : s1.size ≤ 200 := by omega
      go_wp2_with (go_at_call 36; refine (HP1.out _ _ HR9.out).mono ?_; rintro e w10 ⟨rfl, rfl⟩)
      go_roundg (rl.length - (k + 1))
      case measure => omega
      case rel => exact ⟨k + 1, y, s ++ s1, rfl, rfl, rfl, by omega, HCN.out, hyl, hss, HSA.out, HB9.out, by omega⟩
    · obtain rfl : k = rl.length := by omega
      rw [List.drop_length] at HCV
      have HGA := Lib.hid (cov_gap f p (lenI f) (fun j h h1 h2 => HCV.out j h h1))
      have HS1 := Lib.hid (HSL.out p (lenI f) wr HB.out hpl (Nat.le_refl _))
      have hL1 := HLW.out p (lenI f) (Nat.le_refl _) hpl
      have hN1 := HLS.out p (lenI f)
      have HLK := Lib.hid (HLN.out wr HB.out)
      generalize slI f 0 p (lenI f) = g1 at HGA HS1 hL1 hN1
      have hP1 := plS_size g1
      have hP2 := plI_len g1
      have HP1 := Lib.hid (fun (v : Value) (u : World) (h : RdT u v g1) => rplain_any g1 v u h (by omega) (by omega))
      rw [← plS_all] at HGA
      generalize plS g1 = s1 at HGA HP1 hP1
      have hs1 : s1.size ≤ 200 := by omega
      have hcat : (s ++ s1).size ≤ 1000000000 := by rw [ByteArray.size_append]; omega
      have HBK := Lib.hid (fun u => blank_any (s ++ s1) u hcat)
      rw [app_all s s1 HSP.out HGA.out] at HBK
      have hss : s.size ≤ 200 := by omega
      generalize lenI f = q at HS1 HLK hL1
      clear hP1 hP2 hN1 hL1 hcat
      go_wp2_with (first
        | (go_at_call 34; refine HLK.out.mono ?_; rintro e w1 ⟨rfl, rfl⟩)
        | (go_at_call 46; refine HS1.out.mono ?_; rintro e w5 ⟨v5, rfl, ho5, hb5⟩; obtain ⟨A5, c5, hv5⟩ := own_shape ho5; subst hv5; have HB5 := Lib.hid (HB.out.trans (hb5.mono hsz)); have HR5 := Lib.hid (OwnE.rd tkC_three ho5); clear ho5 hb5)
        | (go_at_call 36; refine (HP1.out _ _ HR5.out).mono ?_; rintro e w6 ⟨rfl, rfl⟩)
        | (go_at_call 47; refine (HBK.out _).mono ?_; rintro e w7 ⟨rfl, rfl⟩; have HB6 := Lib.hid (HB4.out.trans (HB5.out.mono HB4.out.size)))
        | (go_at_call 17; refine (HK.out _ HB6.out).mono ?_; rintro e w8 ⟨rfl, hb8⟩))
      go_ret
      exact ⟨rfl, HB6.out.trans (hb8.mono HB6.out.size)⟩

end Go.Proofs.YtpboaadjbkaidaaDoor
