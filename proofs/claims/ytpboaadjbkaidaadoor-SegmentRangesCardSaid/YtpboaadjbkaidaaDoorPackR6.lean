/-
  Contracts and plain laws that this claim leans on, part 6.
-/
import Derived.Test.YtpboaadjbkaidaaDoorPackR2
import Derived.Test.YtpboaadjbkaidaaDoorPackR5
import Derived.Test.YtpboaadjbkaidaaDoorPackR4
import Derived.Test.YtpboaadjbkaidaaDoorPackR1
import Derived.Test.YtpboaadjbkaidaaDoorPackR3
import Derived.Deep.LoopGhost
import Derived.Shelf.Strings.Cut
import Derived.Shelf.Strings.Split
import Derived.Shelf.Vars
import Derived.Test.YtpboaadjbkaidaaDoorProg
import Derived.Test.YtpboaadjbkaidaaDoorRows
import Derived.ProofKit
import Derived.LaidMore
import Derived.Lay
import Derived.SizedLaws
import Derived.Stop.Joined
import Derived.Deep.RegionLaw
import Derived.WalkSpells
set_option linter.unusedVariables false
set_option linter.unusedSimpArgs false
namespace Go.Proofs.YtpboaadjbkaidaaDoor
set_option maxRecDepth 100000
open Go.RowKit

set_option maxRecDepth 100000 in
set_option maxHeartbeats 8000000 in
theorem rspace_any (f : List Tk) (v : Value) (p : Nat) (b : Bool) (w : World) (h1 : RdT w v f) (hl : lenI f ≤ 1000000) (hfl : f.length ≤ 1000000) (hp : (spF f)[p]? = some b) :
    Calls Tryd.prog 81 #[v, .int .i64 (p : Int)] w fun e w' => e = .returned (.bool b) ∧ Below w.heap.size w w' := by
  have hpl : p < lenI f := by
    have := (List.getElem?_eq_some_iff.1 hp).1
    rw [spF_len] at this
    exact this
  obtain ⟨A, c, rfl, _, _⟩ := h1.shape
  have HS := Lib.hid (rslice_any f _ p (p + 1) w h1 (by omega) hfl (by omega) (by omega))
  obtain ⟨y, b', hy, hb, hc⟩ := one_rs f p hpl
  have hbb : b' = b := by
    have h : (spF f)[p]? = some b' := hb
    rw [hp] at h
    exact (Option.some.inj h).symm
  subst hbb
  rw [hy] at HS
  clear hy hb hp h1
  rcases hc with ⟨hk, h0, hs⟩ | ⟨hk, hs⟩
  · have hcls : (clsN (y.t[0].toNat : Int) == 2) = b' := by rw [← hs]; rfl
    have h255 : y.t[0].toNat < 256 := y.t[0].toNat_lt
    have HC := Lib.hid (fun w' => cls_any (y.t[0].toNat : Int) w' (by omega) (by omega))
    generalize clsN (y.t[0].toNat : Int) = z at hcls HC
    have h0i : (0 : Int) < (y.t.size : Int) := by omega
    clear hs
    go_enter Tryd.func81, Tryd.ntmps81
    go_upto_region 2 with (go_at_call 46; refine HS.out.mono ?_; rintro e w5 ⟨v5, rfl, ho5, hb5⟩; obtain ⟨A5, c5, hv5⟩ := own_shape ho5; subst hv5; have HB5 := Lib.hid hb5; have HR5 := Lib.hid (OwnE.rd tkC_three ho5))
    obtain ⟨b5, o5, hA5, hbl5, p1, p2, _⟩ := RdT.at_ HR5.out 0 (by simp)
    subst hA5
    have q1 : w5.cell? ⟨b5, o5, none⟩ = some (.int .i64 y.k) := by simpa using p1
    have q2 : w5.cell? ⟨b5, o5 + 1, none⟩ = some (.string y.t) := by simpa using p2
    clear p1 p2 HR5 ho5 hb5
    rw [hk] at q1
    go_wp2_with (go_at_call 99; refine (HC.out _).mono ?_; rintro e w6 ⟨rfl, rfl⟩)
    go_ret
    exact ⟨rfl, HB5.out⟩
  · subst hs
    have t1 : (y.k == 1) = false := by simpa using hk
    go_enter Tryd.func81, Tryd.ntmps81
    go_upto_region 2 with (go_at_call 46; refine HS.out.mono ?_; rintro e w5 ⟨v5, rfl, ho5, hb5⟩; obtain ⟨A5, c5, hv5⟩ := own_shape ho5; subst hv5; have HB5 := Lib.hid hb5; have HR5 := Lib.hid (OwnE.rd tkC_three ho5))
    obtain ⟨b5, o5, hA5, hbl5, p1, p2, _⟩ := RdT.at_ HR5.out 0 (by simp)
    subst hA5
    have q1 : w5.cell? ⟨b5, o5, none⟩ = some (.int .i64 y.k) := by simpa using p1
    clear p1 p2 HR5 ho5 hb5
    go_wp2_with fail
    go_ret
    exact ⟨rfl, HB5.out⟩

set_option maxRecDepth 100000 in
set_option maxHeartbeats 16000000 in
theorem rranges_any (rs : List Ru) (vr : Value) (f : List Tk) (v : Value) (w : World) (hr : RdRu w vr rs) (hsm : RuSmall rs) (h1 : RdT w v f) (hl : lenI f ≤ 1000000) (hfl : f.length ≤ 100000) :
    Calls Tryd.prog 44 #[vr, v] w (RetOwn 78 rangeC 2 w (rangesF rs f)) := by
  obtain ⟨R, HRR⟩ : ∃ R, Hid (R = RetOwn 78 rangeC 2 w (rangesF rs f)) := ⟨_, rfl⟩
  rw [← HRR.out]
  obtain ⟨A, c, rfl, _, _⟩ := h1.shape
  have HPL := Lib.hid (rplain_any f _ w h1 (by omega) (by omega))
  have hps := plS_size f
  have hpl := plI_len f
  have HBR := Lib.hid (fun (u : World) (h : Below w.heap.size w u) => rBreaks_any rs vr (plS f) u (hr.below h (Nat.le_refl _)) hsm (by omega))
  have HRD := Lib.hid (fun (u : World) (h : Below w.heap.size w u) => RdE.below h1 h (Nat.le_refl _))
  have HCO := Lib.hid (cuts_ok rs f)
  have hbl := bnF_len rs (plS f)
  have HBL := Lib.hid (bnF_le rs (plS f))
  have HGO : Hid (rangesF rs f = rngF (sqF f) 0 (cutsF f (bnF rs (plS f)))) := rfl
  rw [breaks_nat] at HBR
  generalize bnF rs (plS f) = bn at HBR HCO hbl HBL HGO
  generalize plS f = s at HPL HBR hps hbl HBL
  have hcl := cuts_len f bn
  have HCA := Lib.hid (fun k (h : k < bn.length) => cuts_at f bn k h)
  have HCE := Lib.hid (cuts_end f bn)
  generalize cutsF f bn = cs at HCO HGO hcl HCA HCE
  have hbn : bn.length ≤ 1000000 := by omega
  clear h1 hr
  go_enter Tryd.func44, Tryd.ntmps44
  go_wp2_with (first
    | (go_at_call 36; refine HPL.out.mono ?_; rintro e w1 ⟨rfl, rfl⟩)
    | (go_at_call 31; refine (HBR.out _ (Below.refl _ _)).mono ?_; rintro e w2 ⟨v2, rfl, ho2, hb2⟩; have HB2 := Lib.hid hb2; have HO2 := Lib.hid ho2; obtain ⟨Ab, cb, hvb⟩ := own_shape ho2; rw [List.length_map] at hvb; subst hvb; have hs2 := hb2.size; clear hb2 ho2)
    | (at_builtin; go_must (refine wpList_app1 rfl (.tmp 23) (.tmp 24) 32 3 rfl Tryd.underlying32 _ 1 8 int_info6 rfl (by decide) w.heap.size (.slice Ab bn.length cb) bn.length ((bn.map fun (x : Nat) => (x : Int)).flatMap intC) rfl (by have h := World.ownsRow.alloc HO2.out (.cells (intC (-1)).toArray 3); simp only [List.length_map] at h; exact h) ⟨w2.heap.size, 0, none⟩ 1 (intC (-1)) rfl rfl (cells_new w2 (intC (-1)) 3) (intC_oneA (-1)) (by omega) (by decide) (by simp; omega) ?_); intro g9 cap w9 hown9 hbg9 hbel9 hgrow9; have HB9 := Lib.hid (hbel9 w.heap.size w (Nat.le_refl _) (HB2.out.alloc hs2 (.cells (intC (-1)).toArray 3)))))
  have HR9 := Lib.hid (OwnE.rd (f := intC) (m := 1) (fun _ => rfl) (OwnE.snoc (f := intC) (l := bn.map fun (x : Nat) => (x : Int)) (x := (-1 : Int)) (by rw [List.length_map]; exact hown9)))
  clear hown9 hbel9 hgrow9 HB2 HO2 hs2
  have hz9 := HB9.out.size
  have HSP : Hid (∀ p t, t ≤ lenI f → (plI (slI f 0 p t)).any (fun c => !spcB c) = true → ∃ x y, sgF (sqF f) p t = [(x, y)] ∧ SegAt (spF f) p t x y) := fun p t ht ha => segAt f p t ht ha
  have HSA := HSP
  clear HSP
  have HSPC := Lib.hid (fun (p : Nat) (b : Bool) (u : World) (h : Below w9.heap.size w9 u) (hp : (spF f)[p]? = some b) => rspace_any f _ p b u (HRD.out u (HB9.out.trans (h.mono hz9))) hl (by omega) hp)
  have HSL := Lib.hid (fun (p q : Nat) (u : World) (h : Below w9.heap.size w9 u) (hpq : p ≤ q) (hq : q ≤ lenI f) => rslice_any f _ p q u (HRD.out u (HB9.out.trans (h.mono hz9))) (by omega) (by omega) hpq hq)
  have HLS := Lib.hid (fun p q => slI_len f 0 p q)
  have HLW : Hid (∀ p q, lenI (slI f 0 p q) ≤ lenI f) := fun p q => by
    have h1 := posI_len (slI f 0 p q)
    rw [posI_sl, List.length_drop, List.length_take] at h1
    have h2 := posI_len f
    omega
  have HPA := Lib.hid (fun (o : Int) (u : World) (h : Below w9.heap.size w9 u) => rplace_any f _ o u (HRD.out u (HB9.out.trans (h.mono hz9))) hl (by omega))
  have HLN := Lib.hid (fun (u : World) (h : Below w9.heap.size w9 u) => rlength_any f _ u (HRD.out u (HB9.out.trans (h.mono hz9))) (by omega) (by omega))
  have HPN := Lib.hid (fun k (h : k ≤ (plI f).length) => placeF_nat f k h)
  clear HRD
  generalize lenI f = n at hl HCO HSL HLW HSA HLN HCE hpl
  have HCL := Lib.hid hcl
  clear hcl
  obtain ⟨wo, HWO⟩ : ∃ wo, Hid (wo = w9) := ⟨w9, rfl⟩
  go_loopg [5, 7, 10, 11, 12, 13, 14, 15, 16, 17, 18, 28] (bn.length + 1) (fun gk ov fv bv tv pv ok sv lv hv xv yv jv wr => ∃ (k p : Nat) (q : List (Nat × Nat)) (Ac : Option Addr) (cc : Nat), ov = .slice Ac q.length cc ∧ fv = .int .i64 p ∧ jv = .int .i64 k ∧ k ≤ bn.length + 1 ∧ Hid (p = (0 :: cs).getD k 0) ∧ Hid (q = rngF (sqF f) 0 (cs.take k)) ∧ q.length ≤ k ∧ Hid (OwnE 78 rangeC 2 wr w9.heap.size (.slice Ac q.length cc) q) ∧ Hid (Below w9.heap.size w9 wr) ∧ bn.length + 1 - k ≤ gk)
  case atStart => exact ⟨0, 0, [], none, 0, rfl, rfl, rfl, Nat.zero_le _, rfl, by (show _ = _); rw [List.take_zero]; rfl, by simp, OwnE.nil, Below.refl _ _, by omega⟩
  case round =>
    clear HWO
    obtain ⟨k, p, q, Ac, cc, rfl, rfl, rfl, hk, HP, HQ, hqk, HO, HB, hgk⟩ := hrel
    have hsz := HB.out.size
    by_cases hkl : k < bn.length + 1
    · have hki : (k : Int) < (bn.length : Int) + 1 := by omega
      have hk0 : (0 : Int) ≤ (k : Int) := by omega
      have hkc : k < cs.length := by rw [HCL.out]; exact hkl
      obtain ⟨hpt, htn⟩ := AscF.at_ k hkc HCO.out
      rw [← HP.out] at hpt
      have HTK := Lib.hid (rngF_take (sqF f) cs 0 k hkc)
      rw [← HP.out, ← HQ.out] at HTK
      have HGT : Hid ((0 :: cs).getD (k + 1) 0 = cs[k]) := by
        show _ = _
        rw [List.getD_cons_succ, List.getD_eq_getElem?_getD, List.getElem?_eq_getElem hkc]
        rfl
      have hcsk : cs[k]? = some cs[k] := List.getElem?_eq_getElem hkc
      have HLK := Lib.hid (HLN.out wr HB.out)
      by_cases hkb : k < bn.length
      · have hget : ((bn.map fun (x : Nat) => (x : Int)) ++ [-1])[k]? = some (bn[k] : Int) := by rw [List.getElem?_append_left (by rw [List.length_map]; exact hkb), List.getElem?_map, List.getElem?_eq_getElem hkb]; rfl
        obtain ⟨b, o, hA, hb, q1⟩ := rd_one HR9.out k _ _ hget rfl
        injection hA with hA
        injection hA with hA1 hA2 _
        subst hA1 hA2
        rw [← HB.out.cell (p := ⟨g9, 0 + k, none⟩) hb, Nat.zero_add] at q1
        have hb2 : g9 < wr.heap.size := by omega
        have hbs := HBL.out _ (List.getElem_mem hkb)
        have hca := HCA.out k hkb
        rw [hcsk] at hca
        have hca2 := Option.some.inj hca
        have HPK := Lib.hid (HPA.out (bn[k] : Int) wr HB.out)
        rw [HPN.out bn[k] (by omega), ← hca2] at HPK
        clear hca hca2 hcsk hget
        generalize cs[k] = t at hpt htn HTK HGT HPK
        generalize bn[k] = bk at q1 HPK
        have ht2 : t ≤ 1000000 := by omega
        go_upto_region 11 with (first
          | (go_at_call 34; refine HLK.out.mono ?_; rintro e w1 ⟨rfl, rfl⟩)
          | (go_at_call 38; refine HPK.out.mono ?_; rintro e wr2 ⟨rfl, hb3⟩; have HBT := Lib.hid (HB.out.trans (hb3.mono hsz)); have HOT := Lib.hid (own_below HO.out hb3 (Nat.le_refl _))))
        clear hb3 HPK q1 hb hb2 HO HB
        have HSK := Lib.hid (HSL.out p t wr2 HBT.out hpt (by omega))
        have hgl := HLS.out p t
        have hgw := HLW.out p t
        have HST := Lib.hid (HSA.out p t (by omega))
        have HNO := Lib.hid (segNo f p t)
        have hzt := HBT.out.size
        generalize slI f 0 p t = g at HSK hgl hgw HST HNO
        have HPG := Lib.hid (fun (v : Value) (u : World) (h : RdT u v g) => rplain_any g v u h (by omega) (by omega))
        have hgs := plS_size g
        have hgp := plI_len g
        have HGL : Hid ((plS g).data.toList = plI g) := by show (plI g).toArray.toList = _; simp
        have HTR := Lib.hid (fun (u : World) => rtrim_any (plS g) u (by unfold maxLen; omega))
        rw [HGL.out] at HTR
        generalize plI g = gl at HTR HST HNO
        generalize plS g = gs at HPG HTR
        clear hgs hgp HGL
        by_cases ha : gl.any (fun c => !spcB c) = true
        · obtain ⟨x, y, hsg, hat⟩ := HST.out ha
          rw [hsg] at HTK
          have HAT := Lib.hid hat
          have hpx := hat.px
          have hxy := hat.xy
          have hyt := hat.yq
          clear hsg hat HST HNO
          go_wp2_with (first
            | (go_at_call 46; refine HSK.out.mono ?_; rintro e w3 ⟨v3, rfl, ho3, hb3⟩; obtain ⟨A3, c3, hv3⟩ := own_shape ho3; subst hv3; have HB3 := Lib.hid (HBT.out.trans (hb3.mono hzt)); have HR3 := Lib.hid (OwnE.rd tkC_three ho3); have HO3 := Lib.hid (own_below HOT.out hb3 (Nat.le_refl _)))
            | (go_at_call 36; refine (HPG.out _ _ HR3.out).mono ?_; rintro e w4 ⟨rfl, rfl⟩)
            | (go_at_call 80; refine (HTR.out _).mono ?_; rintro e w5 ⟨x9, y9, hT, rfl, rfl⟩; have hx9 := (trim_any_iff hT).2 ha; have hx9i : (x9 : Int) < (y9 : Int) := by omega))
          have hz4 := HB3.out.size
          clear hb3 ho3 HR3 HSK HPG HTR hT hx9
          obtain ⟨wo, HWO⟩ : ∃ wo, Hid (wo = w3) := ⟨w3, rfl⟩
          go_loopg [17] (x - p) (fun gk xv wr => ∃ j : Nat, xv = .int .i64 j ∧ p ≤ j ∧ j ≤ x ∧ Hid (Below w3.heap.size w3 wr) ∧ x - j ≤ gk)
          case atStart => exact ⟨p, rfl, Nat.le_refl _, hpx, Below.refl _ _, by omega⟩
          case round =>
            clear HWO
            obtain ⟨j, rfl, hpj, hjx, HA, hgj⟩ := hrel
            have HBJ := Lib.hid (HB3.out.trans (HA.out.mono hz4))
            have hza := HA.out.size
            by_cases hj : j < x
            · have HS := Lib.hid (HSPC.out j true wr HBJ.out (HAT.out.lead j hpj hj))
              go_wp2_with (go_at_call 81; refine HS.out.mono ?_; rintro e w6 ⟨rfl, hb6⟩; have HA6 := Lib.hid (HA.out.trans (hb6.mono hza)))
              go_roundg (x - (j + 1))
              case measure => omega
              case rel => exact ⟨j + 1, rfl, by omega, by omega, HA6.out, by omega⟩
            · obtain rfl : j = x := by omega
              have HS := Lib.hid (HSPC.out j false wr HBJ.out HAT.out.atx)
              go_wp2_with (go_at_call 81; refine HS.out.mono ?_; rintro e w6 ⟨rfl, hb6⟩; have HA6 := Lib.hid (HA.out.trans (hb6.mono hza)))
              clear hb6 HS HA HBJ hza
              obtain ⟨wo, HWO⟩ : ∃ wo, Hid (wo = w6) := ⟨w6, rfl⟩
              go_loopg [18] (t - y) (fun gk yv wr => ∃ m : Nat, yv = .int .i64 ((m : Int) + 1) ∧ y ≤ m + 1 ∧ m + 1 ≤ t ∧ Hid (Below w3.heap.size w3 wr) ∧ m + 1 - y ≤ gk)
              case atStart => exact ⟨t - 1, by (show Value.int .i64 _ = Value.int .i64 _); congr 1; omega, by omega, by omega, HA6.out, by omega⟩
              case round =>
                clear HA6 HWO
                obtain ⟨m, rfl, hym, hmt, HA, hgm⟩ := hrel
                have HBJ := Lib.hid (HB3.out.trans (HA.out.mono hz4))
                have hza := HA.out.size
                have hm0 : (0 : Int) ≤ (m : Int) := by omega
                by_cases hm : y ≤ m
                · have HS := Lib.hid (HSPC.out m true wr HBJ.out (HAT.out.tail m hm (by omega)))
                  go_wp2_with (go_at_call 81; refine HS.out.mono ?_; rintro e w6 ⟨rfl, hb6⟩; have HA6 := Lib.hid (HA.out.trans (hb6.mono hza)))
                  go_roundg (m - y)
                  case measure => omega
                  case rel => exact ⟨m - 1, by (show Value.int .i64 _ = Value.int .i64 _); congr 1; omega, by omega, by omega, HA6.out, by omega⟩
                · obtain rfl : y = m + 1 := by omega
                  have HS := Lib.hid (HSPC.out m false wr HBJ.out (by have h := HAT.out.aty; rw [Nat.add_sub_cancel] at h; exact h))
                  go_wp2_with (first
                    | (go_at_call 81; refine HS.out.mono ?_; rintro e w6 ⟨rfl, hb6⟩; have HA6 := Lib.hid (HA.out.trans (hb6.mono hza)); have HB6 := Lib.hid (HB3.out.trans (HA6.out.mono hz4)); have hz6 := HB6.out.size; have HO6 := Lib.hid (World.ownsRow.alloc (own_below HO3.out HA6.out (Nat.le_refl _)) (.cells (rangeC (j, m + 1)).toArray 78)))
                    | (at_builtin; go_must (refine wpList_app1 rfl (.tmp 69) (.tmp 73) 73 78 rfl Tryd.underlying73 _ 2 16 range_info rfl (by decide) w9.heap.size (.slice Ac q.length cc) q.length (q.flatMap rangeC) rfl (by exact HO6.out) ⟨w6.heap.size, 0, none⟩ 1 (rangeC (j, m + 1)) rfl rfl (by exact cells_new _ _ _) (range_one _) (by omega) (by decide) (by simp; omega) ?_); intro g8 cap8 w8 hown8 hbg8 hbel8 hgr8))
                  have HO8 : Hid (OwnE 78 rangeC 2 w8 w9.heap.size (.slice (some ⟨g8, 0, none⟩) (q.length + 1) cap8) (rngF (sqF f) 0 (cs.take (k + 1)))) := by
                    show OwnE _ _ _ _ _ _ _
                    rw [HTK.out]
                    exact OwnE.snoc (f := rangeC) hown8
                  have HB8 := Lib.hid (hbel8 _ _ (Nat.le_refl _) (HB6.out.alloc hz6 (.cells (rangeC (j, m + 1)).toArray 78)))
                  have HL8 : Hid ((rngF (sqF f) 0 (cs.take (k + 1))).length = q.length + 1) := by
                    show _ = _
                    rw [HTK.out, List.length_append]
                    rfl
                  clear hown8 hbel8 hgr8
                  go_wp2_with fail
                  go_roundg (bn.length + 1 - (k + 1))
                  case measure => omega
                  case rel => exact ⟨k + 1, t, _, some ⟨g8, 0, none⟩, cap8, by rw [HL8.out], rfl, rfl, by omega, HGT.out.symm, rfl, by rw [HL8.out]; omega, by (show OwnE _ _ _ _ _ _ _); rw [HL8.out]; exact HO8.out, HB8.out, by omega⟩
        · have HT2 : Hid (rngF (sqF f) 0 (cs.take (k + 1)) = q) := by
            show _ = _
            rw [HTK.out, HNO.out ha, List.append_nil]
          clear HST HNO
          go_wp2_with (first
            | (go_at_call 46; refine HSK.out.mono ?_; rintro e w3 ⟨v3, rfl, ho3, hb3⟩; obtain ⟨A3, c3, hv3⟩ := own_shape ho3; subst hv3; have HB3 := Lib.hid (HBT.out.trans (hb3.mono hzt)); have HR3 := Lib.hid (OwnE.rd tkC_three ho3); have HO3 := Lib.hid (own_below HOT.out hb3 (Nat.le_refl _)))
            | (go_at_call 36; refine (HPG.out _ _ HR3.out).mono ?_; rintro e w4 ⟨rfl, rfl⟩)
            | (go_at_call 80; refine (HTR.out _).mono ?_; rintro e w5 ⟨x9, y9, hT, rfl, rfl⟩; have hx9 : ¬ x9 < y9 := fun h => ha ((trim_any_iff hT).1 h); have hx9i : ¬ (x9 : Int) < (y9 : Int) := by omega))
          go_roundg (bn.length + 1 - (k + 1))
          case measure => omega
          case rel => exact ⟨k + 1, t, q, Ac, cc, rfl, rfl, rfl, by omega, HGT.out.symm, HT2.out.symm, by omega, HO3.out, HB3.out, by omega⟩
      · obtain rfl : k = bn.length := by omega
        have hget : ((bn.map fun (x : Nat) => (x : Int)) ++ [-1])[bn.length]? = some (-1 : Int) := by rw [List.getElem?_append_right (by rw [List.length_map]; exact Nat.le_refl _), List.length_map, Nat.sub_self]; rfl
        obtain ⟨b, o, hA, hb, q1⟩ := rd_one HR9.out bn.length _ _ hget rfl
        injection hA with hA
        injection hA with hA1 hA2 _
        subst hA1 hA2
        rw [← HB.out.cell (p := ⟨g9, 0 + bn.length, none⟩) hb, Nat.zero_add] at q1
        have hb2 : g9 < wr.heap.size := by omega
        have hca := HCE.out
        rw [hcsk] at hca
        have hca2 := Option.some.inj hca
        rw [← hca2] at HLK
        clear hca hca2 hcsk hget
        generalize cs[bn.length] = t at hpt htn HTK HGT HLK
        have ht2 : t ≤ 1000000 := by omega
        go_upto_region 11 with (go_at_call 34; refine HLK.out.mono ?_; rintro e w1 ⟨rfl, rfl⟩)
        have HBT := HB
        have HOT := HO
        obtain ⟨wr2, HW2⟩ : ∃ u, Hid (u = wr) := ⟨wr, rfl⟩
        rw [← HW2.out] at HBT HOT ⊢
        clear q1 hb hb2 HO HB HW2
        have HSK := Lib.hid (HSL.out p t wr2 HBT.out hpt (by omega))
        have hgl := HLS.out p t
        have hgw := HLW.out p t
        have HST := Lib.hid (HSA.out p t (by omega))
        have HNO := Lib.hid (segNo f p t)
        have hzt := HBT.out.size
        generalize slI f 0 p t = g at HSK hgl hgw HST HNO
        have HPG := Lib.hid (fun (v : Value) (u : World) (h : RdT u v g) => rplain_any g v u h (by omega) (by omega))
        have hgs := plS_size g
        have hgp := plI_len g
        have HGL : Hid ((plS g).data.toList = plI g) := by show (plI g).toArray.toList = _; simp
        have HTR := Lib.hid (fun (u : World) => rtrim_any (plS g) u (by unfold maxLen; omega))
        rw [HGL.out] at HTR
        generalize plI g = gl at HTR HST HNO
        generalize plS g = gs at HPG HTR
        clear hgs hgp HGL
        by_cases ha : gl.any (fun c => !spcB c) = true
        · obtain ⟨x, y, hsg, hat⟩ := HST.out ha
          rw [hsg] at HTK
          have HAT := Lib.hid hat
          have hpx := hat.px
          have hxy := hat.xy
          have hyt := hat.yq
          clear hsg hat HST HNO
          go_wp2_with (first
            | (go_at_call 46; refine HSK.out.mono ?_; rintro e w3 ⟨v3, rfl, ho3, hb3⟩; obtain ⟨A3, c3, hv3⟩ := own_shape ho3; subst hv3; have HB3 := Lib.hid (HBT.out.trans (hb3.mono hzt)); have HR3 := Lib.hid (OwnE.rd tkC_three ho3); have HO3 := Lib.hid (own_below HOT.out hb3 (Nat.le_refl _)))
            | (go_at_call 36; refine (HPG.out _ _ HR3.out).mono ?_; rintro e w4 ⟨rfl, rfl⟩)
            | (go_at_call 80; refine (HTR.out _).mono ?_; rintro e w5 ⟨x9, y9, hT, rfl, rfl⟩; have hx9 := (trim_any_iff hT).2 ha; have hx9i : (x9 : Int) < (y9 : Int) := by omega))
          have hz4 := HB3.out.size
          clear hb3 ho3 HR3 HSK HPG HTR hT hx9
          obtain ⟨wo, HWO⟩ : ∃ wo, Hid (wo = w3) := ⟨w3, rfl⟩
          go_loopg [17] (x - p) (fun gk xv wr => ∃ j : Nat, xv = .int .i64 j ∧ p ≤ j ∧ j ≤ x ∧ Hid (Below w3.heap.size w3 wr) ∧ x - j ≤ gk)
          case atStart => exact ⟨p, rfl, Nat.le_refl _, hpx, Below.refl _ _, by omega⟩
          case round =>
            clear HWO
            obtain ⟨j, rfl, hpj, hjx, HA, hgj⟩ := hrel
            have HBJ := Lib.hid (HB3.out.trans (HA.out.mono hz4))
            have hza := HA.out.size
            by_cases hj : j < x
            · have HS := Lib.hid (HSPC.out j true wr HBJ.out (HAT.out.lead j hpj hj))
              go_wp2_with (go_at_call 81; refine HS.out.mono ?_; rintro e w6 ⟨rfl, hb6⟩; have HA6 := Lib.hid (HA.out.trans (hb6.mono hza)))
              go_roundg (x - (j + 1))
              case measure => omega
              case rel => exact ⟨j + 1, rfl, by omega, by omega, HA6.out, by omega⟩
            · obtain rfl : j = x := by omega
              have HS := Lib.hid (HSPC.out j false wr HBJ.out HAT.out.atx)
              go_wp2_with (go_at_call 81; refine HS.out.mono ?_; rintro e w6 ⟨rfl, hb6⟩; have HA6 := Lib.hid (HA.out.trans (hb6.mono hza)))
              clear hb6 HS HA HBJ hza
              obtain ⟨wo, HWO⟩ : ∃ wo, Hid (wo = w6) := ⟨w6, rfl⟩
              go_loopg [18] (t - y) (fun gk yv wr => ∃ m : Nat, yv = .int .i64 ((m : Int) + 1) ∧ y ≤ m + 1 ∧ m + 1 ≤ t ∧ Hid (Below w3.heap.size w3 wr) ∧ m + 1 - y ≤ gk)
              case atStart => exact ⟨t - 1, by (show Value.int .i64 _ = Value.int .i64 _); congr 1; omega, by omega, by omega, HA6.out, by omega⟩
              case round =>
                clear HA6 HWO
                obtain ⟨m, rfl, hym, hmt, HA, hgm⟩ := hrel
                have HBJ := Lib.hid (HB3.out.trans (HA.out.mono hz4))
                have hza := HA.out.size
                have hm0 : (0 : Int) ≤ (m : Int) := by omega
                by_cases hm : y ≤ m
                · have HS := Lib.hid (HSPC.out m true wr HBJ.out (HAT.out.tail m hm (by omega)))
                  go_wp2_with (go_at_call 81; refine HS.out.mono ?_; rintro e w6 ⟨rfl, hb6⟩; have HA6 := Lib.hid (HA.out.trans (hb6.mono hza)))
                  go_roundg (m - y)
                  case measure => omega
                  case rel => exact ⟨m - 1, by (show Value.int .i64 _ = Value.int .i64 _); congr 1; omega, by omega, by omega, HA6.out, by omega⟩
                · obtain rfl : y = m + 1 := by omega
                  have HS := Lib.hid (HSPC.out m false wr HBJ.out (by have h := HAT.out.aty; rw [Nat.add_sub_cancel] at h; exact h))
                  go_wp2_with (first
                    | (go_at_call 81; refine HS.out.mono ?_; rintro e w6 ⟨rfl, hb6⟩; have HA6 := Lib.hid (HA.out.trans (hb6.mono hza)); have HB6 := Lib.hid (HB3.out.trans (HA6.out.mono hz4)); have hz6 := HB6.out.size; have HO6 := Lib.hid (World.ownsRow.alloc (own_below HO3.out HA6.out (Nat.le_refl _)) (.cells (rangeC (j, m + 1)).toArray 78)))
                    | (at_builtin; go_must (refine wpList_app1 rfl (.tmp 69) (.tmp 73) 73 78 rfl Tryd.underlying73 _ 2 16 range_info rfl (by decide) w9.heap.size (.slice Ac q.length cc) q.length (q.flatMap rangeC) rfl (by exact HO6.out) ⟨w6.heap.size, 0, none⟩ 1 (rangeC (j, m + 1)) rfl rfl (by exact cells_new _ _ _) (range_one _) (by omega) (by decide) (by simp; omega) ?_); intro g8 cap8 w8 hown8 hbg8 hbel8 hgr8))
                  have HO8 : Hid (OwnE 78 rangeC 2 w8 w9.heap.size (.slice (some ⟨g8, 0, none⟩) (q.length + 1) cap8) (rngF (sqF f) 0 (cs.take (bn.length + 1)))) := by
                    show OwnE _ _ _ _ _ _ _
                    rw [HTK.out]
                    exact OwnE.snoc (f := rangeC) hown8
                  have HB8 := Lib.hid (hbel8 _ _ (Nat.le_refl _) (HB6.out.alloc hz6 (.cells (rangeC (j, m + 1)).toArray 78)))
                  have HL8 : Hid ((rngF (sqF f) 0 (cs.take (bn.length + 1))).length = q.length + 1) := by
                    show _ = _
                    rw [HTK.out, List.length_append]
                    rfl
                  clear hown8 hbel8 hgr8
                  go_wp2_with fail
                  go_roundg (bn.length + 1 - (bn.length + 1))
                  case measure => omega
                  case rel => exact ⟨bn.length + 1, t, _, some ⟨g8, 0, none⟩, cap8, by rw [HL8.out], rfl, rfl, by omega, HGT.out.symm, rfl, by rw [HL8.out]; omega, by (show OwnE _ _ _ _ _ _ _); rw [HL8.out]; exact HO8.out, HB8.out, by omega⟩
        · have HT2 : Hid (rngF (sqF f) 0 (cs.take (bn.length + 1)) = q) := by
            show _ = _
            rw [HTK.out, HNO.out ha, List.append_nil]
          clear HST HNO
          go_wp2_with (first
            | (go_at_call 46; refine HSK.out.mono ?_; rintro e w3 ⟨v3, rfl, ho3, hb3⟩; obtain ⟨A3, c3, hv3⟩ := own_shape ho3; subst hv3; have HB3 := Lib.hid (HBT.out.trans (hb3.mono hzt)); have HR3 := Lib.hid (OwnE.rd tkC_three ho3); have HO3 := Lib.hid (own_below HOT.out hb3 (Nat.le_refl _)))
            | (go_at_call 36; refine (HPG.out _ _ HR3.out).mono ?_; rintro e w4 ⟨rfl, rfl⟩)
            | (go_at_call 80; refine (HTR.out _).mono ?_; rintro e w5 ⟨x9, y9, hT, rfl, rfl⟩; have hx9 : ¬ x9 < y9 := fun h => ha ((trim_any_iff hT).1 h); have hx9i : ¬ (x9 : Int) < (y9 : Int) := by omega))
          go_roundg (bn.length + 1 - (bn.length + 1))
          case measure => omega
          case rel => exact ⟨bn.length + 1, t, q, Ac, cc, rfl, rfl, rfl, by omega, HGT.out.symm, HT2.out.symm, by omega, HO3.out, HB3.out, by omega⟩
    · obtain rfl : k = bn.length + 1 := by omega
      rw [← HCL.out, List.take_length, ← HGO.out] at HQ
      go_wp2_with fail
      rw [HRR.out, ← HQ.out]
      exact ⟨_, rfl, own_base HO.out hz9, HB9.out.trans (HB.out.mono hz9)⟩

end Go.Proofs.YtpboaadjbkaidaaDoor

namespace Go.Proofs.YtpboaadjbkaidaaDoor
set_option maxRecDepth 100000
open Go.RowKit

def blkL (v : Value) : List Nat := v.ownBlock.toList
theorem mem_blkL {v : Value} {b : Nat} : b ∈ blkL v ↔ v.ownBlock = some b := by unfold blkL; rw [Option.mem_toList]
theorem Keep.mono {X Y : List Nat} {w : World} {φ : World → Prop} (h : Keep Y w φ) (hXY : ∀ b ∈ X, b ∈ Y) : Keep X w φ :=
  fun u hu hk => h u hu fun b hb hY => hk b hb (fun hx => hY (hXY b hx))

/-- Tables under way; xs: the row's cells; rv: the rules of the last table; ys: their cells. -/
structure TS (eT eR : TypeId) (B : Nat) (w : World) (v : Value) (ts : List Tb) (xs : List TbV) (rv : Sl) (ys : List RuV) : Prop where
  own : OwnE eT tbC 3 w B v xs
  len : xs.length = ts.length
  ident : ∀ (i : Nat) (x : TbV) (t : Tb), xs[i]? = some x → ts[i]? = some t → x.nm = t.nm ∧ x.pa = t.pa
  front : ∀ (i : Nat) (x : TbV) (t : Tb), xs[i]? = some x → ts[i]? = some t → i + 1 < ts.length → Keep (blkL v ++ blkL rv.v) w fun u => RdRu u x.r.v t.rs
  rown : OwnE eR ruC 3 w B rv.v ys
  apart : ∀ k, v.ownBlock = some k → rv.v.ownBlock ≠ some k
  last : ∀ (i : Nat) (x : TbV) (t : Tb), xs[i]? = some x → ts[i]? = some t → i + 1 = ts.length → x.r = rv ∧ ys.length = t.rs.length ∧
    ∀ (j : Nat) (y : RuV) (r : Ru), ys[j]? = some y → t.rs[j]? = some r → y.b = r.br ∧ Keep (blkL v ++ blkL rv.v) w fun u => RdE atC 34 u y.u.v r.bf ∧ RdE atC 34 u y.t.v r.af

section
variable {eT eR : TypeId} {B : Nat} {w w' : World} {v : Value} {ts : List Tb} {xs : List TbV} {rv : Sl} {ys : List RuV}
theorem TS.start : TS eT eR B w (.slice none 0 0) [] [] ⟨none, 0, 0⟩ [] where
  own := OwnE.nil
  len := rfl
  ident := fun _ _ _ h => by simp at h
  front := fun _ _ _ h => by simp at h
  rown := OwnE.nil
  apart := fun k h => by simp [Value.ownBlock] at h
  last := fun _ _ _ h => by simp at h
/-- The rules of the last table. -/
theorem TS.lastRu (h : TS eT eR B w v ts xs rv ys) (i : Nat) (x : TbV) (t : Tb) (hx : xs[i]? = some x) (ht : ts[i]? = some t) (hi : i + 1 = ts.length) {X : List Nat} (hX : ∀ b ∈ X, b ∈ blkL v) : Keep X w fun u => RdRu u x.r.v t.rs := by
  obtain ⟨e, hl, hy⟩ := h.last i x t hx ht hi
  subst e
  have h1 := OwnE.keepX (X := X) ruC_len h.rown (fun b hb => .inr (h.apart b (mem_blkL.1 (hX b hb))))
  intro u hu hk
  refine ⟨ys, h1 u hu hk, hl, fun j y r hyj hrj => ?_⟩
  have h2 := hy j y r hyj hrj
  exact ⟨h2.1, (h2.2.mono (fun b hb => List.mem_append_left _ (hX b hb))) u hu hk⟩
theorem TS.rd (h : TS eT eR B w v ts xs rv ys) : RdTb w v ts := by
  refine ⟨xs, h.own.rd tbC_len, h.len, fun i x t hx ht => ⟨(h.ident i x t hx ht).1, (h.ident i x t hx ht).2, ?_⟩⟩
  have hi : i < ts.length := (List.getElem?_eq_some_iff.1 ht).1
  by_cases hl : i + 1 < ts.length
  · exact (h.front i x t hx ht hl).now
  · exact (h.lastRu i x t hx ht (by omega) (X := []) (by simp)).now
/-- The world turns, but for the rows' blocks. -/
theorem TS.keep (h : TS eT eR B w v ts xs rv ys) (hs : w.heap.size ≤ w'.heap.size) (hk : ∀ b, b < w.heap.size → w'.heap[b]? = w.heap[b]?) : TS eT eR B w' v ts xs rv ys where
  own := own_same h.own fun k hk2 => hk k (h.own.lt k hk2).2
  len := h.len
  ident := h.ident
  front := fun i x t hx ht hl => (h.front i x t hx ht hl).step hs fun b hb hX => ⟨hk b hb, hX⟩
  rown := own_same h.rown fun k hk2 => hk k (h.rown.lt k hk2).2
  apart := h.apart
  last := fun i x t hx ht hl => ⟨(h.last i x t hx ht hl).1, (h.last i x t hx ht hl).2.1, fun j y r hy hr => ⟨((h.last i x t hx ht hl).2.2 j y r hy hr).1, ((h.last i x t hx ht hl).2.2 j y r hy hr).2.step hs fun b hb hX => ⟨hk b hb, hX⟩⟩⟩
theorem TS.below (h : TS eT eR B w v ts xs rv ys) {C : Nat} (hb : Below C w w') (hC : w.heap.size ≤ C) : TS eT eR B w' v ts xs rv ys :=
  h.keep hb.size fun b hlt => hb.block b (Nat.lt_of_lt_of_le hlt hC)
/-- A table more. -/
theorem TS.push (h : TS eT eR B w v ts xs rv ys) {v' : Value} (nm pa : ByteArray) (hown : OwnE eT tbC 3 w' B v' (xs ++ [⟨nm, pa, ⟨none, 0, 0⟩⟩])) (hg : w.grownBy w' v.ownBlock) (hat : v'.ownBlock = v.ownBlock ∨ v'.ownBlock = some w.heap.size) :
    TS eT eR B w' v' (ts ++ [⟨nm, pa, []⟩]) (xs ++ [⟨nm, pa, ⟨none, 0, 0⟩⟩]) ⟨none, 0, 0⟩ [] := by
  have hnew : ∀ b, b < w.heap.size → b ∉ blkL v → w'.heap[b]? = w.heap[b]? ∧ b ∉ blkL v' ++ blkL (Sl.v ⟨none, 0, 0⟩) := fun b hb hX => by
    refine ⟨hg.block b hb (fun e => hX (mem_blkL.2 e.symm)), fun hm => ?_⟩
    rcases List.mem_append.1 hm with hm | hm
    · have := mem_blkL.1 hm
      rcases hat with e | e
      · exact hX (mem_blkL.2 (e ▸ this))
      · rw [e] at this; injection this with this; omega
    · have := mem_blkL.1 hm
      simp [Sl.v, Value.ownBlock] at this
  have hl : ∀ (i : Nat) (x : TbV) (t : Tb), (xs ++ [⟨nm, pa, ⟨none, 0, 0⟩⟩])[i]? = some x → (ts ++ [⟨nm, pa, []⟩])[i]? = some t → (i < ts.length ∧ xs[i]? = some x ∧ ts[i]? = some t) ∨ (i = ts.length ∧ x = ⟨nm, pa, ⟨none, 0, 0⟩⟩ ∧ t = ⟨nm, pa, []⟩) := fun i x t hx ht => by
    have hi : i < ts.length + 1 := by have := (List.getElem?_eq_some_iff.1 ht).1; simpa using this
    by_cases h1 : i < ts.length
    · refine .inl ⟨h1, ?_, ?_⟩
      · rw [List.getElem?_append_left (by rw [h.len]; exact h1)] at hx; exact hx
      · rw [List.getElem?_append_left h1] at ht; exact ht
    · have h2 : i = ts.length := by omega
      subst h2
      refine .inr ⟨rfl, ?_, ?_⟩
      · rw [List.getElem?_append_right (by rw [h.len]; exact Nat.le_refl _), h.len, Nat.sub_self] at hx
        simpa using hx.symm
      · rw [List.getElem?_append_right (Nat.le_refl _), Nat.sub_self] at ht
        simpa using ht.symm
  refine ⟨hown, by simp [h.len], fun i x t hx ht => ?_, fun i x t hx ht hi => ?_, OwnE.nil, fun k _ => by simp [Sl.v, Value.ownBlock], fun i x t hx ht hi => ?_⟩
  · rcases hl i x t hx ht with ⟨_, h2, h3⟩ | ⟨_, rfl, rfl⟩
    · exact h.ident i x t h2 h3
    · exact ⟨rfl, rfl⟩
  · rcases hl i x t hx ht with ⟨h1, h2, h3⟩ | ⟨h1, _, _⟩
    · have hk : Keep (blkL v) w fun u => RdRu u x.r.v t.rs := by
        by_cases h4 : i + 1 < ts.length
        · exact (h.front i x t h2 h3 h4).mono fun b hb => List.mem_append_left _ hb
        · exact h.lastRu i x t h2 h3 (by omega) fun b hb => hb
      exact hk.step hg.size hnew
    · simp at hi; omega
  · rcases hl i x t hx ht with ⟨h1, _, _⟩ | ⟨_, rfl, rfl⟩
    · simp at hi; omega
    · exact ⟨rfl, rfl, fun j y r hy => by simp at hy⟩
theorem addLast_get (r : Ru) : ∀ (ts : List Tb) (n : Nat), ts.length = n + 1 → ∀ (i : Nat) (t : Tb), (addLast ts r)[i]? = some t → (i < n ∧ ts[i]? = some t) ∨ (i = n ∧ ∃ t0, ts[n]? = some t0 ∧ t = ⟨t0.nm, t0.pa, t0.rs ++ [r]⟩)
  | [], n, h, i, t, ht => by simp at h
  | [a], n, h, i, t, ht => by
    obtain rfl : n = 0 := by simpa using h.symm
    cases i with
    | zero => exact .inr ⟨rfl, a, rfl, by simpa [addLast] using ht.symm⟩
    | succ i => simp [addLast] at ht
  | a :: b :: ts, n, h, i, t, ht => by
    obtain ⟨m, rfl⟩ : ∃ m, n = m + 1 := ⟨n - 1, by simp at h; omega⟩
    cases i with
    | zero => exact .inl ⟨by omega, by simpa [addLast] using ht⟩
    | succ i =>
      rcases addLast_get r (b :: ts) m (by simp at h ⊢; omega) i t (by simpa [addLast] using ht) with ⟨h1, h2⟩ | ⟨h1, t0, h2, h3⟩
      · exact .inl ⟨by omega, h2⟩
      · exact .inr ⟨by omega, t0, h2, h3⟩
theorem addLast_len (r : Ru) : ∀ ts : List Tb, (addLast ts r).length = ts.length
  | [] => rfl
  | [_] => rfl
  | a :: b :: ts => by rw [addLast, List.length_cons, addLast_len r (b :: ts)]; rfl
theorem flat_set2 : ∀ (xs : List TbV) (n : Nat) (x : TbV) (r : Sl), xs[n]? = some x → (xs.flatMap tbC).set (n * 3 + 2) r.v = (xs.set n ⟨x.nm, x.pa, r⟩).flatMap tbC
  | [], n, x, r, h => by simp at h
  | a :: xs, 0, x, r, h => by
    obtain rfl : a = x := by simpa using h
    simp [tbC]
  | a :: xs, n + 1, x, r, h => by
    have ih := flat_set2 xs n x r (by simpa using h)
    rw [List.flatMap_cons, List.set_cons_succ, List.flatMap_cons, ← ih, List.set_append_right _ _ (by rw [tbC_len]; omega), tbC_len, show (n + 1) * 3 + 2 - 3 = n * 3 + 2 by omega]
/-- A rule more in the last table. -/
theorem TS.rule (h : TS eT eR B w v ts xs rv ys) (n : Nat) (hn : ts.length = n + 1) (g c : Nat) (hv : v = .slice (some ⟨g, 0, none⟩) (n + 1) c) (x : TbV) (hx : xs[n]? = some x) (r : Ru) (y : RuV) (hy : y.b = r.br)
    (hk : Keep (blkL v ++ blkL rv.v) w fun u => RdE atC 34 u y.u.v r.bf ∧ RdE atC 34 u y.t.v r.af) {rv' : Sl} (hown : OwnE eR ruC 3 w' B rv'.v (ys ++ [y])) (hg : w.grownBy w' rv.v.ownBlock) (hat : rv'.v.ownBlock = rv.v.ownBlock ∨ rv'.v.ownBlock = some w.heap.size) :
    TS eT eR B (w'.setCell ⟨g, n * 3 + 2, none⟩ rv'.v) v (addLast ts r) (xs.set n ⟨x.nm, x.pa, rv'⟩) rv' (ys ++ [y]) := by
  have hgb : v.ownBlock = some g := by rw [hv]; rfl
  have hgl := h.own.lt g hgb
  have hrg := h.apart g hgb
  have hrg' : rv'.v.ownBlock ≠ some g := by
    rcases hat with e | e
    · rw [e]; exact hrg
    · rw [e]; intro e2; injection e2 with e2; omega
  have hnew : ∀ b, b < w.heap.size → b ∉ blkL v ++ blkL rv.v → (w'.setCell ⟨g, n * 3 + 2, none⟩ rv'.v).heap[b]? = w.heap[b]? ∧ b ∉ blkL v ++ blkL rv'.v := fun b hb hX => by
    have h1 : b ≠ g := fun e => hX (List.mem_append_left _ (mem_blkL.2 (e ▸ hgb)))
    have h2 : rv.v.ownBlock ≠ some b := fun e => hX (List.mem_append_right _ (mem_blkL.2 e))
    refine ⟨(heap_setCell_other w' _ b _ h1).trans (hg.block b hb (fun e => h2 e.symm)), fun hm => ?_⟩
    rcases List.mem_append.1 hm with hm | hm
    · exact hX (List.mem_append_left _ hm)
    · have h3 := mem_blkL.1 hm
      rcases hat with e | e
      · exact h2 (e ▸ h3)
      · rw [e] at h3; injection h3 with h3; omega
  have hsz : w.heap.size ≤ (w'.setCell ⟨g, n * 3 + 2, none⟩ rv'.v).heap.size := by
    have := hg.size
    simpa [World.setCell] using this
  have hv1 : OwnE eT tbC 3 w' B v xs := own_same h.own fun k hk2 => by
    rw [hgb] at hk2
    injection hk2 with hk2
    subst hk2
    exact hg.block g hgl.2 (fun e => hrg e.symm)
  have hxl : xs.length = n + 1 := h.len.trans hn
  have hset : ∀ (i : Nat) (z : TbV), (xs.set n ⟨x.nm, x.pa, rv'⟩)[i]? = some z → (i ≠ n ∧ xs[i]? = some z) ∨ (i = n ∧ z = ⟨x.nm, x.pa, rv'⟩) := fun i z hz => by
    by_cases hi : i = n
    · subst hi
      rw [List.getElem?_set_self (by omega)] at hz
      exact .inr ⟨rfl, (Option.some.inj hz).symm⟩
    · rw [List.getElem?_set_ne (fun e => hi e.symm)] at hz
      exact .inl ⟨hi, hz⟩
  refine ⟨?_, by rw [List.length_set, addLast_len]; exact h.len, fun i z t hz ht => ?_, fun i z t hz ht hi => ?_, own_setAt (g := g) hown (fun k hk2 e => hrg' (by rw [hk2, e])) _ _, fun k hk2 => by rw [hgb] at hk2; injection hk2 with hk2; exact hk2 ▸ hrg', fun i z t hz ht hi => ?_⟩
  · have h1 := hv1
    unfold OwnE at h1
    rw [hxl] at h1
    have h0 := h1
    rw [hv] at h0
    have h2 := (h0.stored (n * 3 + 2) rv'.v).1
    unfold OwnE
    rw [List.length_set, hxl, ← flat_set2 xs n x rv' hx, hv]
    exact h2
  · rcases hset i z hz with ⟨h1, h2⟩ | ⟨h1, rfl⟩
    · rcases addLast_get r ts n hn i t ht with ⟨_, h4⟩ | ⟨h3, _⟩
      · exact h.ident i z t h2 h4
      · exact absurd h3 h1
    · rcases addLast_get r ts n hn i t ht with ⟨h3, _⟩ | ⟨_, t0, h4, rfl⟩
      · omega
      · exact h.ident n x t0 hx h4
  · rw [addLast_len, hn] at hi
    rcases hset i z hz with ⟨h1, h2⟩ | ⟨h1, _⟩
    · rcases addLast_get r ts n hn i t ht with ⟨h3, h4⟩ | ⟨h3, _⟩
      · exact (h.front i z t h2 h4 (by omega)).step hsz hnew
      · exact absurd h3 h1
    · omega
  · rw [addLast_len, hn] at hi
    have hin : i = n := by omega
    rcases hset i z hz with ⟨h1, _⟩ | ⟨_, rfl⟩
    · exact absurd hin h1
    · rcases addLast_get r ts n hn i t ht with ⟨h3, _⟩ | ⟨_, t0, h4, rfl⟩
      · omega
      · obtain ⟨_, hl, hy0⟩ := h.last n x t0 hx h4 (by omega)
        refine ⟨rfl, by simp [hl], fun j q p hq hp => ?_⟩
        by_cases hj : j < ys.length
        · rw [List.getElem?_append_left hj] at hq
          rw [List.getElem?_append_left (by omega)] at hp
          exact ⟨(hy0 j q p hq hp).1, (hy0 j q p hq hp).2.step hsz hnew⟩
        · have hj2 : j < ys.length + 1 := by have := (List.getElem?_eq_some_iff.1 hq).1; simpa using this
          obtain rfl : j = ys.length := by omega
          rw [List.getElem?_append_right (Nat.le_refl _), Nat.sub_self] at hq
          rw [List.getElem?_append_right (by omega), hl, Nat.sub_self] at hp
          obtain rfl : y = q := by simpa using hq
          obtain rfl : r = p := by simpa using hp
          exact ⟨hy, hk.step hsz hnew⟩
end

end Go.Proofs.YtpboaadjbkaidaaDoor

namespace Go.Proofs.YtpboaadjbkaidaaDoor
set_option maxRecDepth 100000
open Go.RowKit

theorem place_math (x n : Int) (hn : 1 ≤ n) (hx : x < 0) : -n < x.tmod n ∧ x.tmod n ≤ 0 ∧ (x.tmod n < 0 → x % n = x.tmod n + n) ∧ (¬ x.tmod n < 0 → x % n = x.tmod n) := by
  have h1 : x.tmod n = -((-x) % n) := by
    have h := Int.neg_tmod (-x) n
    rw [Int.neg_neg] at h
    rw [h, Int.tmod_eq_emod_of_nonneg (by omega)]
  have h2 := Int.emod_nonneg (-x) (show n ≠ 0 by omega)
  have h3 := Int.emod_lt_of_pos (-x) (show 0 < n by omega)
  have h4 : x = x.tmod n + n * x.tdiv n := (Int.tmod_add_mul_tdiv x n).symm
  have h5 : x % n = (x.tmod n) % n := by
    conv => lhs; rw [h4]
    exact Int.add_mul_emod_self_left ..
  refine ⟨by omega, by omega, fun hl => ?_, fun hl => ?_⟩
  · rw [h5, ← Int.add_emod_right, Int.emod_eq_of_lt (by omega) (by omega)]
  · rw [h5, Int.emod_eq_of_lt (by omega) (by omega)]

theorem place_any (x n : Int) (w : World) (hx : IntIn x) (hn : 1 ≤ n) (hn2 : n ≤ 1000000) :
    Calls Tryd.prog 14 #[.int .i64 x, .int .i64 n] w fun e w' => e = .returned (.int .i64 (x % n)) ∧ w = w' := by
  obtain ⟨hx1, hx2⟩ := hx
  by_cases h : x < 0
  · obtain ⟨q1, q2, q3, q4⟩ := place_math x n hn h
    by_cases hr : x.tmod n < 0
    · have e := q3 hr
      go_enter Tryd.func14, Tryd.ntmps14
      go_wp2
      go_ret
      exact ⟨ret_int (by omega), rfl⟩
    · have e := q4 hr
      go_enter Tryd.func14, Tryd.ntmps14
      go_wp2
      go_ret
      exact ⟨ret_int (by omega), rfl⟩
  · go_enter Tryd.func14, Tryd.ntmps14
    have hb := Int.emod_nonneg x (show n ≠ 0 by omega)
    have hb2 := Int.emod_lt_of_pos x (show 0 < n by omega)
    go_wp2
    go_ret
    exact ⟨rfl, rfl⟩

end Go.Proofs.YtpboaadjbkaidaaDoor

namespace Go.Proofs.YtpboaadjbkaidaaDoor
set_option maxRecDepth 100000
open Go.RowKit

/-- The number that a call of Next gives: place N of the list, below n. -/
def nextN (L : List Int) (N : Nat) (n : Int) : Int := (L.getD N 0) % n
theorem nextN_bd (L : List Int) (N : Nat) (n : Int) (h : 1 ≤ n) : 0 ≤ nextN L N n ∧ nextN L N n < n :=
  ⟨Int.emod_nonneg _ (by omega), Int.emod_lt_of_pos _ (by omega)⟩

def words : List ByteArray := [⟨#[114, 101, 100]⟩, ⟨#[99, 97, 114]⟩, ⟨#[82, 101, 100]⟩, ⟨#[97]⟩, ⟨#[99, 97, 114, 115]⟩, ⟨#[49, 44, 53]⟩, ⟨#[50, 50]⟩, ⟨#[100, 111, 110, 39, 116]⟩, ⟨#[46]⟩, ⟨#[33]⟩, ⟨#[32]⟩, ⟨#[32, 32]⟩,
  ⟨#[60]⟩, ⟨#[38]⟩, ⟨#[123]⟩, ⟨#[34]⟩, ⟨#[92]⟩, ⟨#[120, 45, 121]⟩, ⟨#[10]⟩, ⟨#[61]⟩, ⟨#[125]⟩, ⟨#[62]⟩, ⟨#[9]⟩, ⟨#[98]⟩]
def mkWord (L : List Int) (N : Nat) : ByteArray := words.getD (nextN L N 24).toNat ⟨#[]⟩
theorem words_size : ∀ k, (words.getD k ⟨#[]⟩).size ≤ 5 := by
  intro k
  by_cases h : k < words.length
  · have : ∀ x ∈ words, x.size ≤ 5 := by decide
    rw [List.getD_eq_getElem?_getD, List.getElem?_eq_getElem h]
    exact this _ (List.getElem_mem h)
  · rw [List.getD_eq_getElem?_getD, List.getElem?_eq_none (by omega)]
    decide

/-- The rounds of Line that are left: i of them. -/
def lineGo (L : List Int) : Nat → ByteArray → Nat → ByteArray × Nat
  | 0, out, N => (out, N)
  | i + 1, out, N =>
    if 0 < out.size then
      if 0 < nextN L (N + 1) 3 then lineGo L i (out ++ ⟨#[32]⟩ ++ mkWord L N) (N + 2) else lineGo L i (out ++ mkWord L N) (N + 2)
    else lineGo L i (out ++ mkWord L N) (N + 1)
def lineL (L : List Int) (N : Nat) (n : Int) : ByteArray × Nat := lineGo L (nextN L N (n + 1)).toNat ⟨#[]⟩ (N + 1)
theorem lineGo_bd (L : List Int) : ∀ i out N, (lineGo L i out N).1.size ≤ out.size + 6 * i ∧ (lineGo L i out N).2 ≤ N + 2 * i
  | 0, out, N => ⟨Nat.le_refl _, Nat.le_refl _⟩
  | i + 1, out, N => by
    have hw : (mkWord L N).size ≤ 5 := words_size _
    rw [lineGo]
    split
    · split
      · have h := lineGo_bd L i (out ++ ⟨#[32]⟩ ++ mkWord L N) (N + 2)
        rw [ByteArray.size_append, ByteArray.size_append] at h
        have h1 : (ByteArray.mk #[32]).size = 1 := rfl
        omega
      · have h := lineGo_bd L i (out ++ mkWord L N) (N + 2)
        rw [ByteArray.size_append] at h
        omega
    · have h := lineGo_bd L i (out ++ mkWord L N) (N + 1)
      rw [ByteArray.size_append] at h
      omega
theorem lineL_bd (L : List Int) (N : Nat) (n : Int) (h : 0 ≤ n) : (lineL L N n).1.size ≤ 6 * n.toNat ∧ (lineL L N n).2 ≤ N + 1 + 2 * n.toNat := by
  have h1 := nextN_bd L N (n + 1) (by omega)
  have h2 := lineGo_bd L (nextN L N (n + 1)).toNat ⟨#[]⟩ (N + 1)
  have h3 : (ByteArray.mk #[]).size = 0 := rfl
  unfold lineL
  omega

end Go.Proofs.YtpboaadjbkaidaaDoor

namespace Go.Proofs.YtpboaadjbkaidaaDoor
set_option maxRecDepth 100000
open Go.RowKit

/-- All but block g is as it was. -/
structure But (g : Nat) (w w' : World) : Prop where
  os : w'.os = w.os
  tape : w'.tape = w.tape
  output : w'.output = w.output
  size : w.heap.size ≤ w'.heap.size
  block : ∀ k, k < w.heap.size → k ≠ g → w'.heap[k]? = w.heap[k]?
theorem But.refl (g : Nat) (w : World) : But g w w := ⟨rfl, rfl, rfl, Nat.le_refl _, fun _ _ _ => rfl⟩
theorem But.trans {g : Nat} {a b c : World} (h : But g a b) (k : But g b c) : But g a c :=
  ⟨k.os.trans h.os, k.tape.trans h.tape, k.output.trans h.output, Nat.le_trans h.size k.size, fun i hi hn => (k.block i (Nat.lt_of_lt_of_le hi h.size) hn).trans (h.block i hi hn)⟩
theorem But.of_below {g : Nat} {w w' : World} (h : Below w.heap.size w w') : But g w w' := ⟨h.os, h.tape, h.output, h.size, fun k hk _ => h.block k hk⟩
theorem But.below {g B : Nat} {w w' : World} (h : But g w w') (hB : B ≤ g) (hg : g ≤ w.heap.size) : Below B w w' := ⟨h.os, h.tape, h.output, h.size, fun k hk => h.block k (by omega) (by omega)⟩
theorem But.alloc {g : Nat} {a w : World} (h : But g a w) (o : Obj) : But g a (w.alloc o) := h.trans (.of_below ((Below.refl _ _).alloc (Nat.le_refl _) o))
theorem But.drewN {g : Nat} {a w : World} (h : But g a w) (n : Nat) : But g a (w.drewN n) := ⟨h.os, h.tape, h.output, h.size, h.block⟩
theorem But.set {g : Nat} {a w : World} (h : But g a w) (o : Nat) (u : Value) : But g a (w.setCell ⟨g, o, none⟩ u) := by
  refine h.trans ⟨rfl, rfl, rfl, by simp [World.setCell], fun k hk hn => Below.heap_setCell _ _ _ _ hn⟩

/-- Block g holds Numbers: the list L (it lies below g), at place N. -/
def Nums (w : World) (g : Nat) (L : List Int) (N : Nat) : Prop := ∃ v W0, w.heap[g]? = some (.cells #[v, .int .i64 N] 62) ∧ RdE intC 1 W0 v L ∧ W0.heap.size ≤ g ∧ (∀ k, k < W0.heap.size → w.heap[k]? = W0.heap[k]?) ∧ (∀ x ∈ L, IntIn x)
theorem Nums.lt {w : World} {g : Nat} {L : List Int} {N : Nat} (h : Nums w g L N) : g < w.heap.size := by
  obtain ⟨v, W0, h, _⟩ := h
  exact (Array.getElem?_eq_some_iff.1 h).1
theorem Nums.keep {w w' : World} {g : Nat} {L : List Int} {N : Nat} (h : Nums w g L N) (hk : ∀ k, k < w.heap.size → w'.heap[k]? = w.heap[k]?) : Nums w' g L N := by
  have hlt := h.lt
  obtain ⟨v, W0, h1, h2, h3, h4, h5⟩ := h
  exact ⟨v, W0, (hk g hlt).trans h1, h2, h3, fun k hk' => (hk k (by omega)).trans (h4 k hk'), h5⟩
theorem Nums.below {w w' : World} {g : Nat} {L : List Int} {N B : Nat} (h : Nums w g L N) (hb : Below B w w') (hB : w.heap.size ≤ B) : Nums w' g L N := h.keep fun k hk => hb.block k (by omega)
theorem Nums.alloc {w : World} {g : Nat} {L : List Int} {N : Nat} (h : Nums w g L N) (o : Obj) : Nums (w.alloc o) g L N := h.keep fun _ hk => Below.heap_alloc _ _ _ hk

/-- A call that has drawn numbers. -/
def NumRet (g : Nat) (L : List Int) (N' : Nat) (v : Value) (w : World) (e : Ending) (w' : World) : Prop := e = .returned v ∧ But g w w' ∧ Nums w' g L N'

theorem frozen_rowM {w : World} {g : Nat} {cs : Array Value} {t : TypeId} (h : w.heap[g]? = some (.cells cs t)) (j : Nat) : w.frozen? ⟨g, j, none⟩ = false := by
  unfold World.frozen?
  rw [h]
  simp
theorem nums_next {w W0 : World} {g N : Nat} {L : List Int} {v : Value} (h1 : w.heap[g]? = some (.cells #[v, .int .i64 N] 62)) (h2 : RdE intC 1 W0 v L) (h3 : W0.heap.size ≤ g) (h4 : ∀ k, k < W0.heap.size → w.heap[k]? = W0.heap[k]?) (h5 : ∀ x ∈ L, IntIn x) (a : Nat) :
    Nums ((w.drewN a).setCell ⟨g, 1, none⟩ (.int .i64 ((N : Int) + 1))) g L (N + 1) := by
  refine ⟨v, W0, ?_, h2, h3, fun k hk => ?_, h5⟩
  · have hh : (w.drewN a).heap[g]? = w.heap[g]? := rfl
    show ((w.drewN a).heap.modify g _)[g]? = _
    rw [Array.getElem?_modify, if_pos rfl, hh, h1]
    rfl
  · rw [Below.heap_setCell _ _ _ _ (by show k ≠ g; omega)]
    exact h4 k hk

set_option maxHeartbeats 1000000 in
theorem next_any' (L : List Int) (g N : Nat) (n : Int) (w : World) (h : Nums w g L N) (hN : N ≤ 1000000000) (hn : 1 ≤ n) (hn2 : n ≤ 1000000) :
    Calls Tryd.prog 63 #[.pointer (some ⟨g, 0, none⟩), .int .i64 n] w (NumRet g L (N + 1) (.int .i64 (nextN L N n)) w) := by
  have hlt := h.lt
  obtain ⟨v, W0, h1, h2, h3, h4, h5⟩ := h
  have hrd : RdE intC 1 w v L := h2.keep (by omega) h4
  obtain ⟨A, c, rfl, _, _⟩ := hrd.shape
  have q1 : w.cell? ⟨g, 0, none⟩ = some (.slice A L.length c) := by rw [cell_of_row _ _ 0 _ _ _ h1]; rfl
  have q2 : w.cell? ⟨g, 1, none⟩ = some (.int .i64 N) := by rw [cell_of_row _ _ 1 _ _ _ h1]; rfl
  by_cases hNL : N < L.length
  · obtain ⟨b, o, rfl, hbl, hx⟩ := RdE.cells hrd (by omega)
    have q3 := hx N _ 0 _ (List.getElem?_eq_getElem hNL) rfl
    simp only [Nat.mul_one, Nat.add_zero] at q3
    have hin := h5 _ (List.getElem_mem hNL)
    have hv : Hid (nextN L N n = L[N] % n) := by
      show nextN L N n = L[N] % n
      unfold nextN
      rw [List.getD_eq_getElem?_getD, List.getElem?_eq_getElem hNL]
      rfl
    generalize L[N] = x at q3 hin hv
    have q4 : w.frozen? ⟨g, 1, none⟩ = false := frozen_rowM h1 1
    have HN := nums_next h1 h2 h3 h4 h5
    go_enter Tryd.func63, Tryd.ntmps63
    go_wp2_with fail
    go_quiet (fail)
    go_wp2_with fail
    go_quiet (fail)
    go_wp2_with (go_at_call 14; refine (place_any x n _ hin hn hn2).mono ?_; rintro e w' ⟨rfl, rfl⟩)
    go_ret
    refine ⟨ret_int hv.out.symm, ?_, ?_⟩
    · exact But.set (But.drewN (But.refl g w) _) 1 _
    · exact HN _
  · have hv : Hid (nextN L N n = 0 % n) := by
      show nextN L N n = 0 % n
      unfold nextN
      rw [List.getD_eq_getElem?_getD, List.getElem?_eq_none (by omega)]
      rfl
    have q4 : w.frozen? ⟨g, 1, none⟩ = false := frozen_rowM h1 1
    have HN := nums_next h1 h2 h3 h4 h5
    go_enter Tryd.func63, Tryd.ntmps63
    go_wp2_with fail
    go_quiet (fail)
    go_wp2_with (go_at_call 14; refine (place_any 0 n _ ⟨by omega, by omega⟩ hn hn2).mono ?_; rintro e w' ⟨rfl, rfl⟩)
    go_ret
    refine ⟨ret_int hv.out.symm, ?_, ?_⟩
    · exact But.set (But.drewN (But.refl g w) _) 1 _
    · exact HN _

theorem cells_strs (w : World) (g : Nat) (hg : w.heap.size = g) (xs : List ByteArray) (t : TypeId) (k : Nat) (h : k < xs.length) : (w.alloc (.cells (xs.map Value.string).toArray t)).cell? ⟨g, k, none⟩ = some (.string (xs.getD k ⟨#[]⟩)) := by
  subst hg
  have := cells_new w (xs.map Value.string) t k (.string (xs.getD k ⟨#[]⟩)) (by rw [List.getElem?_map, List.getElem?_eq_getElem h, List.getD_eq_getElem?_getD, List.getElem?_eq_getElem h]; rfl)
  rwa [Addr.add_lit, Nat.zero_add] at this

theorem word_any' (L : List Int) (g N : Nat) (w : World) (h : Nums w g L N) (hN : N ≤ 1000000000) :
    Calls Tryd.prog 95 #[.pointer (some ⟨g, 0, none⟩)] w (NumRet g L (N + 1) (.string (mkWord L N)) w) := by
  have H := Lib.hid (h.alloc (.cells (words.map Value.string).toArray 9))
  have hn := nextN_bd L N 24 (by omega)
  have HC := cells_strs w _ rfl words 9 (nextN L N 24).toNat (by show _ < 24; omega)
  have HW : Hid (words.getD (nextN L N 24).toNat ⟨#[]⟩ = mkWord L N) := by show words.getD (nextN L N 24).toNat ⟨#[]⟩ = mkWord L N; rfl
  have HB := Lib.hid (But.alloc (But.refl g w) (.cells (words.map Value.string).toArray 9))
  have HX := fun (X : World) (hb : But g (w.alloc (.cells (words.map Value.string).toArray 9)) X) => (World.cell?_of_block (a := ⟨w.heap.size, (nextN L N 24).toNat, none⟩) (hb.block w.heap.size (by simp) (by have := h.lt; omega))).trans HC
  have HXX := Lib.hid HX
  clear h HX HC
  go_enter Tryd.func95, Tryd.ntmps95
  go_wp2_with fail
  refine (next_any' L g N 24 _ (by exact H.out) hN (by decide) (by decide)).mono ?_
  rintro e w1 ⟨rfl, hb1, hn1⟩
  have q := HXX.out w1 (by exact hb1)
  have hb2 : But g w w1 := HB.out.trans (by exact hb1)
  rw [HW.out] at q
  generalize nextN L N 24 = z at hn q
  have hz : ((z.toNat : Nat) : Int) = z := by omega
  go_wp2_with fail
  go_ret
  exact ⟨rfl, hb2, hn1⟩

end Go.Proofs.YtpboaadjbkaidaaDoor

namespace Go.Proofs.YtpboaadjbkaidaaDoor
set_option maxRecDepth 100000
open Go.RowKit

/-- The byte that a number stands for. -/
def ch8 (z : Int) : Nat := ((⟨#[97, 98, 32, 46, 33, 65, 49, 60]⟩ : ByteArray).data.toList.getD z.toNat 0).toNat
def bitsM (L : List Int) : Nat → Nat → (Nat → Bool) → (Nat → Bool) × Nat
  | 0, N, y => (y, N)
  | k + 1, N, y => bitsM L k (N + 1) (addP y (ch8 (nextN L N 8)))
theorem bitsM_pos (L : List Int) : ∀ k N y, (bitsM L k N y).2 = N + k
  | 0, _, _ => rfl
  | k + 1, N, y => by rw [bitsM, bitsM_pos L k]; omega
def atomsGo (L : List Int) : Nat → Nat → List At → List At × Nat
  | 0, N, p => (p, N)
  | i + 1, N, p => atomsGo L i (bitsM L ((nextN L (N + 2) 4).toNat + 1) (N + 3) noP).2 (p ++ [⟨(bitsM L ((nextN L (N + 2) 4).toNat + 1) (N + 3) noP).1, nextN L N 2, nextN L (N + 1) 2 == 1⟩])
theorem atomsGo_bd (L : List Int) : ∀ i N p, (atomsGo L i N p).1.length = p.length + i ∧ (atomsGo L i N p).2 ≤ N + 10 * i ∧ ((∀ x ∈ p, x.mn = 0 ∨ x.mn = 1) → ∀ x ∈ (atomsGo L i N p).1, x.mn = 0 ∨ x.mn = 1)
  | 0, N, p => ⟨rfl, Nat.le_refl _, fun h => h⟩
  | i + 1, N, p => by
    have h4 := nextN_bd L (N + 2) 4 (by decide)
    have h2 := nextN_bd L N 2 (by decide)
    have hb := bitsM_pos L ((nextN L (N + 2) 4).toNat + 1) (N + 3) noP
    rw [atomsGo]
    have h := atomsGo_bd L i (bitsM L ((nextN L (N + 2) 4).toNat + 1) (N + 3) noP).2 (p ++ [⟨(bitsM L ((nextN L (N + 2) 4).toNat + 1) (N + 3) noP).1, nextN L N 2, nextN L (N + 1) 2 == 1⟩])
    refine ⟨by rw [h.1]; simp; omega, by omega, fun hp => h.2.2 fun x hx => ?_⟩
    rcases List.mem_append.1 hx with hx | hx
    · exact hp x hx
    · have hx' := List.mem_singleton.1 hx
      rw [hx']
      show nextN L N 2 = 0 ∨ nextN L N 2 = 1
      omega
def atomsM (L : List Int) (N : Nat) (n : Int) : List At × Nat := atomsGo L (nextN L N (n + 1)).toNat (N + 1) []
theorem atomsM_bd (L : List Int) (N : Nat) (n : Int) (hn : 0 ≤ n) : (atomsM L N n).1.length ≤ n.toNat ∧ (atomsM L N n).2 ≤ N + 1 + 10 * n.toNat ∧ ∀ x ∈ (atomsM L N n).1, x.mn = 0 ∨ x.mn = 1 := by
  have hb := nextN_bd L N (n + 1) (by omega)
  have h := atomsGo_bd L (nextN L N (n + 1)).toNat (N + 1) []
  unfold atomsM
  refine ⟨by rw [h.1]; simp; omega, by omega, h.2.2 (fun x hx => by simp at hx)⟩
/-- One rule, drawn at N. -/
def ruleM (L : List Int) (N : Nat) : Ru := ⟨decide (0 < nextN L N 3), (atomsM L (N + 1) 2).1, (atomsM L (atomsM L (N + 1) 2).2 2).1⟩
def ruleN (L : List Int) (N : Nat) : Nat := (atomsM L (atomsM L (N + 1) 2).2 2).2
def rulesGo (L : List Int) : Nat → Nat → List Ru → List Ru × Nat
  | 0, N, rs => (rs, N)
  | i + 1, N, rs => rulesGo L i (ruleN L N) (rs ++ [ruleM L N])
theorem ruleN_bd (L : List Int) (N : Nat) : ruleN L N ≤ N + 43 := by
  have h1 := (atomsM_bd L (N + 1) 2 (by decide)).2.1
  have h2 := (atomsM_bd L (atomsM L (N + 1) 2).2 2 (by decide)).2.1
  unfold ruleN
  have e : (2 : Int).toNat = 2 := rfl
  rw [e] at h1 h2
  omega
/-- What a drawn rule keeps to. -/
def RuOk (r : Ru) : Prop := r.bf.length ≤ 2 ∧ r.af.length ≤ 2 ∧ (∀ x ∈ r.bf, x.mn = 0 ∨ x.mn = 1) ∧ ∀ x ∈ r.af, x.mn = 0 ∨ x.mn = 1
theorem ruleM_ok (L : List Int) (N : Nat) : RuOk (ruleM L N) := by
  have h1 := atomsM_bd L (N + 1) 2 (by decide)
  have h2 := atomsM_bd L (atomsM L (N + 1) 2).2 2 (by decide)
  exact ⟨h1.1, h2.1, h1.2.2, h2.2.2⟩
theorem rulesGo_bd (L : List Int) : ∀ i N rs, (rulesGo L i N rs).1.length = rs.length + i ∧ (rulesGo L i N rs).2 ≤ N + 43 * i ∧ ((∀ r ∈ rs, RuOk r) → ∀ r ∈ (rulesGo L i N rs).1, RuOk r)
  | 0, N, rs => ⟨rfl, Nat.le_refl _, fun h => h⟩
  | i + 1, N, rs => by
    have hb := ruleN_bd L N
    rw [rulesGo]
    have h := rulesGo_bd L i (ruleN L N) (rs ++ [ruleM L N])
    refine ⟨by rw [h.1]; simp; omega, by omega, fun hp => h.2.2 fun r hr => ?_⟩
    rcases List.mem_append.1 hr with hr | hr
    · exact hp r hr
    · rw [List.mem_singleton.1 hr]
      exact ruleM_ok L N
def rulesM (L : List Int) (N : Nat) (n : Int) : List Ru × Nat := rulesGo L (nextN L N (n + 1)).toNat (N + 1) []
theorem rulesM_bd (L : List Int) (N : Nat) (n : Int) (hn : 0 ≤ n) : (rulesM L N n).1.length ≤ n.toNat ∧ (rulesM L N n).2 ≤ N + 1 + 43 * n.toNat ∧ ∀ r ∈ (rulesM L N n).1, RuOk r := by
  have hb := nextN_bd L N (n + 1) (by omega)
  have h := rulesGo_bd L (nextN L N (n + 1)).toNat (N + 1) []
  unfold rulesM
  refine ⟨by rw [h.1]; simp; omega, by omega, h.2.2 (fun x hx => by simp at hx)⟩

end Go.Proofs.YtpboaadjbkaidaaDoor

namespace Go.Proofs.YtpboaadjbkaidaaDoor
set_option maxRecDepth 100000
open Go.RowKit

/-- A call that makes atoms out of numbers. -/
def AtomsRetM (L : List Int) (g : Nat) (r : List At × Nat) (w : World) (e : Ending) (w' : World) : Prop :=
  ∃ v, e = .returned v ∧ OwnE 26 atC 34 w' w.heap.size v r.1 ∧ But g w w' ∧ Nums w' g L r.2
def atE (m : Int) (b : Bool) : Array Value := #[.int .u8 0, .int .u8 0, .int .u8 0, .int .u8 0, .int .u8 0, .int .u8 0, .int .u8 0, .int .u8 0, .int .u8 0, .int .u8 0, .int .u8 0, .int .u8 0, .int .u8 0, .int .u8 0, .int .u8 0, .int .u8 0, .int .u8 0, .int .u8 0, .int .u8 0, .int .u8 0, .int .u8 0, .int .u8 0, .int .u8 0, .int .u8 0, .int .u8 0, .int .u8 0, .int .u8 0, .int .u8 0, .int .u8 0, .int .u8 0, .int .u8 0, .int .u8 0, .int .i64 m, .bool b]
theorem AtIn.lt {w : World} {g : Nat} {x : At} (h : AtIn w g x) : g < w.heap.size := (Array.getElem?_eq_some_iff.1 h).1
theorem But.bel {g : Nat} {a b c : World} (h : But g a b) (k : Below a.heap.size b c) (hs : a.heap.size ≤ b.heap.size) : But g a c :=
  ⟨k.os.trans h.os, k.tape.trans h.tape, k.output.trans h.output, Nat.le_trans hs k.size, fun i hi hn => (k.block i hi).trans (h.block i hi hn)⟩
theorem nums_keep {w w' : World} {g N B : Nat} {L : List Int} (h : Nums w g L N) (hb : Below B w w') (hg : g < B) : Nums w' g L N := by
  obtain ⟨v, W0, h1, h2, h3, h4, h5⟩ := h
  exact ⟨v, W0, (hb.block g hg).trans h1, h2, h3, fun k hk => (hb.block k (by omega)).trans (h4 k hk), h5⟩
theorem AtIn.setSet {w : World} {g : Nat} {p : Nat → Bool} {mn : Int} {many : Bool} (h : AtIn w g ⟨p, mn, many⟩) (q : Nat → Bool) (k : Nat) (hk : k < 32) (hq : ∀ i, i < 32 → i ≠ k → byteOf q i = byteOf p i) : AtIn (w.setCell ⟨g, k, none⟩ (.int .u8 (byteOf q k : Nat))) g ⟨q, mn, many⟩ := by
  unfold AtIn at *
  rw [heap_setCell_same w g k _ _ _ h]
  congr 2
  have h1 := setC_set p q k hk hq
  rw [List.setIfInBounds_toArray] at h1 ⊢
  have h2 : (setC p).set k (.int .u8 (byteOf q k : Nat)) = setC q := by simpa using h1
  unfold atC
  rw [List.set_append_left _ _ (by rw [setC_length]; exact hk), h2]
theorem atE_eq (m : Int) (b : Bool) : atE m b = (atC ⟨noP, m, b⟩).toArray := by kernel_rfl

set_option maxRecDepth 100000 in
set_option maxHeartbeats 4000000 in
theorem atomsM_any (L : List Int) (g N n : Nat) (w : World) (hnum : Nums w g L N) (hN : N ≤ 1000000) (hn : n ≤ 100) :
    Calls Tryd.prog 90 #[.pointer (some ⟨g, 0, none⟩), .int .i64 n] w (AtomsRetM L g (atomsM L N n) w) := by
  obtain ⟨R, HRR⟩ : ∃ R, Hid (R = AtomsRetM L g (atomsM L N n) w) := ⟨_, rfl⟩
  rw [← HRR.out]
  obtain ⟨TT, HTT⟩ : ∃ TT, Hid (atomsGo L (nextN L N ((n : Int) + 1)).toNat (N + 1) [] = TT) := ⟨_, rfl⟩
  have HTR : Hid (R = AtomsRetM L g TT w) := by
    show _ = _
    rw [HRR.out, ← HTT.out]
    rfl
  clear HRR
  have hg0 := hnum.lt
  have hz := nextN_bd L N (n + 1) (by omega)
  have HNU := Lib.hid hnum
  clear hnum
  go_enter Tryd.func90, Tryd.ntmps90
  go_upto_region 3 with (go_at_call 63; refine (next_any' L g N ((n : Int) + 1) _ (by exact HNU.out) (by omega) (by omega) (by omega)).mono ?_; rintro e w1 ⟨rfl, hb1, hn1⟩)
  generalize nextN L N ((n : Int) + 1) = z at hz hn1 HTT ⊢
  obtain ⟨z', rfl⟩ : ∃ z' : Nat, z = (z' : Int) := ⟨z.toNat, by omega⟩
  rw [Int.toNat_natCast] at HTT
  have HB1 := Lib.hid hb1
  have HN1 := Lib.hid hn1
  clear hb1 hn1 HNU
  go_loopg [5, 6] z' (fun m pv iv wr => ∃ (p : List At) (i M : Nat), iv = .int .i64 i ∧ Hid (OwnE 26 atC 34 wr w.heap.size pv p) ∧ Hid (But g w wr) ∧ Hid (Nums wr g L M) ∧ p.length + i ≤ n ∧ M + 10 * i ≤ N + 1 + 10 * n ∧ Hid (atomsGo L i M p = TT) ∧ i ≤ m)
  case atStart => exact ⟨[], z', N + 1, rfl, OwnE.nil, HB1.out, HN1.out, by simp; omega, by omega, HTT.out, Nat.le_refl _⟩
  case round =>
    clear HB1 HN1 HTT
    obtain ⟨p, i, M, rfl, HO, HB, HNU, hpi, hM, HV, hgk⟩ := hrel
    by_cases hi0 : 0 < i
    · have hi0i : (0 : Int) < (i : Int) := by omega
      obtain ⟨A, cA, hpv⟩ := own_shape HO.out
      subst hpv
      have hz1 := nextN_bd L M 2 (by decide)
      have hz2 := nextN_bd L (M + 1) 2 (by decide)
      have HC1 := Lib.hid (fun w h => next_any' L g M 2 w h (by omega) (by decide) (by decide))
      have HC2 := Lib.hid (fun w h => next_any' L g (M + 1) 2 w h (by omega) (by decide) (by decide))
      have HV2 : Hid (atomsGo L (i - 1) (bitsM L ((nextN L (M + 2) 4).toNat + 1) (M + 3) noP).2 (p ++ [⟨(bitsM L ((nextN L (M + 2) 4).toNat + 1) (M + 3) noP).1, nextN L M 2, nextN L (M + 1) 2 == 1⟩]) = TT) := by
        show _ = _
        rw [← HV.out]
        obtain ⟨i', rfl⟩ : ∃ i', i = i' + 1 := ⟨i - 1, by omega⟩
        rfl
      clear HV
      generalize nextN L M 2 = z1 at hz1 HC1 HV2
      generalize nextN L (M + 1) 2 = z2 at hz2 HC2 HV2
      go_upto_region 6 with (first
        | (go_at_call 63; refine (HC1.out _ HNU.out).mono ?_; rintro e w2 ⟨rfl, hb2, hn2⟩)
        | (go_at_call 63; refine (HC2.out _ hn2).mono ?_; rintro e w3 ⟨rfl, hb3, hn3⟩)
        | (refine wpList_store_row rfl 26 (.tmp 7) (.tmp 23) rfl (w3.heap.size) (atE z1 (z2 == 1)) rfl rfl 26 (atC ⟨noP, 0, false⟩).toArray (at_zero w3) (by rw [atom_size]; rfl) (by rw [atC_size]; rfl) (by rw [atE_eq]; exact atC_oneA _) ?_; rw [atE_eq]))
      have hg1 := HNU.out.lt
      have hsz2 := hb2.size
      have hsz3 := hb3.size
      have HA4 := Lib.hid ((at_zero w3).row ⟨noP, z1, (z2 == 1)⟩)
      have HB4 : Hid (But g w ((w3.alloc (.cells #[.int .u8 0, .int .u8 0, .int .u8 0, .int .u8 0, .int .u8 0, .int .u8 0, .int .u8 0, .int .u8 0, .int .u8 0, .int .u8 0, .int .u8 0, .int .u8 0, .int .u8 0, .int .u8 0, .int .u8 0, .int .u8 0, .int .u8 0, .int .u8 0, .int .u8 0, .int .u8 0, .int .u8 0, .int .u8 0, .int .u8 0, .int .u8 0, .int .u8 0, .int .u8 0, .int .u8 0, .int .u8 0, .int .u8 0, .int .u8 0, .int .u8 0, .int .u8 0, .int .i64 0, .bool false] 26)).setRow w3.heap.size (atC ⟨noP, z1, (z2 == 1)⟩).toArray)) := ((HB.out.trans hb2).trans hb3).trans (.of_below (below_setRow ((Below.refl _ w3).alloc (Nat.le_refl _) _) (Nat.le_refl _) _))
      have HN4 : Hid (Nums ((w3.alloc (.cells #[.int .u8 0, .int .u8 0, .int .u8 0, .int .u8 0, .int .u8 0, .int .u8 0, .int .u8 0, .int .u8 0, .int .u8 0, .int .u8 0, .int .u8 0, .int .u8 0, .int .u8 0, .int .u8 0, .int .u8 0, .int .u8 0, .int .u8 0, .int .u8 0, .int .u8 0, .int .u8 0, .int .u8 0, .int .u8 0, .int .u8 0, .int .u8 0, .int .u8 0, .int .u8 0, .int .u8 0, .int .u8 0, .int .u8 0, .int .u8 0, .int .u8 0, .int .u8 0, .int .i64 0, .bool false] 26)).setRow w3.heap.size (atC ⟨noP, z1, (z2 == 1)⟩).toArray) g L (M + 2)) := hn3.below (below_setRow ((Below.refl _ w3).alloc (Nat.le_refl _) _) (Nat.le_refl _) _) (Nat.le_refl _)
      have HO4 : Hid (OwnE 26 atC 34 ((w3.alloc (.cells #[.int .u8 0, .int .u8 0, .int .u8 0, .int .u8 0, .int .u8 0, .int .u8 0, .int .u8 0, .int .u8 0, .int .u8 0, .int .u8 0, .int .u8 0, .int .u8 0, .int .u8 0, .int .u8 0, .int .u8 0, .int .u8 0, .int .u8 0, .int .u8 0, .int .u8 0, .int .u8 0, .int .u8 0, .int .u8 0, .int .u8 0, .int .u8 0, .int .u8 0, .int .u8 0, .int .u8 0, .int .u8 0, .int .u8 0, .int .u8 0, .int .u8 0, .int .u8 0, .int .i64 0, .bool false] 26)).setRow w3.heap.size (atC ⟨noP, z1, (z2 == 1)⟩).toArray) w.heap.size (.slice A p.length cA) p) := own_same HO.out fun k hk => by
        have h1 := HO.out.lt k hk
        rw [setRow_other _ _ _ _ (by omega), Below.heap_alloc _ _ _ (by omega), hb3.block k (by omega) (by omega), hb2.block k (by omega) (by omega)]
      have HOG : Hid (∀ k, (Value.slice A p.length cA).ownBlock = some k → k ≠ w3.heap.size) := fun k hk => by
        have h1 := HO.out.lt k hk
        omega
      have hgg : g < w3.heap.size := by omega
      have hww : w.heap.size ≤ w3.heap.size := by have := HB.out.size; omega
      clear HO HB HNU hb2 hb3 hn2 hn3 hsz2 hsz3 hg1 HC1 HC2
      generalize hq : w3.heap.size = q at HA4 HB4 HN4 HO4 HOG hgg hww ⊢
      generalize (w3.alloc (.cells #[.int .u8 0, .int .u8 0, .int .u8 0, .int .u8 0, .int .u8 0, .int .u8 0, .int .u8 0, .int .u8 0, .int .u8 0, .int .u8 0, .int .u8 0, .int .u8 0, .int .u8 0, .int .u8 0, .int .u8 0, .int .u8 0, .int .u8 0, .int .u8 0, .int .u8 0, .int .u8 0, .int .u8 0, .int .u8 0, .int .u8 0, .int .u8 0, .int .u8 0, .int .u8 0, .int .u8 0, .int .u8 0, .int .u8 0, .int .u8 0, .int .u8 0, .int .u8 0, .int .i64 0, .bool false] 26)).setRow q (atC ⟨noP, z1, (z2 == 1)⟩).toArray = w4 at HA4 HB4 HN4 HO4 ⊢
      clear hq
      have hmn : z1 = 0 ∨ z1 = 1 := by omega
      clear hz1 hz2
      generalize (z2 == 1) = b2 at HA4 HV2 ⊢
      have hz4 := nextN_bd L (M + 2) 4 (by decide)
      have HC4 := Lib.hid (fun w h => next_any' L g (M + 2) 4 w h (by omega) (by decide) (by decide))
      generalize nextN L (M + 2) 4 = z4 at hz4 HC4 HV2
      go_upto_region 7 with (go_at_call 63; refine (HC4.out _ HN4.out).mono ?_; rintro e w5 ⟨rfl, hb5, hn5⟩)
      have HA5 := Lib.hid (HA4.out.keep (hb5.block _ HA4.out.lt (by omega)))
      have HB5 := Lib.hid (HB4.out.trans hb5)
      have HN5 := Lib.hid hn5
      have HO5 : Hid (OwnE 26 atC 34 w5 w.heap.size (.slice A p.length cA) p) := own_same HO4.out fun k hk => by
        have h1 := HO4.out.lt k hk
        exact hb5.block k h1.2 (by omega)
      clear HA4 HB4 HN4 HO4 hb5 hn5 HC4
      obtain ⟨z4', rfl⟩ : ∃ z4' : Nat, z4 = (z4' : Int) := ⟨z4.toNat, by omega⟩
      rw [Int.toNat_natCast] at HV2
      obtain ⟨T2, HT2⟩ : ∃ T2, Hid (bitsM L (z4' + 1) (M + 3) noP = T2) := ⟨_, rfl⟩
      rw [HT2.out] at HV2
      obtain ⟨wo, rfl⟩ : ∃ wo : World, wo = w5 := ⟨_, rfl⟩
      go_loopg [8] (z4' + 1) (fun n kv wr => ∃ (k : Nat) (y : Nat → Bool) (M2 : Nat), kv = .int .i64 ((k : Int) - 1) ∧ k ≤ 4 ∧ Hid (AtIn wr q ⟨y, z1, b2⟩) ∧ Hid (But g w wr) ∧ Hid (Nums wr g L M2) ∧ M2 + k ≤ M + 7 ∧ Hid (OwnE 26 atC 34 wr w.heap.size (.slice A p.length cA) p) ∧ Hid (bitsM L k M2 y = T2) ∧ k ≤ n)
      case atStart => exact ⟨z4' + 1, noP, M + 3, by (show Value.int .i64 _ = Value.int .i64 _); congr 1; omega, by omega, HA5.out, HB5.out, HN5.out, by omega, HO5.out, HT2.out, Nat.le_refl _⟩
      case round =>
        clear HA5 HB5 HN5 HO5 HT2
        obtain ⟨k, y, M2, rfl, hk4, HA, HB, HNU, hM2, HO, HT2, hgk2⟩ := hrel
        cases k with
        | zero =>
          rw [show ((0 : Nat) : Int) - 1 = -1 from rfl]
          have hsz := HB.out.size
          go_wp2_with (first
            | (refine wpList_load_row rfl 26 (.tmp 7) rfl (q) rfl 26 (atC ⟨y, z1, b2⟩).toArray (0, 0) _ HA.out Tryd.underlying26 rfl (by rw [atom_size, atC_size]) ?_)
            | (refine wpList_buildOne rfl (.tmp 45) (by rfl) ⟨y, z1, b2⟩ (by rfl) ?_)
            | (refine wpList_app1 rfl (.tmp 44) (.tmp 46) 28 26 rfl Tryd.underlying28 _ 34 48 atom_info rfl (by decide) w.heap.size (.slice A p.length cA) p.length (p.flatMap atC) rfl (own_below HO.out ((Below.refl _ wr).alloc (Nat.le_refl _) _) (Nat.le_refl _)) ⟨wr.heap.size, 0, none⟩ 1 (atC ⟨y, z1, b2⟩) rfl (atC_len _) (cells_new wr (atC ⟨y, z1, b2⟩) 26) (atC_one _) (by omega) (by decide) (by simp; omega) ?_; intro g2 cap w9 hown9 hbg9 hbel9 hgrow9))
          have hbn := hbel9 w.heap.size (wr.alloc (.cells (atC ⟨y, z1, b2⟩).toArray 26)) (Nat.le_refl _) (Below.refl _ _)
          have hbn2 := ((Below.refl w.heap.size wr).alloc hsz (.cells (atC ⟨y, z1, b2⟩).toArray 26)).trans hbn
          have HB9 : Hid (But g w w9) := HB.out.bel hbn2 hsz
          have HN9 : Hid (Nums w9 g L M2) := nums_keep HNU.out hbn2 hg0
          have HO9 : Hid (OwnE 26 atC 34 w9 w.heap.size (.slice (some ⟨g2, 0, none⟩) (p.length + 1) cap) (p ++ [(At.mk y z1 b2)])) := OwnE.snoc hown9
          have HV9 : Hid (atomsGo L (i - 1) M2 (p ++ [(At.mk y z1 b2)]) = TT) := by
            show _ = _
            have e : T2 = (y, M2) := HT2.out.symm
            have h := HV2.out
            rw [e] at h
            exact h
          clear hown9 hbel9 hgrow9 hbn hbn2 HA HB HNU HO HV2 HT2
          go_wp2_with fail
          go_roundg (i - 1)
          case measure => omega
          case rel => exact ⟨p ++ [(At.mk y z1 b2)], i - 1, M2, by (show Value.int .i64 _ = Value.int .i64 _); congr 1; omega, HO9.out, HB9.out, HN9.out, by simp; omega, by omega, HV9.out, by omega⟩
        | succ k =>
          rw [show ((k + 1 : Nat) : Int) - 1 = (k : Int) by omega]
          have hki : (0 : Int) ≤ (k : Int) := by omega
          have hz8 := nextN_bd L M2 8 (by decide)
          have HC8 := Lib.hid (fun w h => next_any' L g M2 8 w h (by omega) (by decide) (by decide))
          have HT3 : Hid (bitsM L k (M2 + 1) (addP y (ch8 (nextN L M2 8))) = T2) := HT2.out
          clear HT2
          generalize nextN L M2 8 = z8 at hz8 HC8 HT3
          have hz8s : z8 < ((⟨#[97, 98, 32, 46, 33, 65, 49, 60]⟩ : ByteArray).size : Int) := hz8.2
          have hz80 := hz8.1
          obtain ⟨cb, HCE, HCB⟩ : ∃ cb : Nat, Hid (ch8 z8 = cb) ∧ Hid (∀ h, ((⟨#[97, 98, 32, 46, 33, 65, 49, 60]⟩ : ByteArray)[z8.toNat]'h).toNat = cb) := ⟨ch8 z8, rfl, fun h => by
            unfold ch8
            rw [List.getD_eq_getElem?_getD, List.getElem?_eq_getElem h]
            rfl⟩
          rw [HCE.out] at HT3
          clear HCE
          have hlt8 : z8.toNat < (⟨#[97, 98, 32, 46, 33, 65, 49, 60]⟩ : ByteArray).size := by show z8.toNat < 8; omega
          have hcb : cb < 256 := by rw [← HCB.out hlt8]; exact UInt8.toNat_lt _
          go_upto_region 10 with (go_at_call 63; refine (HC8.out _ HNU.out).mono ?_; rintro e w6 ⟨rfl, hb6, hn6⟩)
          have HA6 := Lib.hid (HA.out.keep (hb6.block _ HA.out.lt (by omega)))
          have HB6 := Lib.hid (HB.out.trans hb6)
          have HN6 := Lib.hid hn6
          have HO6 : Hid (OwnE 26 atC 34 w6 w.heap.size (.slice A p.length cA) p) := own_same HO.out fun k hk => by
            have h1 := HO.out.lt k hk
            exact hb6.block k h1.2 (by omega)
          clear HA HB HNU HO hb6 hn6 HC8
          rw [HCB.out]
          clear HCB hlt8 hz8s hz80 hz8
          have q1 : w6.cell? ⟨q, cb / 8, none⟩ = some (.int .u8 (byteOf y (cb / 8) : Nat)) := by
            rw [cell_of_row _ _ _ _ _ _ HA6.out]
            simpa using atC_set ⟨y, z1, b2⟩ (cb / 8) (by omega)
          have qf := HA6.out.free (cb / 8)
          have ha := add_byte y cb
          rw [← pow_small (cb % 8) (Nat.mod_lt _ (by decide))] at ha
          have HAB := Lib.hid ha
          clear ha
          have HA7 := Lib.hid (HA6.out.setSet (addP y cb) (cb / 8) (by omega) fun i _ hi => add_other y cb i hi)
          have hv := byteOf_lt y (cb / 8)
          generalize byteOf y (cb / 8) = v at q1 HAB hv
          have HB7 : Hid (But g w (w6.setCell ⟨q, cb / 8, none⟩ (.int .u8 (byteOf (addP y cb) (cb / 8) : Nat)))) := HB6.out.bel ((Below.refl w.heap.size w6).setCell (p := ⟨q, cb / 8, none⟩) hww _) HB6.out.size
          have HN7 : Hid (Nums (w6.setCell ⟨q, cb / 8, none⟩ (.int .u8 (byteOf (addP y cb) (cb / 8) : Nat))) g L (M2 + 1)) := nums_keep (B := q) HN6.out ((Below.refl q w6).setCell (p := ⟨q, cb / 8, none⟩) (Nat.le_refl _) _) hgg
          have HO7 : Hid (OwnE 26 atC 34 (w6.setCell ⟨q, cb / 8, none⟩ (.int .u8 (byteOf (addP y cb) (cb / 8) : Nat))) w.heap.size (.slice A p.length cA) p) := own_setAt HO6.out HOG.out _ _
          clear HA6 HB6 HN6 HO6
          go_wp2_with fail

          rw [HAB.out]
          go_roundg k
          case measure => omega
          case rel => exact ⟨k, addP y cb, M2 + 1, rfl, by omega, HA7.out, HB7.out, HN7.out, by omega, HO7.out, HT3.out, Nat.le_refl _⟩
    · obtain rfl : i = 0 := by omega
      go_wp2_with fail
      have e : TT = (p, M) := HV.out.symm
      rw [HTR.out, e]
      exact ⟨_, rfl, HO.out, HB.out, HNU.out⟩

end Go.Proofs.YtpboaadjbkaidaaDoor

namespace Go.Proofs.YtpboaadjbkaidaaDoor
set_option maxRecDepth 100000
open Go.RowKit

/-- Rules under way; ys: the row's cells; X: other blocks that may change. -/
structure RS (eR : TypeId) (X : List Nat) (B : Nat) (w : World) (v : Value) (rs : List Ru) (ys : List RuV) : Prop where
  own : OwnE eR ruC 3 w B v ys
  len : ys.length = rs.length
  each : ∀ (j : Nat) (y : RuV) (r : Ru), ys[j]? = some y → rs[j]? = some r → y.b = r.br ∧ Keep (X ++ blkL v) w fun u => RdE atC 34 u y.u.v r.bf ∧ RdE atC 34 u y.t.v r.af
  below : ∀ b ∈ X, b < B
section
variable {eR : TypeId} {X : List Nat} {B : Nat} {w w' : World} {v v' : Value} {rs : List Ru} {ys : List RuV}
theorem RS.start (hX : ∀ b ∈ X, b < B) : RS eR X B w (.slice none 0 0) [] [] where
  own := OwnE.nil
  len := rfl
  each := fun _ _ _ h => by simp at h
  below := hX
theorem RS.rd (h : RS eR X B w v rs ys) : RdRu w v rs :=
  ⟨ys, h.own.rd ruC_len, h.len, fun i y r hy hr => ⟨(h.each i y r hy hr).1, (h.each i y r hy hr).2.now.1, (h.each i y r hy hr).2.now.2⟩⟩
/-- The world turns, but for the row's block and X. -/
theorem RS.keep (h : RS eR X B w v rs ys) (hs : w.heap.size ≤ w'.heap.size) (hk : ∀ b, b < w.heap.size → b ∉ X → w'.heap[b]? = w.heap[b]?) : RS eR X B w' v rs ys where
  own := own_same h.own fun k hk2 => hk k (h.own.lt k hk2).2 (fun hX => by have := h.below k hX; have := (h.own.lt k hk2).1; omega)
  len := h.len
  each := fun i y r hy hr => ⟨(h.each i y r hy hr).1, (h.each i y r hy hr).2.step hs fun b hb hX => ⟨hk b hb (fun e => hX (List.mem_append_left _ e)), hX⟩⟩
  below := h.below
/-- A rule more. -/
theorem RS.push (h : RS eR X B w v rs ys) (hB : B ≤ w.heap.size) (r : Ru) (y : RuV) (hy : y.b = r.br) (hk : Keep (X ++ blkL v) w fun u => RdE atC 34 u y.u.v r.bf ∧ RdE atC 34 u y.t.v r.af)
    (hown : OwnE eR ruC 3 w' B v' (ys ++ [y])) (hg : w.grownBy w' v.ownBlock) (hat : v'.ownBlock = v.ownBlock ∨ v'.ownBlock = some w.heap.size) : RS eR X B w' v' (rs ++ [r]) (ys ++ [y]) := by
  have hnew : ∀ b, b < w.heap.size → b ∉ X ++ blkL v → w'.heap[b]? = w.heap[b]? ∧ b ∉ X ++ blkL v' := fun b hb hX => by
    have h2 : v.ownBlock ≠ some b := fun e => hX (List.mem_append_right _ (mem_blkL.2 e))
    refine ⟨hg.block b hb (fun e => h2 e.symm), fun hm => ?_⟩
    rcases List.mem_append.1 hm with hm | hm
    · exact hX (List.mem_append_left _ hm)
    · have h3 := mem_blkL.1 hm
      rcases hat with e | e
      · exact h2 (e ▸ h3)
      · rw [e] at h3; injection h3 with h3; omega
  refine ⟨hown, by simp [h.len], fun j q p hq hp => ?_, h.below⟩
  by_cases hj : j < ys.length
  · rw [List.getElem?_append_left hj] at hq
    rw [List.getElem?_append_left (by rw [← h.len]; exact hj)] at hp
    exact ⟨(h.each j q p hq hp).1, (h.each j q p hq hp).2.step hg.size hnew⟩
  · have hj2 : j < ys.length + 1 := by have := (List.getElem?_eq_some_iff.1 hq).1; simpa using this
    obtain rfl : j = ys.length := by omega
    rw [List.getElem?_append_right (Nat.le_refl _), Nat.sub_self] at hq
    rw [List.getElem?_append_right (by rw [h.len]; exact Nat.le_refl _), h.len, Nat.sub_self] at hp
    obtain rfl : y = q := by simpa using hq
    obtain rfl : r = p := by simpa using hp
    exact ⟨hy, hk.step hg.size hnew⟩
end

end Go.Proofs.YtpboaadjbkaidaaDoor

namespace Go.Proofs
set_option maxRecDepth 100000
open Go.Shelf
def Tryd.lays145_ren : Go.Shelf.Ren := ⟨fun | 145 => 52 | 220 => 85 | 219 => 100 | 217 => 106 | 225 => 107 | 224 => 108 | 267 => 109 | 266 => 115 | 314 => 116 | n => n, fun | 9 => 9 | 4 => 4 | 59 => 89 | 3 => 3 | 5 => 5 | 46 => 71 | 146 => 130 | 51 => 129 | n => n, fun | 1 => 0 | n => n⟩
theorem Tryd.lays145 : Go.Proofs.Lays.n145 Tryd.prog Tryd.lays145_ren := {
  mixed := by kernel_rfl
  f145 := Tryd.func52.trans (congrArg some (by kernel_rfl))
  f217 := Tryd.func106.trans (congrArg some (by kernel_rfl))
  f219 := Tryd.func100.trans (congrArg some (by kernel_rfl))
  f220 := Tryd.func85.trans (congrArg some (by kernel_rfl))
  f224 := Tryd.func108.trans (congrArg some (by kernel_rfl))
  f225 := Tryd.func107.trans (congrArg some (by kernel_rfl))
  f266 := Tryd.func115.trans (congrArg some (by kernel_rfl))
  f267 := Tryd.func109.trans (congrArg some (by kernel_rfl))
  f314 := Tryd.func116.trans (congrArg some (by kernel_rfl))
  t3 := Tryd.underlying3
  a3 := Tryd.isAgg3
  z3 := Tryd.sizeOf3
  v3 := Tryd.zeroValue3
  t4 := Tryd.underlying4
  a4 := Tryd.isAgg4
  z4 := Tryd.sizeOf4
  v4 := Tryd.zeroValue4
  t5 := Tryd.underlying5
  a5 := Tryd.isAgg5
  z5 := Tryd.sizeOf5
  v5 := Tryd.zeroValue5
  t9 := Tryd.underlying9
  a9 := Tryd.isAgg9
  z9 := Tryd.sizeOf9
  v9 := Tryd.zeroValue9
  t46 := Tryd.underlying71
  a46 := Tryd.isAgg71
  z46 := Tryd.sizeOf71
  v46 := Tryd.zeroValue71
  t51 := Tryd.underlying129
  a51 := Tryd.isAgg129
  z51 := Tryd.sizeOf129
  v51 := Tryd.zeroValue129
  t59 := Tryd.underlying89
  a59 := Tryd.isAgg89
  z59 := Tryd.sizeOf89
  v59 := Tryd.zeroValue89
  t146 := Tryd.underlying130
  a146 := Tryd.isAgg130
  z146 := Tryd.sizeOf130
  v146 := Tryd.zeroValue130
  g1 := by kernel_rfl }
open Go.RowKit Go.Lib in
/-- strings.Cut: "Cut slices s around the first instance of sep, returning the text before and after sep. The found result reports whether sep appears in s. If sep does not appear in s, cut returns s, "", false.": IT RETURNS 'Lib.cut s sep'; the world is as it was but for the count of draws. (LAID: no walk: one application.) -/
theorem Tryd.strings_Cut (s sep : ByteArray) (m : Int) (w : World) (hs : s.size < 4294967281) (hm : w.cell? ⟨0, 0, none⟩ = some (.int .i64 m)) :
    Calls Tryd.prog 52 #[.string s, .string sep] w fun e w' => e = .returned (.tuple #[.string ⟨(Lib.cut s.data.toList sep.data.toList).1.toArray⟩, .string ⟨(Lib.cut s.data.toList sep.data.toList).2.1.toArray⟩, .bool (Lib.cut s.data.toList sep.data.toList).2.2]) ∧ ∃ n, w' = w.drewN n := Any.strings_Cut Tryd.lays145 s sep m w hs hm
def Tryd.lays146_ren : Go.Shelf.Ren := ⟨fun | 146 => 86 | 221 => 101 | 268 => 110 | 138 => 111 | 143 => 112 | 195 => 117 | 197 => 118 | 218 => 119 | 219 => 100 | 260 => 126 | 217 => 106 | 225 => 107 | 224 => 108 | 267 => 109 | 266 => 115 | 314 => 116 | n => n, fun | 9 => 9 | 31 => 68 | 3 => 3 | 4 => 4 | 0 => 0 | 105 => 133 | 21 => 21 | 5 => 5 | 46 => 71 | 119 => 153 | 139 => 156 | 138 => 155 | 146 => 130 | 51 => 129 | n => n, fun | 1 => 0 | 3 => 1 | 4 => 2 | n => n⟩
theorem Tryd.lays146 : Go.Proofs.Lays.n146 Tryd.prog Tryd.lays146_ren := {
  mixed := by kernel_rfl
  f138 := Tryd.func111.trans (congrArg some (by kernel_rfl))
  f143 := Tryd.func112.trans (congrArg some (by kernel_rfl))
  f146 := Tryd.func86.trans (congrArg some (by kernel_rfl))
  f195 := Tryd.func117.trans (congrArg some (by kernel_rfl))
  f197 := Tryd.func118.trans (congrArg some (by kernel_rfl))
  f217 := Tryd.func106.trans (congrArg some (by kernel_rfl))
  f218 := Tryd.func119.trans (congrArg some (by kernel_rfl))
  f219 := Tryd.func100.trans (congrArg some (by kernel_rfl))
  f221 := Tryd.func101.trans (congrArg some (by kernel_rfl))
  f224 := Tryd.func108.trans (congrArg some (by kernel_rfl))
  f225 := Tryd.func107.trans (congrArg some (by kernel_rfl))
  f260 := Tryd.func126.trans (congrArg some (by kernel_rfl))
  f266 := Tryd.func115.trans (congrArg some (by kernel_rfl))
  f267 := Tryd.func109.trans (congrArg some (by kernel_rfl))
  f268 := Tryd.func110.trans (congrArg some (by kernel_rfl))
  f314 := Tryd.func116.trans (congrArg some (by kernel_rfl))
  t0 := Tryd.underlying0
  a0 := Tryd.isAgg0
  z0 := Tryd.sizeOf0
  v0 := Tryd.zeroValue0
  t3 := Tryd.underlying3
  a3 := Tryd.isAgg3
  z3 := Tryd.sizeOf3
  v3 := Tryd.zeroValue3
  t4 := Tryd.underlying4
  a4 := Tryd.isAgg4
  z4 := Tryd.sizeOf4
  v4 := Tryd.zeroValue4
  t5 := Tryd.underlying5
  a5 := Tryd.isAgg5
  z5 := Tryd.sizeOf5
  v5 := Tryd.zeroValue5
  t9 := Tryd.underlying9
  a9 := Tryd.isAgg9
  z9 := Tryd.sizeOf9
  v9 := Tryd.zeroValue9
  t21 := Tryd.underlying21
  a21 := Tryd.isAgg21
  z21 := Tryd.sizeOf21
  v21 := Tryd.zeroValue21
  t31 := Tryd.underlying68
  a31 := Tryd.isAgg68
  z31 := Tryd.sizeOf68
  v31 := Tryd.zeroValue68
  t46 := Tryd.underlying71
  a46 := Tryd.isAgg71
  z46 := Tryd.sizeOf71
  v46 := Tryd.zeroValue71
  t51 := Tryd.underlying129
  a51 := Tryd.isAgg129
  z51 := Tryd.sizeOf129
  v51 := Tryd.zeroValue129
  t105 := Tryd.underlying133
  a105 := Tryd.isAgg133
  z105 := Tryd.sizeOf133
  v105 := Tryd.zeroValue133
  t119 := Tryd.underlying153
  a119 := Tryd.isAgg153
  z119 := Tryd.sizeOf153
  t138 := Tryd.underlying155
  a138 := Tryd.isAgg155
  z138 := Tryd.sizeOf155
  v138 := Tryd.zeroValue155
  t139 := Tryd.underlying156
  a139 := Tryd.isAgg156
  z139 := Tryd.sizeOf156
  v139 := Tryd.zeroValue156
  t146 := Tryd.underlying130
  a146 := Tryd.isAgg130
  z146 := Tryd.sizeOf130
  v146 := Tryd.zeroValue130
  g1 := by kernel_rfl
  g3 := by kernel_rfl
  g4 := by kernel_rfl }
open Go.RowKit Go.Lib in
/-- strings.Split. (LAID: no walk: one application.) -/
theorem Tryd.strings_Split (s sep : ByteArray) (m : Int) (w : World) (hs : s.size < 4294967281) (hm : w.cell? ⟨0, 0, none⟩ = some (.int .i64 m)) (h1 : 1 ≤ sep.size) :
    Calls Tryd.prog 86 #[.string s, .string sep] w fun e w' =>
      e = .returned (.slice (some ⟨w.heap.size, 0, none⟩) (Lib.countB s sep + 1) (Lib.countB s sep + 1)) ∧ w' = w.alloc (.cells ((Lib.splitB sep 0 (Lib.countB s sep) s).map Value.string).toArray 9) := Any.strings_Split Tryd.lays146 (by kernel_rfl) s sep m w hs hm h1
end Go.Proofs

namespace Go.Proofs.YtpboaadjbkaidaaDoor
set_option maxRecDepth 100000
open Go.ChangeShapes Go.WideShapes Go.ChangeAt Go.RowKit

theorem returnsInHanded_both {H : Type} {enc : TypeId × Value → H} {a : Assume} {C : Checked} {os : Os} {f : FuncId} {fn : Func} {s : ChangeSpec} {conds : List PathCond} {apart fresh handsOn again : Bool} {X : World → Array Value → Prop}
    (hX : ∀ (w w' : World) (args : Array Value), w.heap = w'.heap → X w args → X w' args)
    (own : ownKnob C.prog.godebug = none) (started : os.Started) (noInit : C.prog.inits.idxOf? f = none) (hfn : C.prog.funcs[f]? = some fn)
    (witness : ∃ (w : World) (tape : Tape) (i : Input), w.os = os ∧ (w.forCall tape i).Shaped C.prog ∧ i.vars = [] ∧ Input.okWide C.prog (w.forCall tape i) .any w.heap.size f i ∧
      ((s.pre enc C.prog fn conds apart (w.forCall tape i).memory i.args ∧ X (w.forCall tape i).memory i.args) ∧ sizedMet enc C.prog fn (OpenSpec.ofChange s) apart (w.forCall tape i).memory i.args) ∧ a.holds C.prog (lone (Frame.enter C.prog f i.args .normal) [] (w.forCall tape i)))
    (contract : ∀ (W : World) (base : Nat) (args : Array Value) (ds gs : List (DataW H)) (before : List MemPlace),
      (∀ (j : Nat) t v, fn.params[j]? = some t → args[j]? = some v → Value.okWide C.prog W .any base t v) →
      DataW.Whole enc C.prog fn.params.toList s.vars apart W args.toList ds gs before →
      conds.all (PathCond.test C.prog ⟨fn.params.toList, ds, s.plain.varTypes C.prog, gs⟩) = true →
      (DataW.weightsEach C.prog (fn.params.toList ++ s.plain.varTypes C.prog) (ds ++ gs)).all (· ≤ reachBytes) = true → W.ShapedOpen C.prog → X W args →
      a.holds C.prog (lone (Frame.enter C.prog f args .normal) [] W) →
      Calls C.prog f args W fun e W' => ∃ v, e = .returned v ∧ s.post enc C.prog fn apart fresh handsOn again W args v W') :
    ReturnsInHanded a C os f .any (fun w args => (s.pre enc C.prog fn conds apart w args ∧ X w args) ∧ sizedMet enc C.prog fn (OpenSpec.ofChange s) apart w args) (s.post enc C.prog fn apart fresh handsOn again) := by
  refine returnsInHanded_of_calls own started noInit witness ?_
  intro w tape i _ hsh _ hok hpre hholds
  obtain ⟨_, _, _, fn', hfn', _, _, _, _, hval⟩ := hok
  have e : fn' = fn := Option.some.inj (hfn'.symm.trans hfn)
  subst e
  obtain ⟨⟨⟨ds, gs, before, hw, hc⟩, hx⟩, hz⟩ := hpre
  have hw' := DataW.Whole.of_heap (w' := w.forCall tape i) (by rfl) hw
  refine (contract (w.forCall tape i) w.heap.size i.args ds gs before hval hw' hc (hz.weights hw) hsh (hX _ _ _ (by rfl) hx) hholds).mono fun e W' ⟨v, he, hp⟩ => ?_
  subst he
  exact ChangeSpec.post_blind hp

/-- The cell of the library's own variable holds some number. -/
def Got (w : World) : Prop := ∃ m, w.cell? ⟨0, 0, none⟩ = some (.int .i64 m)
theorem got_of {W : World} (h : W.ShapedOpen Tryd.prog) : Got W :=
  cell_of_shapedOpen_int (zero := #[.int .i64 0]) (t := 3) h (of_decide_eq_true (by kernel_rfl)) (by kernel_rfl) rfl (by kernel_rfl) (by kernel_rfl) Tryd.underlying3

end Go.Proofs.YtpboaadjbkaidaaDoor

namespace Go.Proofs.YtpboaadjbkaidaaDoor
set_option maxRecDepth 100000
open Go.RowKit

def strC (s : ByteArray) : List Value := [.string s]
theorem strC_one (s : ByteArray) : ∀ u ∈ strC s, u.oneCell' = true := by
  intro u hu
  simp [strC] at hu
  subst hu
  rfl
theorem string_info : (Tryd.prog.info? 9).map (fun i => (i.zero, i.size, i.bytes)) = some (some (.string ByteArray.empty), 1, 16) := by kernel_rfl
theorem table_size : (Tryd.prog.info? 46).map (·.size) = some 3 := by kernel_rfl
theorem tbC_oneA (x : TbV) : (tbC x).toArray.all (·.oneCell') = true := by
  rw [Array.all_eq_true_iff_forall_mem]
  intro v hv
  exact tbC_one x v (List.mem_toArray.1 hv)
/-- The words of a line. -/
def wordsB (s : ByteArray) : List ByteArray := (wordsL s.data.toList).map ofL
theorem map_ofL (l : List ByteArray) : (l.map (·.data.toList)).map ofL = l := by
  rw [List.map_map]
  refine (List.map_congr_left fun x _ => ?_).trans (List.map_id l)
  exact ofL_of x
theorem pieces_words (s : ByteArray) : (Lib.splitB (⟨#[32]⟩ : ByteArray) 0 (Lib.countB s (⟨#[32]⟩ : ByteArray)) s).filter (fun x => x.data.toList ≠ []) = wordsB s := by
  have h1 := Lib.splitB_data (⟨#[32]⟩ : ByteArray) 0 (Lib.countB s (⟨#[32]⟩ : ByteArray)) s
  have h2 : Lib.countB s (⟨#[32]⟩ : ByteArray) = s.data.toList.count 32 := Lib.count_one 32 _
  have h3 := split_words (Lib.countB s (⟨#[32]⟩ : ByteArray)) s.data.toList h2.symm
  unfold wordsB
  rw [← h3]
  have h4 : ((⟨#[32]⟩ : ByteArray)).data.toList = [32] := rfl
  rw [h4] at h1
  rw [← h1, List.filter_map, map_ofL]
  rfl
def RetWords (w : World) (s : ByteArray) (e : Ending) (w' : World) : Prop := ∃ v, e = .returned v ∧ OwnE 9 strC 1 w' w.heap.size v (wordsB s) ∧ Below w.heap.size w w'
/-- The first table with a name. -/
def findF : List Tb → ByteArray → Nat → Int
  | [], _, _ => -1
  | t :: ts, nm, k => if (t.nm.toList == nm.toList) = true then (k : Int) else findF ts nm (k + 1)
def RetSide (w : World) (s : ByteArray) (e : Ending) (w' : World) : Prop := ∃ v x, e = .returned (.tuple #[v, .int .i64 x]) ∧ x = (sideF s.data.toList).2 ∧ OwnE 26 atC 34 w' w.heap.size v (sideF s.data.toList).1 ∧ Below w.heap.size w w'

set_option maxRecDepth 100000 in
set_option maxHeartbeats 4000000 in
theorem words_any (s : ByteArray) (w : World) (hs : s.size < 4294967281) (hg : Got w) : Calls Tryd.prog 53 #[.string s] w (RetWords w s) := by
  obtain ⟨R, HRR⟩ : ∃ R, Hid (R = RetWords w s) := ⟨_, rfl⟩
  rw [← HRR.out]
  obtain ⟨m, hm⟩ := hg
  have HSP := Lib.hid (Tryd.strings_Split s (⟨#[32]⟩ : ByteArray) m w hs hm (by decide))
  have hPn := Lib.splitB_all (⟨#[32]⟩ : ByteArray) (by decide) 0 (Lib.countB s (⟨#[32]⟩ : ByteArray)) s rfl
  have hPw : Hid ((Lib.splitB (⟨#[32]⟩ : ByteArray) 0 (Lib.countB s (⟨#[32]⟩ : ByteArray)) s).filter (fun x => x.data.toList ≠ []) = wordsB s) := pieces_words s
  have hcb : Lib.countB s (⟨#[32]⟩ : ByteArray) ≤ s.size := Lib.countB_le (⟨#[32]⟩ : ByteArray) (by decide) s.size s (Nat.le_refl _)
  generalize Lib.splitB (⟨#[32]⟩ : ByteArray) 0 (Lib.countB s (⟨#[32]⟩ : ByteArray)) s = P at HSP hPn hPw
  generalize Lib.countB s (⟨#[32]⟩ : ByteArray) = n at HSP hPn hcb
  obtain ⟨N, hN⟩ : ∃ N, N = n + 1 := ⟨_, rfl⟩
  rw [← hN] at HSP hPn
  have hcast : ((n + 1 : Nat) : Int) = (n : Int) + 1 := by omega
  go_enter Tryd.func53, Tryd.ntmps53
  go_upto_region 3 with (go_at_call 86; refine HSP.out.mono ?_; rintro e w' ⟨rfl, rfl⟩)
  have HP : Hid (∀ k p, P[k]? = some p → (w.alloc (.cells (P.map Value.string).toArray 9)).cell? ⟨w.heap.size, k, none⟩ = some (.string p)) := fun k p hk => by
    have := cells_new w (P.map Value.string) 9 k (.string p) (by rw [List.getElem?_map, hk]; rfl)
    rw [Addr.add_lit, Nat.zero_add] at this
    exact this
  have hz1 : (w.alloc (.cells (P.map Value.string).toArray 9)).heap.size = w.heap.size + 1 := by simp
  have HB1 := Lib.hid ((Below.refl w.heap.size w).alloc (Nat.le_refl _) (.cells (P.map Value.string).toArray 9))
  generalize w.alloc (.cells (P.map Value.string).toArray 9) = w1 at HP hz1 HB1 ⊢
  clear HSP
  go_wp2_with fail
  obtain ⟨wo, HWO⟩ : ∃ wo, Hid (wo = w1) := ⟨w1, rfl⟩
  go_loopg [3, 9] N (fun gk ov kv wr => ∃ (k : Nat) (q : List ByteArray) (A : Option Addr) (c : Nat), ov = .slice A q.length c ∧ kv = .int .i64 k ∧ k ≤ N ∧ Hid (q = (P.take k).filter (fun x => x.data.toList ≠ [])) ∧ Hid (OwnE 9 strC 1 wr w1.heap.size (.slice A q.length c) q) ∧ Hid (Below w1.heap.size w1 wr) ∧ q.length ≤ k ∧ N - k ≤ gk)
  case atStart => exact ⟨0, [], none, 0, rfl, rfl, by omega, rfl, OwnE.nil, Below.refl _ _, Nat.le_refl _, by omega⟩
  case round =>
    obtain ⟨k, q, A, c, rfl, rfl, hk, HQ, HO, HB, hqk, hgk⟩ := hrel
    by_cases hkl : k < N
    · have hki : (k : Int) < (N : Int) := by omega
      have hk0 : (0 : Int) ≤ (k : Int) := by omega
      have hPk : k < P.length := by omega
      have q0 := (HB.out.cell (p := ⟨w.heap.size, k, none⟩) (show w.heap.size < w1.heap.size by omega)).trans (HP.out k _ (List.getElem?_eq_getElem hPk))
      have HQ2 : Hid ((P.take (k + 1)).filter (fun x => x.data.toList ≠ []) = q ++ if P[k].data.toList ≠ [] then [P[k]] else []) := by
        show _ = _
        rw [List.take_succ_eq_append_getElem hPk, List.filter_append, ← HQ.out]
        congr 1
        by_cases h : P[k].data.toList ≠ []
        · rw [if_pos h, List.filter_cons_of_pos (by simpa using h)]; rfl
        · rw [if_neg h, List.filter_cons_of_neg (by simpa using h)]; rfl
      generalize P[k] = p at q0 HQ2
      have hsz := HB.out.size
      by_cases hp : p.data.toList = []
      · have t1 : (p.toList != []) = false := by rw [toList_eq_data, hp]; rfl
        have t2 : (p.toList == []) = true := by rw [toList_eq_data, hp]; rfl
        rw [if_neg (not_not_intro hp), List.append_nil] at HQ2
        clear hp
        go_wp2_with fail
        go_roundg (N - (k + 1))
        case measure => omega
        case rel => exact ⟨k + 1, q, A, c, rfl, by go_num, by omega, HQ2.out.symm, HO.out, HB.out, by omega, Nat.le_refl _⟩
      · have t1 : (p.toList != []) = true := by rw [toList_eq_data]; exact bne_iff_ne.2 hp
        have t2 : (p.toList == []) = false := by rw [toList_eq_data]; exact beq_eq_false_iff_ne.2 hp
        rw [if_pos hp] at HQ2
        clear hp
        go_wp2_with (at_builtin; go_must (refine wpList_app1 rfl (.tmp 15) (.tmp 17) 68 9 rfl Tryd.underlying68 _ 1 16 string_info rfl (by decide) w1.heap.size (.slice A q.length c) q.length (q.flatMap strC) rfl (own_below HO.out ((Below.refl _ wr).alloc (Nat.le_refl _) _) (Nat.le_refl _)) ⟨wr.heap.size, 0, none⟩ 1 (strC p) rfl rfl (cells_new wr (strC p) 9) (strC_one p) (by omega) (by decide) (by simp; omega) ?_); intro g2 cap w9 hown9 hbg9 hbel9 hgrow9)
        have hbn := hbel9 w1.heap.size (wr.alloc (.cells (strC p).toArray 9)) (Nat.le_refl _) (Below.refl _ _)
        have HB9 := Lib.hid ((HB.out.alloc hsz (.cells (strC p).toArray 9)).trans hbn)
        have HO9 : Hid (OwnE 9 strC 1 w9 w1.heap.size (.slice (some ⟨g2, 0, none⟩) (q.length + 1) cap) (q ++ [p])) := OwnE.snoc hown9
        clear hown9 hbel9 hgrow9 hbn
        go_wp2_with fail
        go_roundg (N - (k + 1))
        case measure => omega
        case rel => exact ⟨k + 1, q ++ [p], some ⟨g2, 0, none⟩, cap, by (show Value.slice _ _ _ = Value.slice _ _ _); rw [List.length_append]; rfl, by go_num, by omega, HQ2.out.symm, by (show OwnE _ _ _ _ _ _ _); rw [List.length_append]; exact HO9.out, HB9.out, by rw [List.length_append]; show q.length + 1 ≤ k + 1; omega, Nat.le_refl _⟩
    · obtain rfl : k = N := by omega
      have hki : ¬ (k : Int) < (k : Int) := by omega
      have e : q = wordsB s := by
        rw [HQ.out, ← hPw.out, List.take_of_length_le (by omega)]
      go_wp2_with fail
      rw [HRR.out]
      refine ⟨_, rfl, ?_, HB1.out.trans (HB.out.mono HB1.out.size)⟩
      have h := own_base HO.out HB1.out.size
      rw [e] at h
      exact h

set_option maxRecDepth 100000 in
set_option maxHeartbeats 4000000 in
theorem find_any (ts : List Tb) (v : Value) (nm : ByteArray) (w : World) (ht : RdTb w v ts) (hl : ts.length ≤ 1000000) :
    Calls Tryd.prog 74 #[v, .string nm] w fun e w' => e = .returned (.int .i64 (findF ts nm 0)) ∧ Below w.heap.size w w' := by
  obtain ⟨xs, hx0, hxl, hx⟩ := ht
  have hxa : xs.length ≤ ts.length := Nat.le_of_eq hxl
  have hxb : ts.length ≤ xs.length := Nat.le_of_eq hxl.symm
  clear hxl
  obtain ⟨A, c, rfl, hlc, _⟩ := hx0.shape
  have HX := Lib.hid hx0
  have HI : Hid (∀ (i : Nat) (x : TbV) (t : Tb), xs[i]? = some x → ts[i]? = some t → x.nm = t.nm) := fun i x t h1 h2 => (hx i x t h1 h2).1
  clear hx0 hx
  obtain ⟨V, HV⟩ : ∃ V, Hid (V = findF ts nm 0) := ⟨_, rfl⟩
  rw [← HV.out]
  have hu := Tryd.underlying46
  have hi : (Tryd.prog.info? 46).map (·.size) = some 3 := table_size
  go_enter Tryd.func74, Tryd.ntmps74
  go_wp2_with fail
  obtain ⟨wo, HWO⟩ : ∃ wo, Hid (wo = w) := ⟨w, rfl⟩
  go_loopg [9] xs.length (fun gk kv wr => ∃ k : Nat, kv = .int .i64 k ∧ k ≤ xs.length ∧ Hid (findF (ts.drop k) nm k = V) ∧ Hid (Below w.heap.size w wr) ∧ xs.length - k ≤ gk)
  case atStart => exact ⟨0, rfl, by omega, by (show _ = _); rw [List.drop_zero, HV.out], Below.refl _ _, by omega⟩
  case round =>
    obtain ⟨k, rfl, hk, HF, HB, hgk⟩ := hrel
    by_cases hkl : k < xs.length
    · have hki : (k : Int) < (xs.length : Int) := by omega
      have hk0 : (0 : Int) ≤ (k : Int) := by omega
      obtain ⟨b, o, rfl, hbl, hcell⟩ := HX.out.cells (by omega)
      have hxk : xs[k]? = some xs[k] := List.getElem?_eq_getElem hkl
      have htk : ts[k]? = some (ts[k]'(by omega)) := List.getElem?_eq_getElem (by omega)
      have hrg : wr.rangeAt b (o + k * 3) (tbC xs[k]) := fun j v hj => by
        rw [Nat.add_assoc]
        exact (HB.out.cell (p := ⟨b, o + (k * 3 + j), none⟩) hbl).trans (hcell k _ j v hxk hj)
      have hnm := HI.out k _ _ hxk htk
      have HF2 : Hid ((if (xs[k].nm.toList == nm.toList) = true then (k : Int) else findF (ts.drop (k + 1)) nm (k + 1)) = V) := by
        show _ = _
        have h := HF.out
        rw [List.drop_eq_getElem_cons (show k < ts.length by omega), findF] at h
        rw [hnm]
        exact h
      clear hcell hxk htk hnm HF
      generalize xs[k] = x at hrg HF2
      have hz := HB.out.size
      have HA1 : Hid ((((wr.alloc (.cells #[.string ⟨#[]⟩, .string ⟨#[]⟩, .slice none 0 0] 46)).setRow wr.heap.size (tbC x).toArray)).heap[wr.heap.size]? = some (.cells (tbC x).toArray 46)) := setRow_heap _ _ _ _ _ _ (heap_alloc_new wr _)
      have HB1 : Hid (Below w.heap.size w ((wr.alloc (.cells #[.string ⟨#[]⟩, .string ⟨#[]⟩, .slice none 0 0] 46)).setRow wr.heap.size (tbC x).toArray)) := below_setRow (HB.out.alloc hz _) hz _
      go_upto_region 4 with (first
        | (refine wpList_load_mid rfl 46 (.tmp 12) rfl b (o + k * 3) rfl (tbC x) _ hrg hu rfl (by rw [hi]; rfl) ?_)
        | (refine wpList_store_row rfl 46 (.tmp 6) (.tmp 13) rfl (wr.heap.size) (tbC x).toArray rfl rfl 46 _ (heap_alloc_new wr _) (by rw [table_size]; rfl) rfl (tbC_oneA x) ?_))
      clear HB hrg
      generalize hg3 : wr.heap.size = g3 at HA1 HB1 hz ⊢
      generalize (wr.alloc (.cells #[.string ⟨#[]⟩, .string ⟨#[]⟩, .slice none 0 0] 46)).setRow g3 (tbC x).toArray = w2 at HA1 HB1 ⊢
      clear hg3
      have q : w2.cell? ⟨g3, 0, none⟩ = some (.string x.nm) := by rw [cell_of_row _ _ _ _ _ _ HA1.out]; rfl
      by_cases hp : (x.nm.toList == nm.toList) = true
      · rw [if_pos hp] at HF2
        go_wp2_with fail
        go_ret
        exact ⟨ret_int HF2.out, HB1.out⟩
      · have hp2 : (x.nm.toList == nm.toList) = false := by simpa using hp
        rw [if_neg hp] at HF2
        clear hp
        go_wp2_with fail
        go_roundg (xs.length - (k + 1))
        case measure => omega
        case rel => exact ⟨k + 1, by go_num, by omega, HF2.out, HB1.out, Nat.le_refl _⟩
    · obtain rfl : k = xs.length := by omega
      have hki : ¬ (xs.length : Int) < (xs.length : Int) := by omega
      have HF2 : Hid (V = -1) := by
        show _ = _
        rw [← HF.out, List.drop_eq_nil_of_le (by omega)]
        rfl
      go_wp2_with fail
      go_ret
      exact ⟨ret_int HF2.out.symm, HB.out⟩

set_option maxRecDepth 100000 in
set_option maxHeartbeats 4000000 in
theorem side_any (s : ByteArray) (w : World) (hs : s.size ≤ 2147483648) : Calls Tryd.prog 102 #[.string s] w (RetSide w s) := by
  obtain ⟨R, HRR⟩ : ∃ R, Hid (R = RetSide w s) := ⟨_, rfl⟩
  rw [← HRR.out]
  have HPA := Lib.hid (parse_any w s hs)
  by_cases h : s.data.toList = [45]
  · have t1 : (s.toList == [45]) = true := by rw [toList_eq_data, h]; rfl
    have e : sideF s.data.toList = ([], 0) := by unfold sideF; rw [if_pos h]
    clear h
    go_enter Tryd.func102, Tryd.ntmps102
    go_wp2_with fail
    rw [HRR.out]
    exact ⟨_, _, rfl, by rw [e], by rw [e]; exact OwnE.nil, Below.refl _ _⟩
  · have t1 : (s.toList == [45]) = false := by rw [toList_eq_data]; exact beq_eq_false_iff_ne.2 h
    have e : sideF s.data.toList = ((parseF s).1, (parseF s).2.2) := by unfold sideF; rw [if_neg h, ofL_of]
    clear h
    go_enter Tryd.func102, Tryd.ntmps102
    go_wp2_with (go_at_call 113; refine HPA.out.mono ?_; rintro e w1 ⟨v1, rfl, ho1, hb1⟩)
    rw [HRR.out]
    exact ⟨v1, _, rfl, by rw [e], by rw [e]; exact ho1, hb1⟩

end Go.Proofs.YtpboaadjbkaidaaDoor

namespace Go.Proofs.YtpboaadjbkaidaaDoor
set_option maxRecDepth 100000
open Go.RowKit

theorem isname_any (s : ByteArray) (w : World) (hs : s.size ≤ maxLen) :
    Calls Tryd.prog 58 #[.string s] w fun e w' => e = .returned (.bool (nameL s.data.toList)) ∧ w = w' := by
  unfold maxLen at hs
  have hsz := Lib.size_eq s
  by_cases h1 : s.size < 1
  · have hn := nameL_short s.data.toList (by omega)
    have H := Lib.hid hn
    clear hn hsz
    go_enter Tryd.func58, Tryd.ntmps58
    go_wp2
    go_ret
    exact ⟨ret_bool H.out.symm, rfl⟩
  by_cases h2 : 24 < s.size
  · have hn := nameL_long s.data.toList (by omega)
    have H := Lib.hid hn
    clear hn hsz
    go_enter Tryd.func58, Tryd.ntmps58
    go_wp2
    go_ret
    exact ⟨ret_bool H.out.symm, rfl⟩
  have h0 : 0 < s.size := by omega
  have hg : s.data.toList[0] = s[0] := rfl
  by_cases h3 : headB s[0] = true
  · have hn := nameL_tail s.data.toList (by omega) (by omega) (by rw [hg]; exact h3)
    have H := Lib.hid hn
    have h3' : 97 ≤ s[0].toNat ∧ s[0].toNat ≤ 122 := by simpa [headB] using h3
    obtain ⟨h4, h5⟩ := h3'
    clear hn h3 hg
    have HZ := Lib.hid hsz
    clear hsz
    go_enter Tryd.func58, Tryd.ntmps58
    go_wp2
    go_loop [3] (fun i => ∃ k : Nat, 1 ≤ k ∧ k ≤ s.size ∧ i = .int .i64 k ∧ Hid (nameL s.data.toList = (s.data.toList.drop k).all restB)) (fun i => s.size - (intOf i).toNat)
    case atStart => exact ⟨1, by omega, by omega, rfl, H.out⟩
    case round =>
      obtain ⟨k, hk1, hk, rfl, HR⟩ := hrel
      by_cases hlt : k < s.size
      · have hl : k < s.data.toList.length := by rw [← Lib.size_eq]; exact hlt
        have hst := HR.out.trans (all_drop_step _ _ hl)
        have hgk : s.data.toList[k] = s[k] := rfl
        rw [hgk] at hst
        have HS := Lib.hid hst
        clear hst hgk HR H
        have h255 : s[k].toNat < 256 := s[k].toNat_lt
        go_wp2
        all_goals (try simp only [beq_iff_eq, beq_eq_false_iff_ne, bne_iff_ne, bne_eq_false_iff_eq, ne_eq, Bool.not_eq_true', Bool.not_eq_false', Bool.not_eq_eq_eq_not, Bool.not_true, Bool.not_false, decide_eq_true_eq, decide_eq_false_iff_not, Int.not_lt, Int.not_le] at *)
        all_goals first
          | (refine ⟨⟨k + 1, by omega, by omega, by go_num, ?_⟩, by simp [intOf]; try omega⟩
             have hr : restB s[k] = true := by simp only [restB, decide_eq_true_eq]; omega
             have := HS.out
             rw [hr, Bool.true_and] at this
             exact this)
          | (have hr : restB s[k] = false := by simp only [restB, decide_eq_false_iff_not]; omega
             have := HS.out
             rw [hr, Bool.false_and] at this
             go_ret
             exact ⟨ret_bool this.symm, rfl⟩)
      · have hl : ¬ k < s.data.toList.length := by rw [← Lib.size_eq]; exact hlt
        have hst := HR.out.trans (all_drop_end _ _ hl)
        have HS := Lib.hid hst
        clear hst HR H hl
        go_wp2
        go_ret
        exact ⟨ret_bool HS.out.symm, rfl⟩
  · have h3f : headB s[0] = false := by simpa using h3
    have hn := nameL_head s.data.toList (by omega) (by rw [hg]; exact h3f)
    have H := Lib.hid hn
    have h3' : ¬ (97 ≤ s[0].toNat ∧ s[0].toNat ≤ 122) := by simpa [headB] using h3
    clear hn h3 h3f hg hsz
    have h255 : s[0].toNat < 256 := s[0].toNat_lt
    by_cases h4 : s[0].toNat < 97
    · go_enter Tryd.func58, Tryd.ntmps58
      go_wp2
      go_ret
      exact ⟨ret_bool H.out.symm, rfl⟩
    · have h5 : 122 < s[0].toNat := by omega
      clear h3'
      go_enter Tryd.func58, Tryd.ntmps58
      go_wp2
      go_ret
      exact ⟨ret_bool H.out.symm, rfl⟩

end Go.Proofs.YtpboaadjbkaidaaDoor

namespace Go.Proofs.YtpboaadjbkaidaaDoor
set_option maxRecDepth 100000
open Go.RowKit

theorem table_info : (Tryd.prog.info? 46).map (fun i => (i.zero, i.size, i.bytes)) = some (some (.agg #[.string ⟨#[]⟩, .string ⟨#[]⟩, .slice none 0 0]), 3, 56) := by kernel_rfl
theorem rdE_one_at {α : Type} (f : α → List Value) (m : Nat) (_hm : ∀ x, (f x).length = m) (w : World) (g : Nat) (hg : w.heap.size = g) (x : α) (t : TypeId) : RdE f m (w.alloc (.cells (f x).toArray t)) (.slice (some ⟨g, 0, none⟩) 1 1) [x] := by
  subst hg
  refine ⟨some ⟨w.heap.size, 0, none⟩, 1, rfl, by simp, (fun h => by cases h), fun _ => ⟨w.heap.size, 0, rfl, by simp, fun i y j u hi hj => ?_⟩⟩
  have hi0 : i = 0 := by
    have := (List.getElem?_eq_some_iff.1 hi).1
    simpa using this
  subst hi0
  simp at hi
  subst hi
  have := cells_new w (f x) t j u hj
  rw [Addr.add_lit] at this
  simpa using this
theorem find_any_iff : ∀ (ts : List Tb) (b : ByteArray) (k : Nat), (0 ≤ findF ts b k) ↔ ts.any (fun t => t.nm.data.toList == b.data.toList) = true
  | [], _, _ => by simp [findF]
  | t :: ts, b, k => by
    rw [findF, List.any_cons, toList_eq_data, toList_eq_data]
    by_cases h : (t.nm.data.toList == b.data.toList) = true
    · rw [if_pos h, h]; simp
    · rw [if_neg h, find_any_iff ts b (k + 1)]
      simp at h
      simp [h]
theorem table2 (ts : List Tb) (a b : ByteArray) : tableF ts [a.data.toList, b.data.toList] = if nameL b.data.toList = false then ([], 4) else if ts.any (fun t => t.nm.data.toList == b.data.toList) = true then ([], 5) else if 16 ≤ ts.length then ([], 3) else (ts ++ [⟨b, ⟨#[]⟩, []⟩], 0) := by
  have e : ofL [] = ⟨#[]⟩ := rfl
  unfold tableF
  simp [ofL_of, e]
theorem table3 (ts : List Tb) (a b c : ByteArray) : tableF ts [a.data.toList, b.data.toList, c.data.toList] = if nameL b.data.toList = false ∨ nameL c.data.toList = false then ([], 4) else if ts.any (fun t => t.nm.data.toList == b.data.toList) = true then ([], 5) else if 16 ≤ ts.length then ([], 3) else (ts ++ [⟨b, c, []⟩], 0) := by
  unfold tableF
  simp [ofL_of]
/-- What a call gives that adds a line. -/
def RetTab (B : Nat) (w : World) (r : List Tb × Int) (e : Ending) (w' : World) : Prop := ∃ v x, e = .returned (.tuple #[v, .int .i64 x]) ∧ x = r.2 ∧ (r.2 = 0 → ∃ xs rv ys, TS 46 30 B w' v r.1 xs rv ys) ∧ Below B w w'

set_option maxRecDepth 100000 in
set_option maxHeartbeats 8000000 in
theorem addTable_any (B : Nat) (w : World) (v wv : Value) (ts : List Tb) (xs : List TbV) (rv : Sl) (ys : List RuV) (ws : List ByteArray) (ht : TS 46 30 B w v ts xs rv ys) (hw : RdE strC 1 w wv ws) (hB : B ≤ w.heap.size) (hl : ts.length ≤ 16) (hws : ∀ s ∈ ws, s.size ≤ 2147483648) :
    Calls Tryd.prog 87 #[v, wv] w (RetTab B w (tableF ts (ws.map fun s => s.data.toList))) := by
  obtain ⟨R, HRR⟩ : ∃ R, Hid (R = RetTab B w (tableF ts (ws.map fun s => s.data.toList))) := ⟨_, rfl⟩
  rw [← HRR.out]
  have HT := Lib.hid ht
  obtain ⟨Aw, cw, rfl, hlw, _⟩ := hw.shape
  obtain ⟨Av, cv, hv⟩ := ht.rd.shape
  by_cases h23 : ws.length ≠ 2 ∧ ws.length ≠ 3
  · have t1 : ((ws.length : Int) != 2) = true := bne_iff_ne.2 (by omega)
    have t2 : ((ws.length : Int) != 3) = true := bne_iff_ne.2 (by omega)
    have e0 : tableF ts (ws.map fun s => s.data.toList) = ([], 2) := by unfold tableF; rw [List.length_map, if_pos h23]
    go_enter Tryd.func87, Tryd.ntmps87
    go_wp2_with fail
    rw [HRR.out, e0]
    exact ⟨_, _, rfl, rfl, fun h => absurd h (by decide), Below.refl _ _⟩
  obtain ⟨bb, o, rfl, hbl, hcell⟩ := hw.cells (by omega)
  subst hv
  rcases (show ws.length = 2 ∨ ws.length = 3 by omega) with h2 | h3
  · obtain ⟨a, b, rfl⟩ : ∃ a b, ws = [a, b] := by
      match ws, h2 with
      | [a, b], _ => exact ⟨a, b, rfl⟩
    clear h2 h23
    change Hid (R = RetTab B w (tableF ts [a.data.toList, b.data.toList])) at HRR
    have q1 := hcell 1 b 0 (.string b) rfl rfl
    rw [show o + (1 * 1 + 0) = o + 1 by omega] at q1
    have hbs : b.size ≤ maxLen := by have := hws b (by simp); unfold maxLen; omega
    have HT1 := Lib.hid (HT.out.keep (w' := w.alloc (.cells #[.string b, .string ⟨#[]⟩, .slice none 0 0] 46)) (by simp) (fun k hk => Below.heap_alloc w _ k hk))
    have HX1 : Hid ((w.alloc (.cells #[.string b, .string ⟨#[]⟩, .slice none 0 0] 46)).heap[w.heap.size]? = some (.cells #[.string b, .string ⟨#[]⟩, .slice none 0 0] 46)) := heap_alloc_new w _
    have HB1 : Hid (Below B w (w.alloc (.cells #[.string b, .string ⟨#[]⟩, .slice none 0 0] 46))) := (Below.refl B w).alloc hB _
    have hz1 : (w.alloc (.cells #[.string b, .string ⟨#[]⟩, .slice none 0 0] 46)).heap.size = w.heap.size + 1 := by simp
    go_enter Tryd.func87, Tryd.ntmps87
    go_upto_region 6 with fail
    clear hcell q1
    generalize hg : w.heap.size = g at HX1 hz1 hB ⊢
    generalize w.alloc (.cells #[.string b, .string ⟨#[]⟩, .slice none 0 0] 46) = w1 at HT1 HX1 HB1 hz1 ⊢
    have p0 : w1.cell? ⟨g, 0, none⟩ = some (.string b) := by rw [cell_of_row _ _ _ _ _ _ HX1.out]; rfl
    have p1 : w1.cell? ⟨g, 1, none⟩ = some (.string ⟨#[]⟩) := by rw [cell_of_row _ _ _ _ _ _ HX1.out]; rfl
    cases hb1 : nameL b.data.toList with
    | false =>
      have e0 : tableF ts [a.data.toList, b.data.toList] = ([], 4) := by rw [table2]; rw [if_pos hb1]
      have HN1 := Lib.hid (fun w => isname_any b w hbs)
      rw [hb1] at HN1
      go_wp2_with (go_at_call_of 58 (Value.string b); refine (HN1.out _).mono ?_; rintro e w' ⟨rfl, rfl⟩)
      rw [HRR.out, e0]
      exact ⟨_, _, rfl, rfl, fun h => absurd h (by decide), HB1.out⟩
    | true =>
      have HN1 := Lib.hid (fun w => isname_any b w hbs)
      rw [hb1] at HN1
      have HRD := Lib.hid HT1.out.rd
      have HFI := Lib.hid (find_any ts _ b w1 HRD.out (by omega))
      have HFA := Lib.hid (find_any_iff ts b 0)
      go_upto_region 8 with (first | (go_at_call_of 58 (Value.string b); refine (HN1.out _).mono ?_; rintro e w' ⟨rfl, rfl⟩))
      generalize findF ts b 0 = fi at HFI HFA
      by_cases hf : 0 ≤ fi
      · have e0 : tableF ts [a.data.toList, b.data.toList] = ([], 5) := by rw [table2]; rw [if_neg (fun h => Bool.noConfusion (hb1.symm.trans h))]; rw [if_pos (HFA.out.1 hf)]
        go_wp2_with (go_at_call 74; refine HFI.out.mono ?_; rintro e w2 ⟨rfl, hb2⟩)
        rw [HRR.out, e0]
        exact ⟨_, _, rfl, rfl, fun h => absurd h (by decide), HB1.out.trans (hb2.mono (by omega))⟩
      have hfl : fi < 0 := by omega
      have hfn : ¬ ts.any (fun t => t.nm.data.toList == b.data.toList) = true := fun h => hf (HFA.out.2 h)
      by_cases h16 : 16 ≤ ts.length
      · have h16i : (16 : Int) ≤ (ts.length : Int) := by omega
        have e0 : tableF ts [a.data.toList, b.data.toList] = ([], 3) := by rw [table2]; rw [if_neg (fun h => Bool.noConfusion (hb1.symm.trans h))]; rw [if_neg hfn, if_pos h16]
        go_wp2_with (go_at_call 74; refine HFI.out.mono ?_; rintro e w2 ⟨rfl, hb2⟩)
        rw [HRR.out, e0]
        exact ⟨_, _, rfl, rfl, fun h => absurd h (by decide), HB1.out.trans (hb2.mono (by omega))⟩
      have h16i : ¬ (16 : Int) ≤ (ts.length : Int) := by omega
      have e0 : tableF ts [a.data.toList, b.data.toList] = (ts ++ [⟨b, ⟨#[]⟩, []⟩], 0) := by rw [table2]; rw [if_neg (fun h => Bool.noConfusion (hb1.symm.trans h))]; rw [if_neg hfn, if_neg h16]
      have hxl : xs.length ≤ ts.length := Nat.le_of_eq HT1.out.len
      go_upto_region 12 with (go_at_call 74; refine HFI.out.mono ?_; rintro e w2 ⟨rfl, hb2⟩)
      have HT2 := Lib.hid (HT1.out.below hb2 (Nat.le_refl _))
      have HB2 := Lib.hid (HB1.out.trans (hb2.mono (by omega)))
      have HX2 : Hid (w2.heap[g]? = some (.cells #[.string b, .string ⟨#[]⟩, .slice none 0 0] 46)) := by show _ = _; rw [hb2.block g (by omega)]; exact HX1.out
      clear hb2 HT1 HB1 HX1 p0 p1 HFI HRD
      have hz2 := HB2.out.size
      have HT3 := Lib.hid (HT2.out.keep (w' := w2.alloc (.cells #[.string b, .string ⟨#[]⟩, .slice none 0 0] 46)) (by simp) (fun k hk => Below.heap_alloc w2 _ k hk))
      have hgz : w.heap.size ≤ w2.heap.size := hz2
      have HOW : Hid ((w2.alloc (.cells #[.string b, .string ⟨#[]⟩, .slice none 0 0] 46)).ownsRow B 46 3 (.slice Av ts.length cv) xs.length (xs.flatMap tbC)) := HT3.out.own
      clear HFA hfn
      go_wp2_with (first
        | (refine wpList_load_row rfl 46 (.tmp 6) rfl (g) rfl 46 #[.string b, .string ⟨#[]⟩, .slice none 0 0] (0, 0) _ HX2.out Tryd.underlying46 rfl (by rw [table_size]; rfl) ?_)
        | (at_builtin; refine wpList_appAt rfl (.tmp 52) (.tmp 54) 39 46 rfl Tryd.underlying39 _ tbC 3 56 table_info rfl (by decide) tbC_len tbC_one B (.slice Av ts.length cv) xs rfl HOW.out (.slice (some ⟨w2.heap.size, 0, none⟩) 1 1) [⟨b, ⟨#[]⟩, ⟨none, 0, 0⟩⟩] rfl (rdE_one_at tbC 3 tbC_len w2 _ rfl ⟨b, ⟨#[]⟩, ⟨none, 0, 0⟩⟩ 46) (by simp only [List.length_singleton]; omega) (by decide) (by simp; omega) ?_; intro v9 w9 hown9 hbel9 hgrow9 hat9))
      rw [HRR.out, e0]
      exact ⟨_, _, rfl, rfl, fun _ => ⟨_, _, _, HT3.out.push b ⟨#[]⟩ hown9 hgrow9 hat9⟩, hbel9 B w (Nat.le_refl _) (HB2.out.alloc (by omega) _)⟩
  · obtain ⟨a, b, c, rfl⟩ : ∃ a b c, ws = [a, b, c] := by
      match ws, h3 with
      | [a, b, c], _ => exact ⟨a, b, c, rfl⟩
    clear h3 h23
    change Hid (R = RetTab B w (tableF ts [a.data.toList, b.data.toList, c.data.toList])) at HRR
    have q1 := hcell 1 b 0 (.string b) rfl rfl
    rw [show o + (1 * 1 + 0) = o + 1 by omega] at q1
    have q2 := hcell 2 c 0 (.string c) rfl rfl
    rw [show o + (2 * 1 + 0) = o + 2 by omega] at q2
    have hcs : c.size ≤ maxLen := by have := hws c (by simp); unfold maxLen; omega
    have hbw : ∀ ob : Obj, bb < (w.alloc ob).heap.size := fun ob => by simp; omega
    have hbw2 := hbw (.cells #[.string b, .string ⟨#[]⟩, .slice none 0 0] 46)
    have hbs : b.size ≤ maxLen := by have := hws b (by simp); unfold maxLen; omega
    have HT1 := Lib.hid (HT.out.keep (w' := w.alloc (.cells #[.string b, .string c, .slice none 0 0] 46)) (by simp) (fun k hk => Below.heap_alloc w _ k hk))
    have HX1 : Hid ((w.alloc (.cells #[.string b, .string c, .slice none 0 0] 46)).heap[w.heap.size]? = some (.cells #[.string b, .string c, .slice none 0 0] 46)) := heap_alloc_new w _
    have HB1 : Hid (Below B w (w.alloc (.cells #[.string b, .string c, .slice none 0 0] 46))) := (Below.refl B w).alloc hB _
    have hz1 : (w.alloc (.cells #[.string b, .string c, .slice none 0 0] 46)).heap.size = w.heap.size + 1 := by simp
    go_enter Tryd.func87, Tryd.ntmps87
    go_upto_region 6 with fail
    clear hcell q1 q2 hbw2 hbw
    generalize hg : w.heap.size = g at HX1 hz1 hB ⊢
    generalize w.alloc (.cells #[.string b, .string c, .slice none 0 0] 46) = w1 at HT1 HX1 HB1 hz1 ⊢
    have p0 : w1.cell? ⟨g, 0, none⟩ = some (.string b) := by rw [cell_of_row _ _ _ _ _ _ HX1.out]; rfl
    have p1 : w1.cell? ⟨g, 1, none⟩ = some (.string c) := by rw [cell_of_row _ _ _ _ _ _ HX1.out]; rfl
    cases hb1 : nameL b.data.toList with
    | false =>
      have e0 : tableF ts [a.data.toList, b.data.toList, c.data.toList] = ([], 4) := by rw [table3]; rw [if_pos (.inl hb1)]
      have HN1 := Lib.hid (fun w => isname_any b w hbs)
      rw [hb1] at HN1
      go_wp2_with (go_at_call_of 58 (Value.string b); refine (HN1.out _).mono ?_; rintro e w' ⟨rfl, rfl⟩)
      rw [HRR.out, e0]
      exact ⟨_, _, rfl, rfl, fun h => absurd h (by decide), HB1.out⟩
    | true =>
      have HN1 := Lib.hid (fun w => isname_any b w hbs)
      rw [hb1] at HN1
      cases hc1 : nameL c.data.toList with
      | false =>
        have e0 : tableF ts [a.data.toList, b.data.toList, c.data.toList] = ([], 4) := by rw [table3]; rw [if_pos (.inr hc1)]
        have HN2 := Lib.hid (fun w => isname_any c w hcs)
        rw [hc1] at HN2
        go_wp2_with (first | (go_at_call_of 58 (Value.string b); refine (HN1.out _).mono ?_; rintro e w' ⟨rfl, rfl⟩) | (go_at_call_of 58 (Value.string c); refine (HN2.out _).mono ?_; rintro e w' ⟨rfl, rfl⟩))
        rw [HRR.out, e0]
        exact ⟨_, _, rfl, rfl, fun h => absurd h (by decide), HB1.out⟩
      | true =>
        have HN2 := Lib.hid (fun w => isname_any c w hcs)
        rw [hc1] at HN2
        have HRD := Lib.hid HT1.out.rd
        have HFI := Lib.hid (find_any ts _ b w1 HRD.out (by omega))
        have HFA := Lib.hid (find_any_iff ts b 0)
        go_upto_region 8 with (first | (go_at_call_of 58 (Value.string b); refine (HN1.out _).mono ?_; rintro e w' ⟨rfl, rfl⟩) | (go_at_call_of 58 (Value.string c); refine (HN2.out _).mono ?_; rintro e w' ⟨rfl, rfl⟩))
        generalize findF ts b 0 = fi at HFI HFA
        by_cases hf : 0 ≤ fi
        · have e0 : tableF ts [a.data.toList, b.data.toList, c.data.toList] = ([], 5) := by rw [table3]; rw [if_neg (by rintro (h | h); exact Bool.noConfusion (hb1.symm.trans h); exact Bool.noConfusion (hc1.symm.trans h))]; rw [if_pos (HFA.out.1 hf)]
          go_wp2_with (go_at_call 74; refine HFI.out.mono ?_; rintro e w2 ⟨rfl, hb2⟩)
          rw [HRR.out, e0]
          exact ⟨_, _, rfl, rfl, fun h => absurd h (by decide), HB1.out.trans (hb2.mono (by omega))⟩
        have hfl : fi < 0 := by omega
        have hfn : ¬ ts.any (fun t => t.nm.data.toList == b.data.toList) = true := fun h => hf (HFA.out.2 h)
        by_cases h16 : 16 ≤ ts.length
        · have h16i : (16 : Int) ≤ (ts.length : Int) := by omega
          have e0 : tableF ts [a.data.toList, b.data.toList, c.data.toList] = ([], 3) := by rw [table3]; rw [if_neg (by rintro (h | h); exact Bool.noConfusion (hb1.symm.trans h); exact Bool.noConfusion (hc1.symm.trans h))]; rw [if_neg hfn, if_pos h16]
          go_wp2_with (go_at_call 74; refine HFI.out.mono ?_; rintro e w2 ⟨rfl, hb2⟩)
          rw [HRR.out, e0]
          exact ⟨_, _, rfl, rfl, fun h => absurd h (by decide), HB1.out.trans (hb2.mono (by omega))⟩
        have h16i : ¬ (16 : Int) ≤ (ts.length : Int) := by omega
        have e0 : tableF ts [a.data.toList, b.data.toList, c.data.toList] = (ts ++ [⟨b, c, []⟩], 0) := by rw [table3]; rw [if_neg (by rintro (h | h); exact Bool.noConfusion (hb1.symm.trans h); exact Bool.noConfusion (hc1.symm.trans h))]; rw [if_neg hfn, if_neg h16]
        have hxl : xs.length ≤ ts.length := Nat.le_of_eq HT1.out.len
        go_upto_region 12 with (go_at_call 74; refine HFI.out.mono ?_; rintro e w2 ⟨rfl, hb2⟩)
        have HT2 := Lib.hid (HT1.out.below hb2 (Nat.le_refl _))
        have HB2 := Lib.hid (HB1.out.trans (hb2.mono (by omega)))
        have HX2 : Hid (w2.heap[g]? = some (.cells #[.string b, .string c, .slice none 0 0] 46)) := by show _ = _; rw [hb2.block g (by omega)]; exact HX1.out
        clear hb2 HT1 HB1 HX1 p0 p1 HFI HRD
        have hz2 := HB2.out.size
        have HT3 := Lib.hid (HT2.out.keep (w' := w2.alloc (.cells #[.string b, .string c, .slice none 0 0] 46)) (by simp) (fun k hk => Below.heap_alloc w2 _ k hk))
        have hgz : w.heap.size ≤ w2.heap.size := hz2
        have HOW : Hid ((w2.alloc (.cells #[.string b, .string c, .slice none 0 0] 46)).ownsRow B 46 3 (.slice Av ts.length cv) xs.length (xs.flatMap tbC)) := HT3.out.own
        clear HFA hfn
        go_wp2_with (first
          | (refine wpList_load_row rfl 46 (.tmp 6) rfl (g) rfl 46 #[.string b, .string c, .slice none 0 0] (0, 0) _ HX2.out Tryd.underlying46 rfl (by rw [table_size]; rfl) ?_)
          | (at_builtin; refine wpList_appAt rfl (.tmp 52) (.tmp 54) 39 46 rfl Tryd.underlying39 _ tbC 3 56 table_info rfl (by decide) tbC_len tbC_one B (.slice Av ts.length cv) xs rfl HOW.out (.slice (some ⟨w2.heap.size, 0, none⟩) 1 1) [⟨b, c, ⟨none, 0, 0⟩⟩] rfl (rdE_one_at tbC 3 tbC_len w2 _ rfl ⟨b, c, ⟨none, 0, 0⟩⟩ 46) (by simp only [List.length_singleton]; omega) (by decide) (by simp; omega) ?_; intro v9 w9 hown9 hbel9 hgrow9 hat9))
        rw [HRR.out, e0]
        exact ⟨_, _, rfl, rfl, fun _ => ⟨_, _, _, HT3.out.push b c hown9 hgrow9 hat9⟩, hbel9 B w (Nat.le_refl _) (HB2.out.alloc (by omega) _)⟩

end Go.Proofs.YtpboaadjbkaidaaDoor

namespace Go.Proofs.YtpboaadjbkaidaaDoor
set_option maxRecDepth 100000
open Go.RowKit

theorem rule_info : (Tryd.prog.info? 30).map (fun i => (i.zero, i.size, i.bytes)) = some (some (.agg #[.bool false, .slice none 0 0, .slice none 0 0]), 3, 56) := by kernel_rfl
theorem box3 {w : World} {b : Nat} {v0 v1 v2 : Value} {t : TypeId} (h : w.heap[b]? = some (.cells #[v0, v1, v2] t)) :
    w.cell? ⟨b, 0, none⟩ = some v0 ∧ w.cell? ⟨b, 1, none⟩ = some v1 ∧ w.cell? ⟨b, 2, none⟩ = some v2 ∧ w.frozen? ⟨b, 0, none⟩ = false ∧ w.frozen? ⟨b, 1, none⟩ = false ∧ w.frozen? ⟨b, 2, none⟩ = false :=
  ⟨by rw [cell_of_row _ _ 0 _ _ _ h]; rfl, by rw [cell_of_row _ _ 1 _ _ _ h]; rfl, by rw [cell_of_row _ _ 2 _ _ _ h]; rfl, frozen_of_row w b 0 _ _ h, frozen_of_row w b 1 _ _ h, frozen_of_row w b 2 _ _ h⟩
theorem set_row1 {w : World} {b : Nat} {cs : Array Value} {t : TypeId} (h : w.heap[b]? = some (.cells cs t)) (j : Nat) (u : Value) : (w.setCell ⟨b, j, none⟩ u).heap[b]? = some (.cells (cs.setIfInBounds j u) t) :=
  heap_setCell_same w b j _ _ _ h
theorem rule3 (ts : List Tb) (a b c : ByteArray) (h : ts ≠ []) : ruleF ts [a.data.toList, b.data.toList, c.data.toList] = if (sideF b.data.toList).2 ≠ 0 then ([], (sideF b.data.toList).2) else if (sideF c.data.toList).2 ≠ 0 then ([], (sideF c.data.toList).2) else if 32 ≤ ((ts.getLast?.map (·.rs)).getD []).length then ([], 3) else (addLast ts ⟨a.data.toList == wBreak, (sideF b.data.toList).1, (sideF c.data.toList).1⟩, 0) := by
  unfold ruleF
  rw [if_neg (by simp), if_neg h]
  rfl

set_option maxRecDepth 100000 in
set_option maxHeartbeats 8000000 in
theorem addRule_any (B : Nat) (w : World) (v wv : Value) (ts : List Tb) (xs : List TbV) (rv : Sl) (ys : List RuV) (ws : List ByteArray) (ht : TS 46 30 B w v ts xs rv ys) (hw : RdE strC 1 w wv ws) (hB : B ≤ w.heap.size) (hl : ts.length ≤ 16) (hws : ∀ s ∈ ws, s.size ≤ 2147483648) :
    Calls Tryd.prog 88 #[v, wv] w (RetTab B w (ruleF ts (ws.map fun s => s.data.toList))) := by
  obtain ⟨R, HRR⟩ : ∃ R, Hid (R = RetTab B w (ruleF ts (ws.map fun s => s.data.toList))) := ⟨_, rfl⟩
  rw [← HRR.out]
  have HT := Lib.hid ht
  obtain ⟨Aw, cw, rfl, hlw, _⟩ := hw.shape
  obtain ⟨Av, cv, hv⟩ := ht.rd.shape
  by_cases h3 : ws.length ≠ 3
  · have t2 : ((ws.length : Int) != 3) = true := bne_iff_ne.2 (by omega)
    have e0 : ruleF ts (ws.map fun s => s.data.toList) = ([], 2) := by unfold ruleF; rw [List.length_map, if_pos h3]
    subst hv
    go_enter Tryd.func88, Tryd.ntmps88
    go_wp2_with fail
    rw [HRR.out, e0]
    exact ⟨_, _, rfl, rfl, fun h => absurd h (by decide), Below.refl _ _⟩
  obtain ⟨bb, o, rfl, hbl, hcell⟩ := hw.cells (by omega)
  obtain ⟨a, b, c, rfl⟩ : ∃ a b c, ws = [a, b, c] := by
    match ws, (show ws.length = 3 by omega) with
    | [a, b, c], _ => exact ⟨a, b, c, rfl⟩
  clear h3
  change Hid (R = RetTab B w (ruleF ts [a.data.toList, b.data.toList, c.data.toList])) at HRR
  by_cases h0 : ts.length = 0
  · obtain rfl : ts = [] := List.eq_nil_of_length_eq_zero h0
    have e0 : ruleF [] [a.data.toList, b.data.toList, c.data.toList] = ([], 8) := rfl
    subst hv
    go_enter Tryd.func88, Tryd.ntmps88
    go_wp2_with fail
    rw [HRR.out, e0]
    exact ⟨_, _, rfl, rfl, fun h => absurd h (by decide), Below.refl _ _⟩
  obtain ⟨n, hn⟩ : ∃ n, ts.length = n + 1 := ⟨ts.length - 1, by omega⟩
  obtain ⟨gT, cT, hvT, hBT⟩ := own_some ht.own (by rw [ht.len]; omega)
  rw [ht.len, hn] at hvT
  rw [hv] at hvT
  have q0 := hcell 0 a 0 (.string a) rfl rfl
  rw [show o + (0 * 1 + 0) = o by omega] at q0
  have q1 := hcell 1 b 0 (.string b) rfl rfl
  rw [show o + (1 * 1 + 0) = o + 1 by omega] at q1
  have q2 := hcell 2 c 0 (.string c) rfl rfl
  rw [show o + (2 * 1 + 0) = o + 2 by omega] at q2
  clear hcell
  obtain ⟨bk, hbk⟩ : ∃ bk, (a.toList == [98, 114, 101, 97, 107]) = bk := ⟨_, rfl⟩
  have hbk2 : Hid (bk = (a.data.toList == wBreak)) := by show _ = _; rw [← hbk, toList_eq_data]; rfl
  have HS1 := Lib.hid (fun w => side_any b w (hws b (by simp)))
  have HS2 := Lib.hid (fun w => side_any c w (hws c (by simp)))
  have HE : Hid (ruleF ts [a.data.toList, b.data.toList, c.data.toList] = if (sideF b.data.toList).2 ≠ 0 then ([], (sideF b.data.toList).2) else if (sideF c.data.toList).2 ≠ 0 then ([], (sideF c.data.toList).2) else if 32 ≤ ((ts.getLast?.map (·.rs)).getD []).length then ([], 3) else (addLast ts ⟨bk, (sideF b.data.toList).1, (sideF c.data.toList).1⟩, 0)) := by
    show _ = _
    rw [hbk2.out]
    exact rule3 ts a b c (fun e => h0 (by rw [e]; rfl))
  generalize ruleF ts [a.data.toList, b.data.toList, c.data.toList] = rr at HE HRR
  generalize hs1 : sideF b.data.toList = s1 at HE
  generalize hs2 : sideF c.data.toList = s2 at HE
  obtain ⟨p1, x1⟩ := s1
  obtain ⟨p2, x2⟩ := s2
  unfold RetSide at HS1 HS2
  rw [hs1] at HS1
  rw [hs2] at HS2
  simp only at HS1 HS2 HE
  clear hs1 hs2 hbk2
  rw [hn] at hv
  have hAT : Av = some ⟨gT, 0, none⟩ ∧ cv = cT := by injection hvT with e1 _ e2; exact ⟨e1, e2⟩
  obtain ⟨rfl, rfl⟩ := hAT
  clear hvT
  obtain ⟨w1, hw1⟩ : ∃ w1, w1 = w.alloc (.cells #[.bool bk, (.slice none 0 0), (.slice none 0 0)] 30) := ⟨_, rfl⟩
  have hgT : gT < w.heap.size := (ht.own.lt gT (by rw [hv]; rfl)).2
  subst hv
  go_enter Tryd.func88, Tryd.ntmps88
  have hb1 : bb < (w.alloc (.cells #[.bool bk, (.slice none 0 0), (.slice none 0 0)] 30)).heap.size := by simp; omega
  go_upto_region 7 with fail
  rw [← hw1]
  have hz1 : w1.heap.size = w.heap.size + 1 := by rw [hw1]; simp
  have HX1 : Hid (w1.heap[w.heap.size]? = some (.cells #[.bool bk, (.slice none 0 0), (.slice none 0 0)] 30)) := by show _ = _; rw [hw1]; exact heap_alloc_new w _
  have HB1 : Hid (Below w.heap.size w w1) := by show Below _ _ _; rw [hw1]; exact (Below.refl _ w).alloc (Nat.le_refl _) _
  have r1 : w1.cell? ⟨bb, o + 1, none⟩ = some (.string b) := (HB1.out.cell (p := ⟨bb, o + 1, none⟩) hbl).trans q1
  clear hw1 q0 q1 hb1 hbk
  generalize hg : w.heap.size = g at hz1 HX1 ⊢
  go_wp2_with fail
  refine (HS1.out _).mono ?_
  rintro e w2 ⟨v1, y1, rfl, hy1, ho1, hb2⟩
  subst hy1
  obtain ⟨A1, c1, hv1⟩ := own_shape ho1
  subst hv1
  have HX2 : Hid (w2.heap[g]? = some (.cells #[.bool bk, (.slice none 0 0), (.slice none 0 0)] 30)) := by (show _ = _; rw [hb2.block g (by omega)]; exact HX1.out)
  obtain ⟨z0, z1, z2, y0, y3, y2⟩ := box3 HX2.out
  go_upto_region 8 with fail
  have hz2 := hb2.size
  have HX3 : Hid ((w2.setCell ⟨g, 1, none⟩ (.slice A1 p1.length c1)).heap[g]? = some (.cells #[.bool bk, (.slice A1 p1.length c1), (.slice none 0 0)] 30)) := set_row1 HX2.out 1 _
  have HO3 : Hid (OwnE 26 atC 34 (w2.setCell ⟨g, 1, none⟩ (.slice A1 p1.length c1)) w1.heap.size (.slice A1 p1.length c1) p1) := own_setAt (g := g) ho1 (fun k hk e => by have := (World.ownsRow.lt ho1 k hk).1; omega) _ _
  have HB3 : Hid (Below w.heap.size w (w2.setCell ⟨g, 1, none⟩ (.slice A1 p1.length c1))) := (HB1.out.trans (hb2.mono (by omega))).setCell (p := ⟨g, 1, none⟩) (show w.heap.size ≤ g by omega) _
  have hz3 : w1.heap.size ≤ (w2.setCell ⟨g, 1, none⟩ (.slice A1 p1.length c1)).heap.size := by simpa [World.setCell] using hz2
  clear HX2 ho1 hb2 z0 z1 z2 y0 y2 y3 r1 hz2
  generalize w2.setCell ⟨g, 1, none⟩ (.slice A1 p1.length c1) = w3 at HX3 HO3 HB3 hz3 ⊢
  have r2 : w3.cell? ⟨bb, o + 2, none⟩ = some (.string c) := (HB3.out.cell (p := ⟨bb, o + 2, none⟩) hbl).trans q2
  clear q2
  by_cases hx1 : y1 ≠ 0
  · have t1 : (y1 != 0) = true := bne_iff_ne.2 hx1
    go_wp2_with fail
    rw [HRR.out, HE.out, if_pos hx1]
    exact ⟨_, _, rfl, rfl, fun h => absurd h hx1, HB3.out.mono hB⟩
  have t1 : (y1 != 0) = false := by simpa using hx1
  go_wp2_with fail
  refine (HS2.out _).mono ?_
  rintro e w4 ⟨v2, y2, rfl, hy2, ho2, hb4⟩
  subst hy2
  obtain ⟨A2, c2, hv2⟩ := own_shape ho2
  subst hv2
  have HX4 : Hid (w4.heap[g]? = some (.cells #[.bool bk, (.slice A1 p1.length c1), (.slice none 0 0)] 30)) := by (show _ = _; rw [hb4.block g (by omega)]; exact HX3.out)
  obtain ⟨z0, z1, z2, y0, y3, y4⟩ := box3 HX4.out
  go_upto_region 11 with fail
  have hz4 := hb4.size
  have HX5 : Hid ((w4.setCell ⟨g, 2, none⟩ (.slice A2 p2.length c2)).heap[g]? = some (.cells #[.bool bk, (.slice A1 p1.length c1), (.slice A2 p2.length c2)] 30)) := set_row1 HX4.out 2 _
  have HO5 : Hid (OwnE 26 atC 34 (w4.setCell ⟨g, 2, none⟩ (.slice A2 p2.length c2)) w1.heap.size (.slice A1 p1.length c1) p1) := own_setAt (g := g) (own_below HO3.out hb4 (Nat.le_refl _)) (fun k hk e => by have := (World.ownsRow.lt HO3.out k hk).1; omega) _ _
  have HP5 : Hid (OwnE 26 atC 34 (w4.setCell ⟨g, 2, none⟩ (.slice A2 p2.length c2)) w3.heap.size (.slice A2 p2.length c2) p2) := own_setAt (g := g) ho2 (fun k hk e => by have := (World.ownsRow.lt ho2 k hk).1; omega) _ _
  have HB5 : Hid (Below w.heap.size w (w4.setCell ⟨g, 2, none⟩ (.slice A2 p2.length c2))) := (HB3.out.trans (hb4.mono (by omega))).setCell (p := ⟨g, 2, none⟩) (show w.heap.size ≤ g by omega) _
  clear HX4 ho2 hb4 z0 z1 z2 y0 y3 y4 r2 HX3 HO3 HB3
  generalize w4.setCell ⟨g, 2, none⟩ (.slice A2 p2.length c2) = w5 at HX5 HO5 HP5 HB5 ⊢
  by_cases hx2 : y2 ≠ 0
  · have t2 : (y2 != 0) = true := bne_iff_ne.2 hx2
    go_wp2_with fail
    rw [HRR.out, HE.out, if_neg hx1, if_pos hx2]
    exact ⟨_, _, rfl, rfl, fun h => absurd h hx2, HB5.out.mono hB⟩
  have t2 : (y2 != 0) = false := by simpa using hx2
  obtain ⟨z0, z1, z2, _, _, _⟩ := box3 HX5.out
  have HT5 := Lib.hid (HT.out.below HB5.out (Nat.le_refl _))
  obtain ⟨rA, rn, rc⟩ := rv
  obtain ⟨Ar, cr, hr⟩ := own_shape HT5.out.rown
  have hrn : rn = ys.length := by unfold Sl.v at hr; injection hr
  subst hrn
  have hxn : n < xs.length := by have := HT.out.len; omega
  have htn : n < ts.length := by omega
  have hxg : xs[n]? = some xs[n] := List.getElem?_eq_getElem hxn
  have htg : ts[n]? = some ts[n] := List.getElem?_eq_getElem htn
  obtain ⟨hxr, hyl, _⟩ := HT5.out.last n _ _ hxg htg (by omega)
  have hlast : ((ts.getLast?.map (·.rs)).getD []).length = ys.length := by
    rw [List.getLast?_eq_getElem?, hn, show n + 1 - 1 = n by omega, htg, hyl]
    rfl
  rw [hlast, if_neg hx1, if_neg hx2] at HE
  clear hyl hlast
  have HQ : Hid (w5.cell? ⟨gT, n * 3 + 2, none⟩ = some (.slice rA ys.length rc)) := by
    show _ = _
    have h := HT5.out.own
    unfold OwnE at h
    have hxl : xs.length = n + 1 := by rw [HT.out.len, hn]
    rw [hxl] at h
    rw [h.cellAt (n * 3 + 2) (by omega), flat_get tbC 3 tbC_len xs n 2 _ hxg (by omega)]
    show some xs[n].r.v = _
    rw [hxr]
    rfl
  have HF : Hid (w5.frozen? ⟨gT, n * 3 + 2, none⟩ = false) := by
    have h := HT5.out.own
    unfold OwnE at h
    have hxl : xs.length = n + 1 := by rw [HT.out.len, hn]
    rw [hxl] at h
    exact h.frozenAt (n * 3 + 2)
  have qT := HQ.out
  have hT5 : gT < w5.heap.size := Nat.lt_of_lt_of_le hgT HB5.out.size
  have hn0 : (0 : Int) ≤ (n : Int) := by omega
  by_cases h32 : 32 ≤ ys.length
  · have h32i : (32 : Int) ≤ (ys.length : Int) := by omega
    go_wp2_with fail
    rw [HRR.out, HE.out, if_pos h32]
    exact ⟨_, _, rfl, rfl, fun h => absurd h (by decide), HB5.out.mono hB⟩
  have h32i : ¬ (32 : Int) ≤ (ys.length : Int) := by omega
  rw [if_neg h32] at HE
  have hTR : (Value.slice rA ys.length rc).ownBlock ≠ some gT := HT.out.apart gT rfl
  have HT6 := Lib.hid (HT5.out.keep (w' := w5.drew.alloc (.cells (ruC ⟨bk, ⟨A1, p1.length, c1⟩, ⟨A2, p2.length, c2⟩⟩).toArray 30)) (by simp) (fun k hk => Below.heap_alloc w5 _ k hk))
  have HOR : Hid ((w5.drew.alloc (.cells (ruC ⟨bk, ⟨A1, p1.length, c1⟩, ⟨A2, p2.length, c2⟩⟩).toArray 30)).ownsRow B 30 3 (.slice rA ys.length rc) ys.length (ys.flatMap ruC)) := HT6.out.rown
  have hb6 : (w5.drew.alloc (.cells (ruC ⟨bk, ⟨A1, p1.length, c1⟩, ⟨A2, p2.length, c2⟩⟩).toArray 30)).heap[gT]? = w5.heap[gT]? := Below.heap_alloc w5 _ gT hT5
  have HQT : Hid ((w5.drew.alloc (.cells (ruC ⟨bk, ⟨A1, p1.length, c1⟩, ⟨A2, p2.length, c2⟩⟩).toArray 30)).cell? ⟨gT, n * 3 + 2, none⟩ = some (.slice rA ys.length rc)) := (World.cell?_of_block (w := w5) hb6).trans HQ.out
  have HFT : Hid ((w5.drew.alloc (.cells (ruC ⟨bk, ⟨A1, p1.length, c1⟩, ⟨A2, p2.length, c2⟩⟩).toArray 30)).frozen? ⟨gT, n * 3 + 2, none⟩ = false) := (World.frozen?_of_block (w := w5) hb6).trans HF.out
  have HK5 : Hid (Keep (blkL (.slice (some ⟨gT, 0, none⟩) (n + 1) cv) ++ blkL (Sl.v ⟨rA, ys.length, rc⟩)) w5 fun u => RdE atC 34 u (.slice A1 p1.length c1) p1 ∧ RdE atC 34 u (.slice A2 p2.length c2) p2) := by
    have hX : ∀ b ∈ blkL (.slice (some ⟨gT, 0, none⟩) (n + 1) cv) ++ blkL (Sl.v ⟨rA, ys.length, rc⟩), b < w.heap.size := fun b hb => by
      rcases List.mem_append.1 hb with hb | hb
      · have e : gT = b := by simpa [Value.ownBlock] using mem_blkL.1 hb
        omega
      · exact (World.ownsRow.lt HT.out.rown b (mem_blkL.1 hb)).2
    exact (OwnE.keepX atC_len HO5.out (fun b hb => .inl (by have := hX b hb; omega))).and (OwnE.keepX atC_len HP5.out (fun b hb => .inl (by have := hX b hb; omega)))
  have HK6 := Lib.hid (HK5.out.step (w' := w5.drew.alloc (.cells (ruC ⟨bk, ⟨A1, p1.length, c1⟩, ⟨A2, p2.length, c2⟩⟩).toArray 30)) (by simp) (fun b hb hX => ⟨Below.heap_alloc w5 _ b hb, hX⟩))
  have HB6 : Hid (Below B w (w5.drew.alloc (.cells (ruC ⟨bk, ⟨A1, p1.length, c1⟩, ⟨A2, p2.length, c2⟩⟩).toArray 30))) := ((HB5.out.mono hB).drew).alloc (Nat.le_trans hB HB5.out.size) _
  clear HK5
  go_upto_region 16 with fail
  go_region_law (first
    | (refine step_appE rfl (.tmp 57) (.tmp 59) 31 30 rfl Tryd.underlying31 _ ruC 3 56 rule_info rfl (by decide) ruC_len ruC_one B (.slice rA ys.length rc) ys (by simp [Act.eval, Act.put]) (by exact HOR.out) (.slice (some ⟨w5.heap.size, 0, none⟩) 1 1) [⟨bk, ⟨A1, p1.length, c1⟩, ⟨A2, p2.length, c2⟩⟩] (by simp [Act.eval, Act.put]) (by exact rdE_one_at ruC 3 ruC_len w5.drew _ rfl ⟨bk, ⟨A1, p1.length, c1⟩, ⟨A2, p2.length, c2⟩⟩ 30) (by simp only [List.length_singleton]; omega) (by decide) (by simp; omega) ?_
       intro v7 w7 hown7 hbel7 hgr7 hat7
       obtain ⟨A7, c7, hv7⟩ := own_shape hown7
       subst hv7
       have hb7 : w7.heap[gT]? = (w5.drew.alloc (.cells (ruC ⟨bk, ⟨A1, p1.length, c1⟩, ⟨A2, p2.length, c2⟩⟩).toArray 30)).heap[gT]? := hgr7.block gT (by simp; omega) (by intro e; exact hTR e.symm)
       have f1 : w7.cell? ⟨gT, n * 3 + 2, none⟩ = some (.slice rA ys.length rc) := (World.cell?_of_block (w := w5.drew.alloc (.cells (ruC ⟨bk, ⟨A1, p1.length, c1⟩, ⟨A2, p2.length, c2⟩⟩).toArray 30)) hb7).trans HQT.out
       have f2 : w7.frozen? ⟨gT, n * 3 + 2, none⟩ = false := (World.frozen?_of_block (w := w5.drew.alloc (.cells (ruC ⟨bk, ⟨A1, p1.length, c1⟩, ⟨A2, p2.length, c2⟩⟩).toArray 30)) hb7).trans HFT.out
       have HN7 := Lib.hid hown7
       have HL7 := Lib.hid hbel7
       have HG7 := Lib.hid hgr7
       have HA7 := Lib.hid hat7
       clear hown7 hbel7 hgr7 hat7 hb7))
  all_goals (go_wp2_with fail)
  all_goals
    rw [HRR.out, HE.out]
    have h7 : OwnE 30 ruC 3 w7 B (Sl.v ⟨A7, ys.length + 1, c7⟩) (ys ++ [⟨bk, ⟨A1, p1.length, c1⟩, ⟨A2, p2.length, c2⟩⟩]) := by
      have h := HN7.out
      have e : (ys ++ [(⟨bk, ⟨A1, p1.length, c1⟩, ⟨A2, p2.length, c2⟩⟩ : RuV)]).length = ys.length + 1 := by simp
      unfold OwnE Sl.v
      rw [e] at h ⊢
      exact h
    have h8 : (Sl.v ⟨A7, ys.length + 1, c7⟩).ownBlock = (Sl.v ⟨rA, ys.length, rc⟩).ownBlock ∨ (Sl.v ⟨A7, ys.length + 1, c7⟩).ownBlock = some (w5.drew.alloc (.cells (ruC ⟨bk, ⟨A1, p1.length, c1⟩, ⟨A2, p2.length, c2⟩⟩).toArray 30)).heap.size := by
      have h := HA7.out
      have e : (ys ++ [(⟨bk, ⟨A1, p1.length, c1⟩, ⟨A2, p2.length, c2⟩⟩ : RuV)]).length = ys.length + 1 := by simp
      rw [e] at h
      exact h
    exact ⟨_, _, rfl, rfl, fun _ => ⟨_, _, _, TS.rule HT6.out n hn gT cv rfl xs[n] hxg ⟨bk, p1, p2⟩ ⟨bk, ⟨A1, p1.length, c1⟩, ⟨A2, p2.length, c2⟩⟩ rfl HK6.out (rv' := ⟨A7, ys.length + 1, c7⟩) h7 HG7.out h8⟩, (HL7.out B w (Nat.le_refl _) HB6.out).setCell (p := ⟨gT, n * 3 + 2, none⟩) hBT _⟩

end Go.Proofs.YtpboaadjbkaidaaDoor

namespace Go.Proofs.YtpboaadjbkaidaaDoor
set_option maxRecDepth 100000
open Go.RowKit

theorem RS.but {eR : TypeId} {g B : Nat} {w w' : World} {v : Value} {rs : List Ru} {ys : List RuV} (h : RS eR [g] B w v rs ys) (hb : But g w w') : RS eR [g] B w' v rs ys :=
  h.keep hb.size fun b hlt hX => hb.block b hlt (fun e => hX (by rw [e]; exact List.mem_singleton.2 rfl))
theorem RS.alloc {eR : TypeId} {X : List Nat} {B : Nat} {w : World} {v : Value} {rs : List Ru} {ys : List RuV} (h : RS eR X B w v rs ys) (o : Obj) : RS eR X B (w.alloc o) v rs ys :=
  h.keep (by simp) fun b hlt _ => Below.heap_alloc w o b hlt
/-- A call that makes rules out of numbers. -/
def RulesRetM (L : List Int) (g : Nat) (r : List Ru × Nat) (w : World) (e : Ending) (w' : World) : Prop :=
  ∃ v, e = .returned v ∧ RdRu w' v r.1 ∧ But g w w' ∧ Nums w' g L r.2

set_option maxRecDepth 100000 in
set_option maxHeartbeats 4000000 in
theorem rulesM_any (L : List Int) (g N n : Nat) (w : World) (hnum : Nums w g L N) (hN : N ≤ 100000) (hn : n ≤ 100) :
    Calls Tryd.prog 64 #[.pointer (some ⟨g, 0, none⟩), .int .i64 n] w (RulesRetM L g (rulesM L N n) w) := by
  obtain ⟨R, HRR⟩ : ∃ R, Hid (R = RulesRetM L g (rulesM L N n) w) := ⟨_, rfl⟩
  rw [← HRR.out]
  obtain ⟨TT, HTT⟩ : ∃ TT, Hid (rulesGo L (nextN L N ((n : Int) + 1)).toNat (N + 1) [] = TT) := ⟨_, rfl⟩
  have HTR : Hid (R = RulesRetM L g TT w) := by
    show _ = _
    rw [HRR.out, ← HTT.out]
    rfl
  clear HRR
  have hg0 := hnum.lt
  have hz := nextN_bd L N (n + 1) (by omega)
  have HNU := Lib.hid hnum
  clear hnum
  go_enter Tryd.func64, Tryd.ntmps64
  go_upto_region 3 with (go_at_call 63; refine (next_any' L g N ((n : Int) + 1) _ (by exact HNU.out) (by omega) (by omega) (by omega)).mono ?_; rintro e w1 ⟨rfl, hb1, hn1⟩)
  generalize nextN L N ((n : Int) + 1) = z at hz hn1 HTT ⊢
  obtain ⟨z', rfl⟩ : ∃ z' : Nat, z = (z' : Int) := ⟨z.toNat, by omega⟩
  rw [Int.toNat_natCast] at HTT
  have HB1 := Lib.hid hb1
  have HN1 := Lib.hid hn1
  clear hb1 hn1 HNU
  go_loopg [5, 6] z' (fun m pv iv wr => ∃ (rs : List Ru) (ys : List RuV) (i M : Nat), iv = .int .i64 i ∧ Hid (RS 30 [g] w.heap.size wr pv rs ys) ∧ Hid (But g w wr) ∧ Hid (Nums wr g L M) ∧ rs.length + i ≤ n ∧ M + 43 * i ≤ N + 1 + 43 * n ∧ Hid (rulesGo L i M rs = TT) ∧ i ≤ m)
  case atStart => exact ⟨[], [], z', N + 1, rfl, RS.start (fun b hb => by rw [List.mem_singleton.1 hb]; exact hg0), HB1.out, HN1.out, by simp; omega, by omega, HTT.out, Nat.le_refl _⟩
  case round =>
    clear HB1 HN1 HTT
    obtain ⟨rs, ys, i, M, rfl, HO, HB, HNU, hpi, hM, HV, hgk⟩ := hrel
    by_cases hi0 : 0 < i
    · have hi0i : (0 : Int) < (i : Int) := by omega
      obtain ⟨A, cA, hpv⟩ := own_shape HO.out.own
      subst hpv
      have hlen := HO.out.len
      have hlen2 : ys.length + i ≤ n := by omega
      clear hlen
      have HV2 : Hid (rulesGo L (i - 1) (ruleN L M) (rs ++ [ruleM L M]) = TT) := by
        show _ = _
        rw [← HV.out]
        obtain ⟨i', rfl⟩ : ∃ i', i = i' + 1 := ⟨i - 1, by omega⟩
        rfl
      clear HV
      have hNN := ruleN_bd L M
      have HRU : Hid (ruleM L M = ⟨decide (0 < nextN L M 3), (atomsM L (M + 1) 2).1, (atomsM L (atomsM L (M + 1) 2).2 2).1⟩ ∧ ruleN L M = (atomsM L (atomsM L (M + 1) 2).2 2).2) := Lib.hid ⟨rfl, rfl⟩
      generalize ruleM L M = rm at HRU HV2
      generalize ruleN L M = rn at HRU HV2 hNN
      have hz1 := nextN_bd L M 3 (by decide)
      have HC1 := Lib.hid (fun w h => next_any' L g M 3 w h (by omega) (by decide) (by decide))
      have hba := atomsM_bd L (M + 1) 2 (by decide)
      have hM2 : (atomsM L (M + 1) 2).2 ≤ 1000000 := by
        have := hba.2.1
        have e : (2 : Int).toNat = 2 := rfl
        rw [e] at this
        omega
      have HC2 := Lib.hid (fun w h => atomsM_any L g (M + 1) 2 w h (by omega) (by decide))
      have HC3 := Lib.hid (fun w h => atomsM_any L g (atomsM L (M + 1) 2).2 2 w h hM2 (by decide))
      have hla := hba.1
      have hlb := (atomsM_bd L (atomsM L (M + 1) 2).2 2 (by decide)).1
      clear hba hM2
      change Hid (∀ w (h : Nums w g L (M + 1)), Calls _ _ _ w (AtomsRetM L g (atomsM L (M + 1) 2) w)) at HC2
      change Hid (∀ w (h : Nums w g L (atomsM L (M + 1) 2).2), Calls _ _ _ w (AtomsRetM L g (atomsM L (atomsM L (M + 1) 2).2 2) w)) at HC3
      generalize atomsM L (atomsM L (M + 1) 2).2 2 = s2 at HRU HC3 hlb
      generalize atomsM L (M + 1) 2 = s1 at HRU HC2 HC3 hla
      obtain ⟨p1, M1⟩ := s1
      obtain ⟨p2, M2⟩ := s2
      obtain ⟨rfl, hrn⟩ := HRU.out
      clear HRU
      simp only at hrn hla hlb HC3
      subst hrn
      generalize nextN L M 3 = z1 at hz1 HC1 HV2
      go_upto_region 4 with (first
        | (go_at_call 63; refine (HC1.out _ HNU.out).mono ?_; rintro e w2 ⟨rfl, hb2, hn2⟩)
        | (go_at_call 90; refine (HC2.out _ hn2).mono ?_; rintro e w3 ⟨v3, rfl, ho3, hb3, hn3⟩; obtain ⟨A3, c3, hv3⟩ := own_shape ho3; subst hv3)
        | (go_at_call 90; refine (HC3.out _ hn3).mono ?_; rintro e w4 ⟨v4, rfl, ho4, hb4, hn4⟩; obtain ⟨A4, c4, hv4⟩ := own_shape ho4; subst hv4; have HK5 := Lib.hid ((((HO.out.but hb2).but hb3).but hb4).alloc (.cells (ruC ⟨decide (0 < z1), ⟨A3, p1.length, c3⟩, ⟨A4, p2.length, c4⟩⟩).toArray 30)); have hws := hb4.size; have hbs := HB.out.size; have hw3 := hb3.size; have hw2 := hb2.size)
        | (refine wpList_appAt rfl (.tmp 15) (.tmp 24) 31 30 rfl Tryd.underlying31 _ ruC 3 56 rule_info rfl (by decide) ruC_len ruC_one w.heap.size (.slice A ys.length cA) ys rfl (HK5.out.own) (.slice (some ⟨w4.heap.size, 0, none⟩) 1 1) [⟨decide (0 < z1), ⟨A3, p1.length, c3⟩, ⟨A4, p2.length, c4⟩⟩] rfl (rdE_one_at ruC 3 ruC_len w4 _ rfl ⟨decide (0 < z1), ⟨A3, p1.length, c3⟩, ⟨A4, p2.length, c4⟩⟩ 30) (by simp only [List.length_singleton]; omega) (by decide) (by simp; omega) ?_; intro v7 w7 hown7 hbel7 hgr7 hat7))
      have HX : Hid (∀ b ∈ [g] ++ blkL (.slice A ys.length cA), b < wr.heap.size) := fun b hb => by
        rcases List.mem_append.1 hb with hb | hb
        · rw [List.mem_singleton.1 hb]; omega
        · exact (HO.out.own.lt b (mem_blkL.1 hb)).2
      have hk3 : Keep ([g] ++ blkL (.slice A ys.length cA)) w4 fun u => RdE atC 34 u (.slice A3 p1.length c3) p1 :=
        (OwnE.keepX atC_len ho3 (fun b hb => .inl (by have := HX.out b hb; omega))).step hb4.size fun b hlt hX => ⟨hb4.block b hlt (fun e => hX (by rw [e]; exact List.mem_append_left _ (List.mem_singleton.2 rfl))), hX⟩
      have hk4 : Keep ([g] ++ blkL (.slice A ys.length cA)) w4 fun u => RdE atC 34 u (.slice A4 p2.length c4) p2 :=
        OwnE.keepX atC_len ho4 (fun b hb => .inl (by have := HX.out b hb; omega))
      have hk5 := (hk3.and hk4).step (w' := w4.alloc (.cells (ruC ⟨decide (0 < z1), ⟨A3, p1.length, c3⟩, ⟨A4, p2.length, c4⟩⟩).toArray 30)) (by simp) (fun b hlt hX => ⟨Below.heap_alloc w4 _ b hlt, hX⟩)
      have HP7 : Hid (RS 30 [g] w.heap.size w7 v7 (rs ++ [⟨decide (0 < z1), p1, p2⟩]) (ys ++ [⟨decide (0 < z1), ⟨A3, p1.length, c3⟩, ⟨A4, p2.length, c4⟩⟩])) :=
        HK5.out.push (by simp; omega) ⟨decide (0 < z1), p1, p2⟩ ⟨decide (0 < z1), ⟨A3, p1.length, c3⟩, ⟨A4, p2.length, c4⟩⟩ rfl hk5 hown7 hgr7 hat7
      have hbn := hbel7 w.heap.size (w4.alloc (.cells (ruC ⟨decide (0 < z1), ⟨A3, p1.length, c3⟩, ⟨A4, p2.length, c4⟩⟩).toArray 30)) (Nat.le_refl _) (Below.refl _ _)
      have hbn2 := ((Below.refl w.heap.size w4).alloc (by omega) (.cells (ruC ⟨decide (0 < z1), ⟨A3, p1.length, c3⟩, ⟨A4, p2.length, c4⟩⟩).toArray 30)).trans hbn
      have HB7 : Hid (But g w w7) := (((HB.out.trans hb2).trans hb3).trans hb4).bel hbn2 (by omega)
      have HN7 : Hid (Nums w7 g L rn) := nums_keep hn4 hbn2 hg0
      obtain ⟨A7, c7, hv7⟩ := own_shape hown7
      subst hv7
      clear hown7 hbel7 hgr7 hat7 hbn hbn2 HK5 hk3 hk4 hk5 HX ho3 ho4 hb2 hb3 hb4 hn2 hn3 hn4 HB HNU HO HC1 HC2 HC3
      go_wp2_with fail
      go_roundg (i - 1)
      case measure => omega
      case rel => exact ⟨rs ++ [Ru.mk (decide (0 < z1)) p1 p2], ys ++ [RuV.mk (decide (0 < z1)) ⟨A3, p1.length, c3⟩ ⟨A4, p2.length, c4⟩], i - 1, rn, by (show Value.int .i64 _ = Value.int .i64 _); congr 1; omega, HP7.out, HB7.out, HN7.out, by simp; omega, by omega, HV2.out, by omega⟩
    · obtain rfl : i = 0 := by omega
      go_wp2_with fail
      have e : TT = (rs, M) := HV.out.symm
      rw [HTR.out, e]
      exact ⟨_, rfl, HO.out.rd, HB.out, HNU.out⟩

def RetRules (w : World) (rs : List Ru) (e : Ending) (w' : World) : Prop := ∃ v, e = .returned v ∧ RdRu w' v rs ∧ Below w.heap.size w w'

set_option maxRecDepth 100000 in
set_option maxHeartbeats 4000000 in
theorem rules6_any (A : Option Addr) (c : Nat) (l : List Int) (w : World) (h : RdE intC 1 w (.slice A l.length c) l) (hin : ∀ x ∈ l, IntIn x) :
    Calls Tryd.prog 27 #[.slice A l.length c] w (RetRules w (rulesM l 0 5).1) := by
  obtain ⟨R, HRR⟩ : ∃ R, Hid (R = RetRules w (rulesM l 0 5).1) := ⟨_, rfl⟩
  rw [← HRR.out]
  have hN : Nums (w.alloc (.cells #[.slice A l.length c, .int .i64 0] 62)) w.heap.size l 0 :=
    ⟨_, w, Array.getElem?_push_size, h, Nat.le_refl _, fun k hk => Below.heap_alloc _ _ _ hk, hin⟩
  have HF := Lib.hid (rulesM_any l w.heap.size 0 5 _ hN (by decide) (by decide))
  clear hN h hin
  go_enter Tryd.func27, Tryd.ntmps27
  go_wp2_with (go_at_call 64; refine HF.out.mono ?_; rintro e w1 ⟨v, rfl, hown, hb, _⟩)
  rw [HRR.out]
  exact ⟨v, rfl, hown, ((Below.refl w.heap.size w).alloc (Nat.le_refl _) _).trans (hb.below (Nat.le_refl _) (by simp))⟩

end Go.Proofs.YtpboaadjbkaidaaDoor

namespace Go.Proofs.YtpboaadjbkaidaaDoor
set_option maxRecDepth 100000
open Go.RowKit

def dotP : Nat → Bool := addP noP 46
def stopP : Nat → Bool := addP dotP 33
def spcP : Nat → Bool := addP noP 32
def sentR : Ru := ⟨true, [⟨stopP, 1, false⟩], [⟨spcP, 1, false⟩]⟩
theorem dot_byte : ∀ i, i < 32 → i ≠ 5 → byteOf dotP i = byteOf noP i := by decide
theorem stop_byte : ∀ i, i < 32 → i ≠ 4 → byteOf stopP i = byteOf dotP i := by decide
theorem spc_byte : ∀ i, i < 32 → i ≠ 4 → byteOf spcP i = byteOf noP i := by decide
theorem zero2S (w : World) : AtIn ((w.alloc (.cells (atE 0 false) 26)).alloc (.cells (atE 0 false) 26)) (w.heap.size + 1) ⟨noP, 0, false⟩ := by
  have h := at_zero (w.alloc (.cells (atE 0 false) 26))
  rw [show (w.alloc (.cells (atE 0 false) 26)).heap.size = w.heap.size + 1 from Array.size_push ..] at h
  exact h
theorem zero3S (w : World) : AtIn ((w.alloc (.cells (atE 0 false) 26)).alloc (.cells (atE 0 false) 26)) w.heap.size ⟨noP, 0, false⟩ :=
  (at_zero w).keep (Below.heap_alloc _ _ _ (by show w.heap.size < (w.heap.push _).size; rw [Array.size_push]; omega))

set_option maxRecDepth 100000 in
set_option maxHeartbeats 8000000 in
theorem sent_any (w : World) : Calls Tryd.prog 45 #[] w (RetRules w [sentR]) := by
  obtain ⟨R, HRR⟩ : ∃ R, Hid (R = RetRules w [sentR]) := ⟨_, rfl⟩
  rw [← HRR.out]
  have HS2 := Lib.hid (zero2S w)
  have HS1 := Lib.hid (zero3S w)
  have HB2 : Hid (Below w.heap.size w ((w.alloc (.cells #[.int .u8 0, .int .u8 0, .int .u8 0, .int .u8 0, .int .u8 0, .int .u8 0, .int .u8 0, .int .u8 0, .int .u8 0, .int .u8 0, .int .u8 0, .int .u8 0, .int .u8 0, .int .u8 0, .int .u8 0, .int .u8 0, .int .u8 0, .int .u8 0, .int .u8 0, .int .u8 0, .int .u8 0, .int .u8 0, .int .u8 0, .int .u8 0, .int .u8 0, .int .u8 0, .int .u8 0, .int .u8 0, .int .u8 0, .int .u8 0, .int .u8 0, .int .u8 0, .int .i64 0, .bool false] 26)).alloc (.cells #[.int .u8 0, .int .u8 0, .int .u8 0, .int .u8 0, .int .u8 0, .int .u8 0, .int .u8 0, .int .u8 0, .int .u8 0, .int .u8 0, .int .u8 0, .int .u8 0, .int .u8 0, .int .u8 0, .int .u8 0, .int .u8 0, .int .u8 0, .int .u8 0, .int .u8 0, .int .u8 0, .int .u8 0, .int .u8 0, .int .u8 0, .int .u8 0, .int .u8 0, .int .u8 0, .int .u8 0, .int .u8 0, .int .u8 0, .int .u8 0, .int .u8 0, .int .u8 0, .int .i64 0, .bool false] 26))) := Lib.hid (((Below.refl _ w).alloc (Nat.le_refl _) _).alloc (by rw [show (w.alloc (.cells #[.int .u8 0, .int .u8 0, .int .u8 0, .int .u8 0, .int .u8 0, .int .u8 0, .int .u8 0, .int .u8 0, .int .u8 0, .int .u8 0, .int .u8 0, .int .u8 0, .int .u8 0, .int .u8 0, .int .u8 0, .int .u8 0, .int .u8 0, .int .u8 0, .int .u8 0, .int .u8 0, .int .u8 0, .int .u8 0, .int .u8 0, .int .u8 0, .int .u8 0, .int .u8 0, .int .u8 0, .int .u8 0, .int .u8 0, .int .u8 0, .int .u8 0, .int .u8 0, .int .i64 0, .bool false] 26)).heap.size = w.heap.size + 1 from Array.size_push ..]; omega) _)
  change Hid (AtIn ((w.alloc (.cells #[.int .u8 0, .int .u8 0, .int .u8 0, .int .u8 0, .int .u8 0, .int .u8 0, .int .u8 0, .int .u8 0, .int .u8 0, .int .u8 0, .int .u8 0, .int .u8 0, .int .u8 0, .int .u8 0, .int .u8 0, .int .u8 0, .int .u8 0, .int .u8 0, .int .u8 0, .int .u8 0, .int .u8 0, .int .u8 0, .int .u8 0, .int .u8 0, .int .u8 0, .int .u8 0, .int .u8 0, .int .u8 0, .int .u8 0, .int .u8 0, .int .u8 0, .int .u8 0, .int .i64 0, .bool false] 26)).alloc (.cells #[.int .u8 0, .int .u8 0, .int .u8 0, .int .u8 0, .int .u8 0, .int .u8 0, .int .u8 0, .int .u8 0, .int .u8 0, .int .u8 0, .int .u8 0, .int .u8 0, .int .u8 0, .int .u8 0, .int .u8 0, .int .u8 0, .int .u8 0, .int .u8 0, .int .u8 0, .int .u8 0, .int .u8 0, .int .u8 0, .int .u8 0, .int .u8 0, .int .u8 0, .int .u8 0, .int .u8 0, .int .u8 0, .int .u8 0, .int .u8 0, .int .u8 0, .int .u8 0, .int .i64 0, .bool false] 26)) (w.heap.size + 1) ⟨noP, 0, false⟩) at HS2
  change Hid (AtIn ((w.alloc (.cells #[.int .u8 0, .int .u8 0, .int .u8 0, .int .u8 0, .int .u8 0, .int .u8 0, .int .u8 0, .int .u8 0, .int .u8 0, .int .u8 0, .int .u8 0, .int .u8 0, .int .u8 0, .int .u8 0, .int .u8 0, .int .u8 0, .int .u8 0, .int .u8 0, .int .u8 0, .int .u8 0, .int .u8 0, .int .u8 0, .int .u8 0, .int .u8 0, .int .u8 0, .int .u8 0, .int .u8 0, .int .u8 0, .int .u8 0, .int .u8 0, .int .u8 0, .int .u8 0, .int .i64 0, .bool false] 26)).alloc (.cells #[.int .u8 0, .int .u8 0, .int .u8 0, .int .u8 0, .int .u8 0, .int .u8 0, .int .u8 0, .int .u8 0, .int .u8 0, .int .u8 0, .int .u8 0, .int .u8 0, .int .u8 0, .int .u8 0, .int .u8 0, .int .u8 0, .int .u8 0, .int .u8 0, .int .u8 0, .int .u8 0, .int .u8 0, .int .u8 0, .int .u8 0, .int .u8 0, .int .u8 0, .int .u8 0, .int .u8 0, .int .u8 0, .int .u8 0, .int .u8 0, .int .u8 0, .int .u8 0, .int .i64 0, .bool false] 26)) w.heap.size ⟨noP, 0, false⟩) at HS1
  go_enter Tryd.func45, Tryd.ntmps45
  go_upto_region 2 with fail
  generalize ((w.alloc (.cells #[.int .u8 0, .int .u8 0, .int .u8 0, .int .u8 0, .int .u8 0, .int .u8 0, .int .u8 0, .int .u8 0, .int .u8 0, .int .u8 0, .int .u8 0, .int .u8 0, .int .u8 0, .int .u8 0, .int .u8 0, .int .u8 0, .int .u8 0, .int .u8 0, .int .u8 0, .int .u8 0, .int .u8 0, .int .u8 0, .int .u8 0, .int .u8 0, .int .u8 0, .int .u8 0, .int .u8 0, .int .u8 0, .int .u8 0, .int .u8 0, .int .u8 0, .int .u8 0, .int .i64 0, .bool false] 26)).alloc (.cells #[.int .u8 0, .int .u8 0, .int .u8 0, .int .u8 0, .int .u8 0, .int .u8 0, .int .u8 0, .int .u8 0, .int .u8 0, .int .u8 0, .int .u8 0, .int .u8 0, .int .u8 0, .int .u8 0, .int .u8 0, .int .u8 0, .int .u8 0, .int .u8 0, .int .u8 0, .int .u8 0, .int .u8 0, .int .u8 0, .int .u8 0, .int .u8 0, .int .u8 0, .int .u8 0, .int .u8 0, .int .u8 0, .int .u8 0, .int .u8 0, .int .u8 0, .int .u8 0, .int .i64 0, .bool false] 26)) = w2 at HS2 HS1 HB2 ⊢
  generalize hg1 : w.heap.size = g1 at HS2 HS1 HB2 ⊢
  have HG1 := Lib.hid hg1
  clear hg1
  obtain ⟨g2, hg2⟩ : ∃ g2, Hid (g1 + 1 = g2) := ⟨_, rfl⟩
  rw [hg2.out] at HS2 ⊢
  have hgg : g1 < g2 := by have := hg2.out; omega
  have q1 := HS1.out.mn
  have q2 := HS1.out.free 32
  have q3 := HS2.out.mn
  have q4 := HS2.out.free 32
  go_upto_region 3 with fail
  have HS3 : Hid (AtIn ((w2.setCell ⟨g1, 32, none⟩ (.int .i64 1)).setCell ⟨g2, 32, none⟩ (.int .i64 1)) g1 ⟨noP, 1, false⟩) := Lib.hid ((HS1.out.setMn 1).keep (heap_setCell_other _ _ _ _ (by show g1 ≠ g2; omega)))
  have HT3 : Hid (AtIn ((w2.setCell ⟨g1, 32, none⟩ (.int .i64 1)).setCell ⟨g2, 32, none⟩ (.int .i64 1)) g2 ⟨noP, 1, false⟩) := Lib.hid (AtIn.setMn (HS2.out.keep (heap_setCell_other _ _ _ _ (by show g2 ≠ g1; omega))) 1)
  have HB3 := Lib.hid ((HB2.out.setCell (p := ⟨g1, 32, none⟩) (Nat.le_refl _) (.int .i64 1)).setCell (p := ⟨g2, 32, none⟩) (by show _ ≤ g2; omega) (.int .i64 1))
  generalize (w2.setCell ⟨g1, 32, none⟩ (.int .i64 1)).setCell ⟨g2, 32, none⟩ (.int .i64 1) = w3 at HS3 HT3 HB3 ⊢
  clear q1 q2 q3 q4 HS1 HS2 HB2
  have q1 : w3.cell? ⟨g1, 5, none⟩ = some (.int .u8 0) := HS3.out.range 5 _ (by rfl)
  have q2 := HS3.out.free 5
  go_upto_region 4 with fail
  have HS4 : Hid (AtIn (w3.setCell ⟨g1, 5, none⟩ (.int .u8 (bits BinOp.or .u8 0 64))) g1 ⟨dotP, 1, false⟩) := Lib.hid (HS3.out.setSet dotP 5 (by decide) dot_byte)
  have HT4 : Hid (AtIn (w3.setCell ⟨g1, 5, none⟩ (.int .u8 (bits BinOp.or .u8 0 64))) g2 ⟨noP, 1, false⟩) := Lib.hid (HT3.out.keep (heap_setCell_other _ _ _ _ (by show g2 ≠ g1; omega)))
  have HB4 := Lib.hid (HB3.out.setCell (p := ⟨g1, 5, none⟩) (Nat.le_refl _) (.int .u8 (bits BinOp.or .u8 0 64)))
  generalize w3.setCell ⟨g1, 5, none⟩ (.int .u8 (bits BinOp.or .u8 0 64)) = w4 at HS4 HT4 HB4 ⊢
  clear q1 q2 HS3 HT3 HB3
  have q1 : w4.cell? ⟨g1, 4, none⟩ = some (.int .u8 0) := HS4.out.range 4 _ (by rfl)
  have q2 := HS4.out.free 4
  go_upto_region 5 with fail
  have HS5 : Hid (AtIn (w4.setCell ⟨g1, 4, none⟩ (.int .u8 (bits BinOp.or .u8 0 2))) g1 ⟨stopP, 1, false⟩) := Lib.hid (HS4.out.setSet stopP 4 (by decide) stop_byte)
  have HT5 : Hid (AtIn (w4.setCell ⟨g1, 4, none⟩ (.int .u8 (bits BinOp.or .u8 0 2))) g2 ⟨noP, 1, false⟩) := Lib.hid (HT4.out.keep (heap_setCell_other _ _ _ _ (by show g2 ≠ g1; omega)))
  have HB5 := Lib.hid (HB4.out.setCell (p := ⟨g1, 4, none⟩) (Nat.le_refl _) (.int .u8 (bits BinOp.or .u8 0 2)))
  generalize w4.setCell ⟨g1, 4, none⟩ (.int .u8 (bits BinOp.or .u8 0 2)) = w5 at HS5 HT5 HB5 ⊢
  clear q1 q2 HS4 HT4 HB4
  have q1 : w5.cell? ⟨g2, 4, none⟩ = some (.int .u8 0) := HT5.out.range 4 _ (by rfl)
  have q2 := HT5.out.free 4
  go_upto_region 6 with fail
  have HT6 : Hid (AtIn (w5.setCell ⟨g2, 4, none⟩ (.int .u8 (bits BinOp.or .u8 0 1))) g2 ⟨spcP, 1, false⟩) := Lib.hid (HT5.out.setSet spcP 4 (by decide) spc_byte)
  have HS6 : Hid (AtIn (w5.setCell ⟨g2, 4, none⟩ (.int .u8 (bits BinOp.or .u8 0 1))) g1 ⟨stopP, 1, false⟩) := Lib.hid (HS5.out.keep (heap_setCell_other _ _ _ _ (by show g1 ≠ g2; omega)))
  have HB6 := Lib.hid (HB5.out.setCell (p := ⟨g2, 4, none⟩) (by show _ ≤ g2; omega) (.int .u8 (bits BinOp.or .u8 0 1)))
  generalize w5.setCell ⟨g2, 4, none⟩ (.int .u8 (bits BinOp.or .u8 0 1)) = w6 at HS6 HT6 HB6 ⊢
  clear q1 q2 HS5 HT5 HB5
  obtain ⟨sa, hsa⟩ : ∃ sa : At, Hid (sa = ⟨stopP, 1, false⟩) := ⟨⟨stopP, 1, false⟩, rfl⟩
  obtain ⟨ta, hta⟩ : ∃ ta : At, Hid (ta = ⟨spcP, 1, false⟩) := ⟨⟨spcP, 1, false⟩, rfl⟩
  rw [← hsa.out] at HS6
  rw [← hta.out] at HT6
  have HT7 := Lib.hid (HT6.out.keep (Below.heap_alloc w6 (.cells (atC sa).toArray 26) g2 HT6.out.lt))
  have hb7 := (HB6.out.alloc (by have := HB6.out.size; have := HG1.out; omega) (.cells (atC sa).toArray 26))
  have hb8 := hb7.alloc (by have := hb7.size; have := HG1.out; omega) (.cells (atC ta).toArray 26)
  have e7 : (w6.alloc (.cells (atC sa).toArray 26)).heap.size = w6.heap.size + 1 := by simp
  have hr1 := ((rdE_oneR atC 34 atC_len w6 w6.heap.size rfl sa 26).alloc (.cells (atC ta).toArray 26))
  have hr2 := rdE_oneR atC 34 atC_len (w6.alloc (.cells (atC sa).toArray 26)) (w6.heap.size + 1) e7 ta 26
  have HR1 := Lib.hid hr1
  have HR2 := Lib.hid hr2
  have HB8 := Lib.hid hb8
  clear hr1 hr2 hb8 hb7 e7
  go_wp2_with (first
    | (refine wpList_load_row rfl 26 (.tmp 1) rfl g1 rfl 26 (atC sa).toArray (0, 0) _ HS6.out Tryd.underlying26 rfl (by rw [atom_size, atC_size]) ?_; refine wpList_buildOne rfl (.tmp 23) (by rfl) sa (by rfl) ?_)
    | (refine wpList_load_row rfl 26 (.tmp 2) rfl g2 rfl 26 (atC ta).toArray (0, 0) _ HT7.out Tryd.underlying26 rfl (by rw [atom_size, atC_size]) ?_; refine wpList_buildOne rfl (.tmp 25) (by rfl) ta (by rfl) ?_))
  rw [HRR.out]
  have e8 : ((w6.alloc (.cells (atC sa).toArray 26)).alloc (.cells (atC ta).toArray 26)).heap.size = w6.heap.size + 1 + 1 := by simp
  have hr3 := rdE_oneR ruC 3 ruC_len ((w6.alloc (.cells (atC sa).toArray 26)).alloc (.cells (atC ta).toArray 26)) (w6.heap.size + 1 + 1) e8 (RuV.mk true ⟨some ⟨w6.heap.size, 0, none⟩, 1, 1⟩ ⟨some ⟨w6.heap.size + 1, 0, none⟩, 1, 1⟩) 30
  refine ⟨.slice (some ⟨w6.heap.size + 1 + 1, 0, none⟩) 1 1, rfl, ⟨_, hr3, rfl, fun i x r hx hr => ?_⟩, ?_⟩
  · have hi : i = 0 := by have := (List.getElem?_eq_some_iff.1 hx).1; simpa using this
    subst hi
    obtain rfl := Option.some.inj hx
    obtain rfl := Option.some.inj hr
    refine ⟨rfl, ?_, ?_⟩
    · have h := HR1.out.alloc (.cells (ruC (RuV.mk true ⟨some ⟨w6.heap.size, 0, none⟩, 1, 1⟩ ⟨some ⟨w6.heap.size + 1, 0, none⟩, 1, 1⟩)).toArray 30)
      have e : sentR.bf = [sa] := by rw [hsa.out]; rfl
      show RdE atC 34 _ _ sentR.bf
      rw [e]
      exact h
    · have h := HR2.out.alloc (.cells (ruC (RuV.mk true ⟨some ⟨w6.heap.size, 0, none⟩, 1, 1⟩ ⟨some ⟨w6.heap.size + 1, 0, none⟩, 1, 1⟩)).toArray 30)
      have e : sentR.af = [ta] := by rw [hta.out]; rfl
      show RdE atC 34 _ _ sentR.af
      rw [e]
      exact h
  · rw [HG1.out]
    exact HB8.out.alloc (by have := HB8.out.size; have := HG1.out; omega) _

set_option maxRecDepth 100000 in
set_option maxHeartbeats 8000000 in
theorem sameRanges_any (l : List (Nat × Nat)) (va vb : Value) (w : World) (ha : RdE rangeC 2 w va l) (hb : RdE rangeC 2 w vb l) (hl : l.length ≤ 1000000) :
    Calls Tryd.prog 42 #[va, vb] w fun e w' => e = .returned (.bool true) ∧ Below w.heap.size w w' := by
  obtain ⟨A, c, rfl, hlc, _⟩ := ha.shape
  obtain ⟨A2, c2, rfl, hlc2, _⟩ := hb.shape
  have HA := Lib.hid ha
  have HB := Lib.hid hb
  clear ha hb
  go_enter Tryd.func42, Tryd.ntmps42
  go_wp2_with fail
  obtain ⟨wo, HWO⟩ : ∃ wo, Hid (wo = w) := ⟨w, rfl⟩
  go_loopg [13] l.length (fun gk kv wr => ∃ k : Nat, kv = .int .i64 k ∧ k ≤ l.length ∧ Hid (Below w.heap.size w wr) ∧ l.length - k ≤ gk)
  case atStart => exact ⟨0, rfl, by omega, Below.refl _ _, by omega⟩
  case round =>
    obtain ⟨k, rfl, hk, HW, hgk⟩ := hrel
    by_cases hkl : k < l.length
    · have hki : (k : Int) < (l.length : Int) := by omega
      have hk0 : (0 : Int) ≤ (k : Int) := by omega
      obtain ⟨b1, o1, rfl, hb1, hc1⟩ := HA.out.cells (by omega)
      obtain ⟨b2, o2, rfl, hb2, hc2⟩ := HB.out.cells (by omega)
      have hx := List.getElem?_eq_getElem hkl
      have q1 := (HW.out.cell (p := ⟨b1, o1 + (k * 2 + 0), none⟩) hb1).trans (hc1 k l[k] 0 _ hx rfl)
      have q2 := (HW.out.cell (p := ⟨b1, o1 + (k * 2 + 1), none⟩) hb1).trans (hc1 k l[k] 1 _ hx rfl)
      have p1 := (HW.out.cell (p := ⟨b2, o2 + (k * 2 + 0), none⟩) hb2).trans (hc2 k l[k] 0 _ hx rfl)
      have p2 := (HW.out.cell (p := ⟨b2, o2 + (k * 2 + 1), none⟩) hb2).trans (hc2 k l[k] 1 _ hx rfl)
      rw [show o1 + (k * 2 + 0) = o1 + k * 2 by omega] at q1
      rw [show o2 + (k * 2 + 0) = o2 + k * 2 by omega] at p1
      rw [show o1 + (k * 2 + 1) = o1 + k * 2 + 1 by omega] at q2
      rw [show o2 + (k * 2 + 1) = o2 + k * 2 + 1 by omega] at p2
      clear hc1 hc2 hx
      generalize l[k] = x at q1 q2 p1 p2
      obtain ⟨x, y⟩ := x
      simp only at q1 q2 p1 p2
      go_upto_region 6 with fail
      go_quiet (fail)
      go_wp2_with fail
      go_roundg (l.length - (k + 1))
      case measure => omega
      case rel => exact ⟨k + 1, by go_num, by omega, below_drewN HW.out _, Nat.le_refl _⟩
    · obtain rfl : k = l.length := by omega
      have hki : ¬ (l.length : Int) < (l.length : Int) := by omega
      go_wp2_with fail
      go_ret
      exact ⟨rfl, HW.out⟩

end Go.Proofs.YtpboaadjbkaidaaDoor

namespace Go.Proofs.YtpboaadjbkaidaaDoor
set_option maxRecDepth 100000
open Go.RowKit

theorem got_lt {w : World} {m : Int} (h : w.cell? ⟨0, 0, none⟩ = some (.int .i64 m)) : 0 < w.heap.size := by
  unfold World.cell? at h
  split at h
  · rename_i hh
    exact (Array.getElem?_eq_some_iff.1 hh).1
  · cases h
theorem wordsL_len (l : List UInt8) : ∀ w ∈ wordsL l, w.length ≤ l.length := by
  have : ∀ (l cur : List UInt8), ∀ w ∈ wordsA cur l, w.length ≤ cur.length + l.length := by
    intro l
    induction l with
    | nil =>
      intro cur w hw
      rw [wordsA] at hw
      split at hw
      · simp at hw
      · simp at hw; subst hw; simp
    | cons b l ih =>
      intro cur w hw
      rw [wordsA] at hw
      split at hw
      · rcases List.mem_append.1 hw with hw | hw
        · split at hw
          · simp at hw
          · simp at hw; subst hw; simp
        · have := ih [] w hw
          simp at this ⊢
          omega
      · have := ih _ w hw
        simp at this ⊢
        omega
  intro w hw
  have := this l [] w hw
  simpa using this
theorem line_len (ts : List Tb) (w : List (List UInt8)) (h : (lineF ts w).2 = 0) (hl : ts.length ≤ 16) : (lineF ts w).1.length ≤ 16 := by
  unfold lineF at h ⊢
  split at h
  · rename_i h1
    rw [if_pos h1]
    unfold tableF at h ⊢
    split at h
    · exact absurd h (by decide)
    · rename_i h2
      rw [if_neg h2]
      split at h
      · exact absurd h (by decide)
      · rename_i h3
        rw [if_neg h3]
        split at h
        · exact absurd h (by decide)
        · rename_i h4
          rw [if_neg h4]
          split at h
          · exact absurd h (by decide)
          · rename_i h5
            rw [if_neg h5]
            simp
            omega
  · rename_i h1
    rw [if_neg h1]
    split at h
    · rename_i h2
      rw [if_pos h2]
      unfold ruleF at h ⊢
      split at h
      · exact absurd h (by decide)
      · rename_i h3
        rw [if_neg h3]
        split at h
        · exact absurd h (by decide)
        · rename_i h4
          rw [if_neg h4]
          split at h
          · rename_i h5; exact absurd h h5
          · rename_i h5
            rw [if_neg h5]
            split at h
            · rename_i h6; exact absurd h h6
            · rename_i h6
              rw [if_neg h6]
              split at h
              · exact absurd h (by decide)
              · rename_i h7
                rw [if_neg h7, addLast_len]
                exact hl
    · exact absurd h (by decide)
/-- What a call gives that reads a rule file. -/
def RetTbs (w : World) (r : List Tb × Nat × Int) (e : Ending) (w' : World) : Prop := ∃ v, e = .returned (.tuple #[v, .int .i64 (r.2.1 : Nat), .int .i64 r.2.2]) ∧ RdTb w' v r.1 ∧ Below w.heap.size w w'

set_option maxRecDepth 100000 in
set_option maxHeartbeats 8000000 in
theorem addLine_any (B : Nat) (w : World) (v wv : Value) (ts : List Tb) (xs : List TbV) (rv : Sl) (ys : List RuV) (ws : List ByteArray) (ht : TS 46 30 B w v ts xs rv ys) (hw : RdE strC 1 w wv ws) (hB : B ≤ w.heap.size) (hl : ts.length ≤ 16) (hws : ∀ s ∈ ws, s.size ≤ 2147483648) (h0 : ws ≠ []) :
    Calls Tryd.prog 54 #[v, wv] w (RetTab B w (lineF ts (ws.map fun s => s.data.toList))) := by
  obtain ⟨R, HRR⟩ : ∃ R, Hid (R = RetTab B w (lineF ts (ws.map fun s => s.data.toList))) := ⟨_, rfl⟩
  rw [← HRR.out]
  have HTB := Lib.hid (addTable_any B w v wv ts xs rv ys ws ht hw hB hl hws)
  have HRU := Lib.hid (addRule_any B w v wv ts xs rv ys ws ht hw hB hl hws)
  obtain ⟨Av, cv, rfl⟩ := ht.rd.shape
  obtain ⟨Aw, cw, rfl, hlw, _⟩ := hw.shape
  obtain ⟨a, ws2, rfl⟩ : ∃ a ws2, ws = a :: ws2 := by
    match ws, h0 with
    | a :: l, _ => exact ⟨a, l, rfl⟩
  obtain ⟨bb, o, rfl, hbl, hcell⟩ := hw.cells (by simp)
  have q0 := hcell 0 a 0 (.string a) rfl rfl
  rw [show o + (0 * 1 + 0) = o by omega] at q0
  have hlp : (0 : Int) < ((a :: ws2).length : Int) := by (simp <;> omega)
  clear hcell ht hw h0 hws
  have e : lineF ts ((a :: ws2).map fun s => s.data.toList) = if a.data.toList = wTable then tableF ts ((a :: ws2).map fun s => s.data.toList) else if a.data.toList = wBreak ∨ a.data.toList = wKeep then ruleF ts ((a :: ws2).map fun s => s.data.toList) else ([], 2) := rfl
  generalize lineF ts ((a :: ws2).map fun s => s.data.toList) = rr at e HRR
  generalize tableF ts ((a :: ws2).map fun s => s.data.toList) = r1 at e HTB
  generalize ruleF ts ((a :: ws2).map fun s => s.data.toList) = r2 at e HRU
  generalize (a :: ws2).length = nw at hlp HTB HRU hlw ⊢
  unfold RetTab at HTB HRU
  by_cases ht1 : a.data.toList = wTable
  · have t1 : (a.toList == [116, 97, 98, 108, 101]) = true := by rw [toList_eq_data, ht1]; rfl
    have e0 : rr = r1 := by rw [e, if_pos ht1]
    clear e ht1
    go_enter Tryd.func54, Tryd.ntmps54
    go_wp2_with (go_at_call 87; refine HTB.out.mono ?_; rintro e w2 ⟨v2, x2, rfl, hx2, ht2, hb2⟩; subst hx2)
    rw [HRR.out, e0]
    exact ⟨v2, _, rfl, rfl, ht2, hb2⟩
  have t1 : (a.toList == [116, 97, 98, 108, 101]) = false := by rw [toList_eq_data]; exact beq_eq_false_iff_ne.2 ht1
  by_cases ht2 : a.data.toList = wBreak
  · have t2 : (a.toList == [98, 114, 101, 97, 107]) = true := by rw [toList_eq_data, ht2]; rfl
    have e0 : rr = r2 := by rw [e, if_neg ht1, if_pos (.inl ht2)]
    clear e ht1 ht2
    go_enter Tryd.func54, Tryd.ntmps54
    go_wp2_with (go_at_call 88; refine HRU.out.mono ?_; rintro e w2 ⟨v2, x2, rfl, hx2, ht2, hb2⟩; subst hx2)
    rw [HRR.out, e0]
    exact ⟨v2, _, rfl, rfl, ht2, hb2⟩
  have t2 : (a.toList == [98, 114, 101, 97, 107]) = false := by rw [toList_eq_data]; exact beq_eq_false_iff_ne.2 ht2
  by_cases ht3 : a.data.toList = wKeep
  · have t3 : (a.toList == [107, 101, 101, 112]) = true := by rw [toList_eq_data, ht3]; rfl
    have e0 : rr = r2 := by rw [e, if_neg ht1, if_pos (.inr ht3)]
    clear e ht1 ht2 ht3
    go_enter Tryd.func54, Tryd.ntmps54
    go_wp2_with (go_at_call 88; refine HRU.out.mono ?_; rintro e w2 ⟨v2, x2, rfl, hx2, ht2, hb2⟩; subst hx2)
    rw [HRR.out, e0]
    exact ⟨v2, _, rfl, rfl, ht2, hb2⟩
  have t3 : (a.toList == [107, 101, 101, 112]) = false := by rw [toList_eq_data]; exact beq_eq_false_iff_ne.2 ht3
  have e0 : rr = ([], 2) := by rw [e, if_neg ht1, if_neg (by rintro (h | h); exact ht2 h; exact ht3 h)]
  clear e ht1 ht2 ht3
  go_enter Tryd.func54, Tryd.ntmps54
  go_wp2_with fail
  rw [HRR.out, e0]
  exact ⟨_, _, rfl, rfl, fun h => absurd h (by decide), Below.refl _ _⟩

set_option maxRecDepth 100000 in
set_option maxHeartbeats 8000000 in
theorem segParse_any (s : ByteArray) (w : World) (hg : Got w) : Calls Tryd.prog 20 #[.string s] w (RetTbs w (rulesF s)) := by
  obtain ⟨R, HRR⟩ : ∃ R, Hid (R = RetTbs w (rulesF s)) := ⟨_, rfl⟩
  rw [← HRR.out]
  by_cases h16 : 65536 < s.size
  · have h16i : (65536 : Int) < (s.size : Int) := by omega
    have e0 : rulesF s = ([], 0, 3) := by unfold rulesF; rw [if_pos h16]
    go_enter Tryd.func20, Tryd.ntmps20
    go_wp2_with fail
    go_ret3
    rw [HRR.out, e0]
    exact ⟨_, rfl, RdTb.nil, Below.refl _ _⟩
  have h16i : ¬ (65536 : Int) < (s.size : Int) := by omega
  obtain ⟨r, hr⟩ : ∃ r, rulesF s = r := ⟨_, rfl⟩
  have HR0 : Hid (linesF (linesL s.data.toList) 0 [] = r) := by show _ = _; rw [← hr]; unfold rulesF; rw [if_neg h16]
  have hsl : s.data.toList.length ≤ 65536 := by rw [← Lib.size_eq]; omega
  rw [hr] at HRR
  clear hr h16
  go_enter Tryd.func20, Tryd.ntmps20
  go_wp2_with fail
  obtain ⟨wo, HWO⟩ : ∃ wo, Hid (wo = w) := ⟨w, rfl⟩
  go_loopg [0, 2, 3, 4] s.data.toList.length (fun gk tv v kv ev wr => ∃ (t : ByteArray) (v' : Value) (k : Nat) (ts : List Tb) (xs : List TbV) (rv : Sl) (ys : List RuV), tv = .string t ∧ v = v' ∧ kv = .int .i64 (k : Nat) ∧ ev = .int .i64 0 ∧ Hid (TS 46 30 w.heap.size wr v' ts xs rv ys) ∧ Hid (Below w.heap.size w wr) ∧ Hid (linesF (linesL t.data.toList) k ts = r) ∧ ts.length ≤ 16 ∧ t.data.toList.length + k ≤ 65536 ∧ t.data.toList.length ≤ gk)
  case atStart => exact ⟨s, _, 0, [], [], ⟨none, 0, 0⟩, [], rfl, rfl, rfl, rfl, TS.start, Below.refl _ _, HR0.out, by simp, by omega, Nat.le_refl _⟩
  case round =>
    clear HR0 hsl
    obtain ⟨t, v, k, ts, xs, rv, ys, rfl, rfl, rfl, rfl, HT, HB, HR, hl16, htl, hgk⟩ := hrel
    obtain ⟨Av, cv, hv⟩ := HT.out.rd.shape
    subst hv
    by_cases he : t.data.toList = []
    · have t1 : (t.toList != []) = false := by rw [toList_eq_data, he]; rfl
      have t2 : t.toList.isEmpty = true := by rw [toList_eq_data, he]; rfl
      have e0 : r = (ts, 0, 0) := by rw [← HR.out, he]; rfl
      clear he HR
      go_wp2_with fail
      go_ret3
      rw [HRR.out, e0]
      exact ⟨_, rfl, HT.out.rd, HB.out⟩
    have t1 : (t.toList != []) = true := by rw [toList_eq_data]; exact bne_iff_ne.2 he
    have t2 : t.toList.isEmpty = false := by rw [toList_eq_data]; exact List.isEmpty_eq_false_iff.2 he
    obtain ⟨m, hm⟩ := hg
    have hm2 : wr.cell? ⟨0, 0, none⟩ = some (.int .i64 m) := (HB.out.cell (p := ⟨0, 0, none⟩) (got_lt hm)).trans hm
    have hts : t.size ≤ 65536 := by rw [Lib.size_eq]; omega
    have HC := Lib.hid (Tryd.strings_Cut t ⟨#[10]⟩ m wr (by omega) hm2)
    have hcl := cut_lines t.data.toList he
    have hcn := cut_len t.data.toList he
    have hcf := cut_fst t.data.toList
    rw [show (⟨#[10]⟩ : ByteArray).data.toList = [10] from rfl] at HC
    have HR1 : Hid (linesF (linesL t.data.toList) k ts = r) := HR.out
    rw [hcl] at HR1
    generalize Lib.cut t.data.toList [10] = cc at HC hcn hcf HR1
    clear hcl HR
    obtain ⟨c1, c2, c3⟩ := cc
    simp only at HC hcn hcf HR1
    go_upto_region 7 with (go_at_call 52; refine HC.out.mono ?_; rintro e w1 ⟨rfl, n1, rfl⟩)
    have HT1 := Lib.hid (HT.out.keep (w' := wr.drewN n1) (Nat.le_refl _) (fun b _ => rfl))
    have HB1 : Hid (Below w.heap.size w (wr.drewN n1)) := below_drewN HB.out n1
    clear HT HB HC hm2
    generalize wr.drewN n1 = w1 at HT1 HB1 ⊢
    change Hid (linesF (c1 :: linesL c2) k ts = r) at HR1
    have hm3 : Got w1 := ⟨m, (HB1.out.cell (p := ⟨0, 0, none⟩) (got_lt hm)).trans hm⟩
    have hofl : ∀ l : List UInt8, (⟨l.toArray⟩ : ByteArray) = ofL l := fun _ => rfl
    rw [hofl c1, hofl c2]
    have hcs : (ofL c1).size ≤ 65536 := by rw [Lib.size_eq, ofL_list]; omega
    have HW := Lib.hid (words_any (ofL c1) w1 (by omega) hm3)
    have hwd : wordsL (ofL c1).data.toList = wordsL c1 := by rw [ofL_list]
    have hwm : (wordsB (ofL c1)).map (fun s => s.data.toList) = wordsL c1 := by
      unfold wordsB
      rw [hwd, List.map_map]
      exact (List.map_congr_left fun x _ => ofL_list x).trans (List.map_id _)
    have hwb : ∀ x ∈ wordsB (ofL c1), x.size ≤ 65536 := fun x hx => by
      have h1 : x.data.toList ∈ wordsL c1 := by rw [← hwm]; exact List.mem_map_of_mem hx
      have := wordsL_len c1 _ h1
      rw [Lib.size_eq]; omega
    have hwn : ∀ x ∈ wordsB (ofL c1), x.data.toList ≠ [] := fun x hx => wordsL_ne c1 _ (by rw [← hwm]; exact List.mem_map_of_mem hx)
    unfold RetWords at HW
    generalize wordsB (ofL c1) = ws at HW hwm hwb hwn
    clear hwd hm hm3
    go_wp2_with fail
    refine HW.out.mono ?_
    rintro e w2 ⟨wv, rfl, ho2, hb2⟩
    go_upto_region 8 with fail
    have HT2 := Lib.hid (HT1.out.below hb2 (Nat.le_refl _))
    have HB2 := Lib.hid (HB1.out.trans (hb2.mono HB1.out.size))
    have HRW := Lib.hid (OwnE.rd (f := strC) (m := 1) (fun _ => rfl) ho2)
    obtain ⟨Aw, cw, hwv⟩ := own_shape ho2
    subst hwv
    clear ho2 hb2 HT1 HB1 HW
    have HRL : Hid (r = if idle (wordsL c1) = true then linesF (linesL c2) (k + 1) ts else if (lineF ts (wordsL c1)).2 ≠ 0 then ([], k + 1, (lineF ts (wordsL c1)).2) else linesF (linesL c2) (k + 1) (lineF ts (wordsL c1)).1) := HR1.out.symm
    rw [← hwm] at HRL
    clear HR1 hwm
    rcases ws with _ | ⟨a, ws2⟩
    · have e1 : linesF (linesL c2) (k + 1) ts = r := (HRL.out.trans (if_pos rfl)).symm
      go_wp2_with fail
      go_roundg c2.length
      case measure => omega
      case rel => exact ⟨ofL c2, _, k + 1, ts, xs, rv, ys, rfl, rfl, by go_num, rfl, HT2.out, HB2.out, by (show linesF _ _ _ = _); rw [ofL_list]; exact e1, hl16, by rw [ofL_list]; omega, by rw [ofL_list]; exact Nat.le_refl _⟩
    · obtain ⟨bb, o, rfl, hbl, hcell⟩ := HRW.out.cells (by simp)
      have q0 := hcell 0 a 0 (.string a) rfl rfl
      rw [show o + (0 * 1 + 0) = o by omega] at q0
      clear hcell
      have ha := hwn a (by simp)
      have ha0 : 0 < a.size := by rw [Lib.size_eq]; exact List.length_pos_iff.2 ha
      have ha0i : (0 : Int) < (a.size : Int) := by omega
      have hid : idle ((a :: ws2).map fun s => s.data.toList) = (a[0].toNat == 35) := by
        show (a.data.toList.head? == some 35) = _
        have e1 : a.data.toList.head? = some a[0] := by
          rw [List.head?_eq_getElem?, List.getElem?_eq_getElem (by rw [← Lib.size_eq]; exact ha0)]
          rfl
        rw [e1, Bool.eq_iff_iff]
        simp [← UInt8.toNat_inj]
      have hlen := line_len ts ((a :: ws2).map fun s => s.data.toList)
      have HAD := Lib.hid (addLine_any w.heap.size w2 _ _ ts xs rv ys (a :: ws2) HT2.out HRW.out HB2.out.size hl16 (fun x hx => Nat.le_trans (hwb x hx) (by decide)) (by simp))
      unfold RetTab at HAD
      rw [hid] at HRL
      generalize lineF ts ((a :: ws2).map fun s => s.data.toList) = lr at HAD HRL hlen
      have hnw : (1 : Nat) ≤ (a :: ws2).length := by simp
      clear hid ha hwb hwn HRW
      generalize (a :: ws2).length = nw at HAD hnw ⊢
      have hnwi : ((nw : Int) == 0) = false := beq_eq_false_iff_ne.2 (by omega)
      have hnwj : (0 : Int) < (nw : Int) := by omega
      by_cases h35 : a[0].toNat = 35
      · have t35 : (((a[0].toNat : Nat) : Int) == 35) = true := by rw [h35]; rfl
        have e1 : linesF (linesL c2) (k + 1) ts = r := (HRL.out.trans (if_pos (by rw [h35]; rfl))).symm
        clear h35 HAD HRL
        go_wp2_with fail
        go_roundg c2.length
        case measure => omega
        case rel => exact ⟨ofL c2, _, k + 1, ts, xs, rv, ys, rfl, rfl, by go_num, rfl, HT2.out, HB2.out, by (show linesF _ _ _ = _); rw [ofL_list]; exact e1, hl16, by rw [ofL_list]; omega, by rw [ofL_list]; exact Nat.le_refl _⟩
      · have t35 : (((a[0].toNat : Nat) : Int) == 35) = false := beq_eq_false_iff_ne.2 (by omega)
        rw [beq_eq_false_iff_ne.2 h35, if_neg Bool.false_ne_true] at HRL
        clear h35
        obtain ⟨l1, x1⟩ := lr
        simp only at HAD HRL hlen
        by_cases hx : x1 = 0
        · have e1 : linesF (linesL c2) (k + 1) l1 = r := by rw [HRL.out, if_neg (not_not_intro hx)]
          have tx : (x1 != 0) = false := by simpa using hx
          clear HRL
          go_wp2_with (go_at_call 54; refine HAD.out.mono ?_; rintro e w3 ⟨v3, x3, rfl, hx3, ht3, hb3⟩; subst hx3)
          obtain ⟨xs3, rv3, ys3, HT3⟩ := ht3 hx
          go_roundg c2.length
          case measure => omega
          case rel => exact ⟨ofL c2, v3, k + 1, l1, xs3, rv3, ys3, rfl, rfl, by go_num, by first | rfl | (rw [hx]), HT3, HB2.out.trans hb3, by (show linesF _ _ _ = _); rw [ofL_list]; exact e1, hlen hx hl16, by rw [ofL_list]; omega, by rw [ofL_list]; exact Nat.le_refl _⟩
        · have e1 : r = ([], k + 1, x1) := by rw [HRL.out, if_pos hx]
          have tx : (x1 != 0) = true := bne_iff_ne.2 hx
          clear HRL
          go_wp2_with (go_at_call 54; refine HAD.out.mono ?_; rintro e w3 ⟨v3, x3, rfl, hx3, ht3, hb3⟩; subst hx3)
          go_ret3
          rw [HRR.out, e1]
          exact ⟨_, rfl, RdTb.nil, HB2.out.trans hb3⟩

end Go.Proofs.YtpboaadjbkaidaaDoor

namespace Go.Proofs.YtpboaadjbkaidaaDoor
set_option maxRecDepth 100000
open Go.RowKit

theorem known_small : ((rulesF knownT).1.all fun t => decide (t.rs.length ≤ 40) && t.rs.all fun r => decide (r.bf.length ≤ 40) && decide (r.af.length ≤ 40)) = true := by decide +kernel
theorem known_shape : ∃ T : Tb, rulesF knownT = ([T], 0, 0) ∧ breaksF T.rs knownS = [11] ∧ T.rs.length ≤ 1000000 ∧ ∀ r ∈ T.rs, r.bf.length ≤ 1000000 ∧ r.af.length ≤ 1000000 := by
  have h1 := known_len
  have h2 := known_breaks
  have h3 := known_small
  generalize rulesF knownT = k at h1 h2 h3
  obtain ⟨l, n, x⟩ := k
  obtain ⟨h4, h5, h6⟩ := h1
  obtain ⟨T, rfl⟩ : ∃ T, l = [T] := List.length_eq_one_iff.1 h4
  have h7 : (decide (T.rs.length ≤ 40) && T.rs.all fun r => decide (r.bf.length ≤ 40) && decide (r.af.length ≤ 40)) = true := by
    have := List.all_eq_true.1 h3 T (by simp)
    exact this
  rw [Bool.and_eq_true] at h7
  refine ⟨T, by rw [show n = 0 from h5, show x = 0 from h6], h2, ?_, fun r hr => ?_⟩
  · have := of_decide_eq_true h7.1
    omega
  · have := List.all_eq_true.1 h7.2 r hr
    rw [Bool.and_eq_true] at this
    have h8 := of_decide_eq_true this.1
    have h9 := of_decide_eq_true this.2
    omega

set_option maxRecDepth 100000 in
set_option maxHeartbeats 4000000 in
theorem known6_any (w : World) (hg : Got w) : Calls Tryd.prog 17 #[] w fun e w' => e = .returned (.bool true) ∧ Below w.heap.size w w' := by
  have HP := Lib.hid (segParse_any knownT w hg)
  obtain ⟨T, hT, hbr, hrl, hal⟩ := known_shape
  rw [hT] at HP
  unfold RetTbs at HP
  go_enter Tryd.func17, Tryd.ntmps17
  go_upto_region 2 with (go_at_call 20; refine HP.out.mono ?_; rintro e w1 ⟨v1, rfl, hr1, hb1⟩)
  obtain ⟨xs, hx0, hxl, hx⟩ := hr1
  obtain ⟨A, c, hv, hlc, _⟩ := hx0.shape
  have hxl1 : xs.length = 1 := hxl
  rw [hxl1] at hv
  subst hv
  obtain ⟨x, rfl⟩ : ∃ x, xs = [x] := List.length_eq_one_iff.1 hxl1
  obtain ⟨b, o, rfl, hbl, hcell⟩ := hx0.cells (by simp)
  have q2 := hcell 0 x 2 x.r.v rfl rfl
  rw [show o + (0 * 3 + 2) = o + 2 by omega] at q2
  have HRU := Lib.hid (hx 0 x T rfl rfl).2.2
  obtain ⟨nm, pa, ⟨rA, rn, rc⟩⟩ := x
  change w1.cell? _ = some (.slice rA rn rc) at q2
  change Hid (RdRu w1 (.slice rA rn rc) T.rs) at HRU
  have HB1 := Lib.hid hb1
  have HBR := Lib.hid (breaks_any T.rs (.slice rA rn rc) knownS w1 HRU.out hrl hal)
  rw [hbr] at HBR
  unfold RetOwn at HBR
  clear hcell hx hx0 hxl hxl1 hb1 HP hT hbr hrl hal HRU
  go_upto_region 5 with (go_at_call 16; refine HBR.out.mono ?_; rintro e w2 ⟨v2, rfl, ho2, hb2⟩)
  have HR2 := OwnE.rd (f := intC) (m := 1) (fun _ => rfl) ho2
  obtain ⟨A2, c2, hv2⟩ := own_shape ho2
  subst hv2
  obtain ⟨b2, o2, rfl, hbl2, hcell2⟩ := HR2.cells (by simp)
  have q3 := hcell2 0 11 0 (.int .i64 11) rfl rfl
  rw [show o2 + (0 * 1 + 0) = o2 by omega] at q3
  have HBF := Lib.hid (HB1.out.trans (hb2.mono HB1.out.size))
  clear hcell2 HR2 ho2 hb2 HBR
  go_wp2_with fail
  go_ret
  exact ⟨rfl, HBF.out⟩

end Go.Proofs.YtpboaadjbkaidaaDoor

namespace Go.Proofs.YtpboaadjbkaidaaDoor
set_option maxRecDepth 100000
open Go.RowKit

theorem got_below {w w' : World} (hg : Got w) (hb : Below w.heap.size w w') : Got w' := by
  obtain ⟨m, hm⟩ := hg
  exact ⟨m, (hb.cell (p := ⟨0, 0, none⟩) (got_lt hm)).trans hm⟩
theorem rulesM_small (L : List Int) : RuSmall (rulesM L 0 5).1 := by
  have h := rulesM_bd L 0 5 (by decide)
  refine ⟨Nat.le_trans h.1 (by decide), fun r hr => ?_⟩
  have := h.2.2 r hr
  exact ⟨Nat.le_trans this.1 (by decide), Nat.le_trans this.2.1 (by decide)⟩

end Go.Proofs.YtpboaadjbkaidaaDoor

namespace Go.Proofs.YtpboaadjbkaidaaDoor
set_option maxRecDepth 100000
open Go.RowKit

set_option maxHeartbeats 1000000 in
theorem line_any' (L : List Int) (g N : Nat) (n : Int) (w : World) (h : Nums w g L N) (hN : N ≤ 100000000) (hn : 0 ≤ n) (hn2 : n ≤ 1000) :
    Calls Tryd.prog 69 #[.pointer (some ⟨g, 0, none⟩), .int .i64 n] w (NumRet g L (lineL L N n).2 (.string (lineL L N n).1) w) := by
  have HT : Hid (lineGo L (nextN L N (n + 1)).toNat ⟨#[]⟩ (N + 1) = lineL L N n) := by show lineGo L (nextN L N (n + 1)).toNat ⟨#[]⟩ (N + 1) = lineL L N n; rfl
  have hb := nextN_bd L N (n + 1) (by omega)
  have HNX := Lib.hid (next_any' L g N (n + 1) w h (by omega) (by omega) (by omega))
  generalize nextN L N (n + 1) = z at HT hb HNX
  generalize lineL L N n = tgt at HT
  obtain ⟨m, rfl⟩ : ∃ m : Nat, z = (m : Int) := ⟨z.toNat, by omega⟩
  rw [Int.toNat_natCast] at HT
  clear h
  go_enter Tryd.func69, Tryd.ntmps69
  go_wp2_with fail
  refine (HNX.out).mono ?_
  rintro e w1 ⟨rfl, hb1, hn1⟩
  have HB1 := Lib.hid hb1
  have HN1 := Lib.hid hn1
  clear hb1 hn1
  go_wp2_with fail
  go_loopw [5, 6] (fun ov iv wr => ∃ (out : ByteArray) (i N' : Nat), ov = .string out ∧ iv = .int .i64 i ∧ i ≤ m ∧ N' + 2 * i ≤ N + 1 + 2 * m ∧ out.size + 6 * i ≤ 6 * m ∧ Hid (But g w wr) ∧ Hid (Nums wr g L N') ∧ Hid (lineGo L i out N' = tgt)) (fun _ iv _ => (intOf iv).toNat)
  case atStart => exact ⟨⟨#[]⟩, m, N + 1, rfl, rfl, Nat.le_refl _, Nat.le_refl _, by show 0 + 6 * m ≤ _; omega, HB1.out, HN1.out, HT.out⟩
  case round =>
    obtain ⟨out, i, N', rfl, rfl, him, hN', hos, HB, HN, HG⟩ := hrel
    cases i with
    | zero =>
      have he := HG.out
      rw [lineGo] at he
      subst he
      go_wp2_with fail
      go_ret
      exact ⟨rfl, HB.out, HN.out⟩
    | succ i =>
      have hw : (mkWord L N').size ≤ 5 := words_size _
      by_cases ho : 0 < out.size
      · have h3 := nextN_bd L (N' + 1) 3 (by omega)
        have hne : (out.toList == []) = false := by
          rw [beq_eq_false_iff_ne, toList_eq_data]
          intro h
          have := Lib.size_eq out
          rw [h] at this
          simp only [List.length_nil] at this
          omega
        have hne2 : out.toList.isEmpty = false := by
          rw [List.isEmpty_eq_false_iff]
          simpa using hne
        have hsz1 : (out ++ ⟨#[32]⟩ ++ mkWord L N').size ≤ out.size + 6 := by
          rw [ByteArray.size_append, ByteArray.size_append]
          show out.size + 1 + (mkWord L N').size ≤ _
          omega
        have hsz2 : (out ++ mkWord L N').size ≤ out.size + 6 := by
          rw [ByteArray.size_append]
          omega
        have HWD := Lib.hid (word_any' L g N' wr HN.out (by omega))
        by_cases hz : 0 < nextN L (N' + 1) 3
        · have hG2 : Hid (lineGo L i (out ++ ⟨#[32]⟩ ++ mkWord L N') (N' + 2) = tgt) := by
            have := HG.out
            rw [lineGo, if_pos ho, if_pos hz] at this
            exact this
          generalize mkWord L N' = wd at hw hsz1 hsz2 HWD hG2
          have HNX3 := fun w h => next_any' L g (N' + 1) 3 w h (by omega) (by omega) (by omega)
          have HX3 := Lib.hid HNX3
          generalize nextN L (N' + 1) 3 = z3 at h3 hz HX3 HNX3
          clear HNX3
          go_wp2_with fail
          refine (HWD.out).mono ?_
          rintro e w2 ⟨rfl, hb2, hn2'⟩
          have HB2 := Lib.hid (HB.out.trans hb2)
          have HN2 := Lib.hid hn2'
          clear hb2 hn2'
          go_wp2_with fail
          refine (HX3.out w2 HN2.out).mono ?_
          rintro e w3 ⟨rfl, hb3, hn3⟩
          have HB3 := Lib.hid (HB2.out.trans hb3)
          have HN3 := Lib.hid hn3
          clear hb3 hn3
          go_wp2_with fail
          exact ⟨⟨_, i, N' + 2, rfl, by go_num, by omega, by omega, by omega, HB3.out, HN3.out, hG2.out⟩, by simp [intOf]; try omega⟩
        · have hG2 : Hid (lineGo L i (out ++ mkWord L N') (N' + 2) = tgt) := by
            have := HG.out
            rw [lineGo, if_pos ho, if_neg hz] at this
            exact this
          generalize mkWord L N' = wd at hw hsz1 hsz2 HWD hG2
          have HNX3 := fun w h => next_any' L g (N' + 1) 3 w h (by omega) (by omega) (by omega)
          have HX3 := Lib.hid HNX3
          generalize nextN L (N' + 1) 3 = z3 at h3 hz HX3 HNX3
          clear HNX3
          go_wp2_with fail
          refine (HWD.out).mono ?_
          rintro e w2 ⟨rfl, hb2, hn2'⟩
          have HB2 := Lib.hid (HB.out.trans hb2)
          have HN2 := Lib.hid hn2'
          clear hb2 hn2'
          go_wp2_with fail
          refine (HX3.out w2 HN2.out).mono ?_
          rintro e w3 ⟨rfl, hb3, hn3⟩
          have HB3 := Lib.hid (HB2.out.trans hb3)
          have HN3 := Lib.hid hn3
          clear hb3 hn3
          go_wp2_with fail
          exact ⟨⟨_, i, N' + 2, rfl, by go_num, by omega, by omega, by omega, HB3.out, HN3.out, hG2.out⟩, by simp [intOf]; try omega⟩
      · have hz : out.data.toList = [] := List.eq_nil_of_length_eq_zero (by rw [← Lib.size_eq]; omega)
        have hre : out = ⟨#[]⟩ := bytes_ext hz
        subst hre
        have hG2 : Hid (lineGo L i (⟨#[]⟩ ++ mkWord L N') (N' + 1) = tgt) := by
          have := HG.out
          rw [lineGo, if_neg ho] at this
          exact this
        have hsz2 : ((⟨#[]⟩ : ByteArray) ++ mkWord L N').size ≤ 6 := by
          rw [ByteArray.size_append]
          show 0 + _ ≤ 6
          omega
        have HWD := Lib.hid (word_any' L g N' wr HN.out (by omega))
        have hos' : 6 * (i + 1) ≤ 6 * m := by have : (ByteArray.mk #[]).size = 0 := rfl; omega
        generalize mkWord L N' = wd at hw hsz2 HWD hG2
        go_wp2_with fail
        refine (HWD.out).mono ?_
        rintro e w2 ⟨rfl, hb2, hn2'⟩
        have HB2 := Lib.hid (HB.out.trans hb2)
        have HN2 := Lib.hid hn2'
        clear hb2 hn2'
        go_wp2_with fail
        exact ⟨⟨_, i, N' + 1, rfl, by go_num, by omega, by omega, by omega, HB2.out, HN2.out, hG2.out⟩, by simp [intOf]; try omega⟩

end Go.Proofs.YtpboaadjbkaidaaDoor

namespace Go.Proofs.YtpboaadjbkaidaaDoor
set_option maxRecDepth 100000
open Go.RowKit

def slotW : List ByteArray := [⟨#[110]⟩, ⟨#[110, 97, 109, 101]⟩, ⟨#[120, 49]⟩]
def emptyW : List ByteArray := [⟨#[98, 114]⟩, ⟨#[105, 109, 103, 32, 97]⟩]
def openW : List ByteArray := [⟨#[98]⟩, ⟨#[105]⟩, ⟨#[97, 32, 104, 61, 49]⟩]
theorem getD_size (l : List ByteArray) (k : Nat) (h : ∀ x ∈ l, x.size ≤ 5) : (l.getD k ⟨#[]⟩).size ≤ 5 := by
  by_cases hk : k < l.length
  · rw [List.getD_eq_getElem?_getD, List.getElem?_eq_getElem hk]
    exact h _ (List.getElem_mem hk)
  · rw [List.getD_eq_getElem?_getD, List.getElem?_eq_none (by omega)]
    decide

def nameB (s : ByteArray) : ByteArray := ⟨(s.data.toList.takeWhile (fun c => c != 32)).toArray⟩
theorem nameB_size (s : ByteArray) : (nameB s).size ≤ s.size := by
  rw [Lib.size_eq, Lib.size_eq]
  show (s.data.toList.takeWhile _).toArray.toList.length ≤ _
  exact (List.takeWhile_prefix _).length_le

/-- The state behind some rounds. -/
structure FS where
  f : List Tk
  op : List Tk
  id : Nat
  N : Nat

/-- The item of a round, whose text and number c have been drawn, at place M: the item, the open tags, the last id, the place. -/
def itemL (L : List Int) (c : Int) (t : ByteArray) (op : List Tk) (id M : Nat) : Tk × List Tk × Nat × Nat :=
  if c = 0 ∨ c = 1 then (⟨5, slotW.getD (nextN L M 3).toNat ⟨#[]⟩, 0⟩, op, id, M + 1)
  else if c = 2 then (⟨4, emptyW.getD (nextN L M 2).toNat ⟨#[]⟩, (id + 1 : Nat)⟩, op, id + 1, M + 1)
  else if c = 3 ∨ c = 4 then (⟨2, openW.getD (nextN L M 3).toNat ⟨#[]⟩, (id + 1 : Nat)⟩, op ++ [⟨2, openW.getD (nextN L M 3).toNat ⟨#[]⟩, (id + 1 : Nat)⟩], id + 1, M + 1)
  else if c = 5 ∨ c = 6 then
    if 0 < op.length then (⟨3, nameB (op.getD (nextN L M op.length).toNat ⟨0, ⟨#[]⟩, 0⟩).t, (op.getD (nextN L M op.length).toNat ⟨0, ⟨#[]⟩, 0⟩).d⟩,
      op.take (nextN L M op.length).toNat ++ op.drop ((nextN L M op.length).toNat + 1), id, M + 1)
    else (⟨3, ⟨#[98]⟩, (id + 1 : Nat)⟩, op, id + 1, M)
  else (⟨1, t, 0⟩, op, id, M)

def fragStep (L : List Int) (s : FS) : FS :=
  let ln := lineL L s.N 3
  let x := itemL L (nextN L ln.2 8) ln.1 s.op s.id (ln.2 + 1)
  ⟨normL (s.f ++ [x.1]), x.2.1, x.2.2.1, x.2.2.2⟩
def fragGo (L : List Int) : Nat → FS → FS
  | 0, s => s
  | i + 1, s => fragGo L i (fragStep L s)
def fragL (L : List Int) (N : Nat) (n : Int) : FS := fragGo L (nextN L N (n + 1)).toNat ⟨[], [], 0, N + 1⟩

/-- What the items keep to. -/
structure FOK (s : FS) (r : Nat) : Prop where
  len : s.f.length ≤ r
  bytes : bytesOf s.f ≤ 18 * r
  oplen : s.op.length ≤ r
  opsz : ∀ x ∈ s.op, x.t.size ≤ 5
  id : s.id ≤ r
  num : s.N ≤ 1 + 9 * r
  kinds : Kinds s.f
  normal : Normal s.f

theorem item_ok (L : List Int) (c : Int) (t : ByteArray) (op : List Tk) (id M r : Nat) (ht : t.size ≤ 18) (h1 : op.length ≤ r) (h2 : ∀ x ∈ op, x.t.size ≤ 5) (h3 : id ≤ r) :
    ∀ x op' id' M', itemL L c t op id M = (x, op', id', M') → x.t.size ≤ 18 ∧ (1 ≤ x.k ∧ x.k ≤ 5) ∧ op'.length ≤ r + 1 ∧ (∀ x ∈ op', x.t.size ≤ 5) ∧ id' ≤ r + 1 ∧ M' ≤ M + 1 := by
  intro x op' id' M' h
  unfold itemL at h
  have hs := getD_size slotW (nextN L M 3).toNat (by decide)
  have he := getD_size emptyW (nextN L M 2).toNat (by decide)
  have ho := getD_size openW (nextN L M 3).toNat (by decide)
  split at h
  · cases h; exact ⟨Nat.le_trans hs (by decide), (by show (1 : Int) ≤ 5 ∧ (5 : Int) ≤ 5; decide), by omega, h2, by omega, by omega⟩
  split at h
  · cases h; exact ⟨Nat.le_trans he (by decide), (by show (1 : Int) ≤ 4 ∧ (4 : Int) ≤ 5; decide), by omega, h2, by omega, by omega⟩
  split at h
  · cases h
    refine ⟨Nat.le_trans ho (by decide), (by show (1 : Int) ≤ 2 ∧ (2 : Int) ≤ 5; decide), by simp; omega, fun y hy => ?_, by omega, by omega⟩
    rcases List.mem_append.1 hy with hy | hy
    · exact h2 y hy
    · rw [List.mem_singleton.1 hy]; exact ho
  split at h
  · split at h
    · rename_i hop
      cases h
      have hb := nextN_bd L M op.length (by omega)
      have hk : (nextN L M op.length).toNat < op.length := by omega
      refine ⟨?_, (by show (1 : Int) ≤ 3 ∧ (3 : Int) ≤ 5; decide), ?_, fun y hy => ?_, by omega, by omega⟩
      · show (nameB _).size ≤ 18
        refine Nat.le_trans (nameB_size _) ?_
        rw [List.getD_eq_getElem?_getD, List.getElem?_eq_getElem hk]
        have := h2 _ (List.getElem_mem hk)
        rw [Option.getD_some]
        omega
      · simp; omega
      · rcases List.mem_append.1 hy with hy | hy
        · exact h2 y (List.mem_of_mem_take hy)
        · exact h2 y (List.mem_of_mem_drop hy)
    · cases h; exact ⟨by show (1 : Nat) ≤ 18; omega, (by show (1 : Int) ≤ 3 ∧ (3 : Int) ≤ 5; decide), by omega, h2, by omega, by omega⟩
  · cases h; exact ⟨ht, (by show (1 : Int) ≤ 1 ∧ (1 : Int) ≤ 5; decide), by omega, h2, by omega, by omega⟩

theorem FOK.step (L : List Int) (s : FS) (r : Nat) (h : FOK s r) : FOK (fragStep L s) (r + 1) := by
  obtain ⟨f, op, id, N⟩ := s
  obtain ⟨h1, h2, h3, h4, h5, h6, h7, h8⟩ := h
  simp only at h1 h2 h3 h4 h5 h6 h7 h8
  have hl := lineL_bd L N 3 (by decide)
  unfold fragStep
  simp only
  generalize hln : lineL L N 3 = ln at hl
  obtain ⟨t, M⟩ := ln
  simp only at hl ⊢
  generalize hx : itemL L (nextN L M 8) t op id (M + 1) = x
  obtain ⟨x, op', id', M'⟩ := x
  have ht : t.size ≤ 18 := hl.1
  have hM : M ≤ N + 7 := hl.2
  obtain ⟨q1, q2, q3, q4, q5, q6⟩ := item_ok L _ t op id (M + 1) r ht h3 h4 h5 x op' id' M' hx
  refine ⟨?_, ?_, q3, q4, q5, ?_, ?_, ?_⟩
  · have := normL_length (f ++ [x])
    rw [List.length_append, List.length_singleton] at this
    show (normL (f ++ [x])).length ≤ r + 1
    omega
  · show bytesOf (normL (f ++ [x])) ≤ 18 * (r + 1)
    rw [normL_bytes, bytesOf_append, bytesOf_one]
    omega
  · show M' ≤ 1 + 9 * (r + 1)
    omega
  · refine Kinds.norm _ (fun y hy => ?_)
    rcases List.mem_append.1 hy with hy | hy
    · exact h7 y hy
    · rw [List.mem_singleton.1 hy]; exact q2
  · exact normL_normal _

theorem fragGo_ok (L : List Int) : ∀ i s r, FOK s r → FOK (fragGo L i s) (r + i)
  | 0, _, _, h => h
  | i + 1, s, r, h => by
    have := fragGo_ok L i (fragStep L s) (r + 1) (h.step L)
    rw [show r + 1 + i = r + (i + 1) by omega] at this
    exact this
theorem fok_start (N : Nat) (hN : N ≤ 1) : FOK ⟨[], [], 0, N⟩ 0 :=
  ⟨by simp, by simp [bytesOf], by simp, by simp, by simp, by simpa using hN, by intro x hx; simp at hx, trivial⟩

end Go.Proofs.YtpboaadjbkaidaaDoor

namespace Go.Proofs.YtpboaadjbkaidaaDoor
set_option maxRecDepth 100000
open Go.RowKit

theorem OwnT.unsnoc {e : TypeId} {w : World} {B : Nat} {v : Value} {l : List Tk} {x : Tk} (h : OwnT e w B v (l ++ [x])) : ∃ g cap, v = .slice (some ⟨g, 0, none⟩) (l.length + 1) cap ∧ B ≤ g ∧
    w.ownsRow B e 3 (.slice (some ⟨g, 0, none⟩) (l.length + 1) cap) (l.length + 1) (l.flatMap tkC ++ tkC x) := by
  unfold OwnT OwnE at h
  rw [List.length_append, List.flatMap_append] at h
  obtain ⟨g, c, hv, hb⟩ := own_some h (by simp)
  subst hv
  exact ⟨g, c, rfl, hb, by simpa using h⟩
section
variable {e : TypeId} {w : World} {B g cap : Nat} {l : List Tk} {x : Tk}
theorem OwnT.lastCells (h : w.ownsRow B e 3 (.slice (some ⟨g, 0, none⟩) (l.length + 1) cap) (l.length + 1) (l.flatMap tkC ++ tkC x)) :
    w.cell? ⟨g, l.length * 3, none⟩ = some (.int .i64 x.k) ∧ w.cell? ⟨g, l.length * 3 + 1, none⟩ = some (.string x.t) ∧ w.cell? ⟨g, l.length * 3 + 2, none⟩ = some (.int .i64 x.d) := by
  have hl := flat_length tkC 3 tkC_three l
  refine ⟨?_, ?_, ?_⟩
  · rw [h.cellAt _ (by omega), List.getElem?_append_right (by omega), hl, Nat.sub_self]; rfl
  · rw [h.cellAt _ (by omega), List.getElem?_append_right (by omega), hl, Nat.add_sub_cancel_left]; rfl
  · rw [h.cellAt _ (by omega), List.getElem?_append_right (by omega), hl, Nat.add_sub_cancel_left]; rfl
/-- The last token replaced, cell by cell. -/
theorem OwnT.lastSet (h : w.ownsRow B e 3 (.slice (some ⟨g, 0, none⟩) (l.length + 1) cap) (l.length + 1) (l.flatMap tkC ++ tkC x)) (y : Tk) :
    OwnT e (((w.setCell ⟨g, l.length * 3, none⟩ (.int .i64 y.k)).setCell ⟨g, l.length * 3 + 1, none⟩ (.string y.t)).setCell ⟨g, l.length * 3 + 2, none⟩ (.int .i64 y.d)) B (.slice (some ⟨g, 0, none⟩) (l.length + 1) cap) (l ++ [y]) := by
  have hl := flat_length tkC 3 tkC_three l
  have h1 := (h.stored (l.length * 3) (.int .i64 y.k)).1
  have h2 := (h1.stored (l.length * 3 + 1) (.string y.t)).1
  have h3 := (h2.stored (l.length * 3 + 2) (.int .i64 y.d)).1
  refine OwnE.snoc ?_
  rw [List.set_append_right _ _ (by omega), hl, Nat.sub_self, List.set_append_right _ _ (by omega), hl, Nat.add_sub_cancel_left, List.set_append_right _ _ (by omega), hl, Nat.add_sub_cancel_left] at h3
  exact h3
end

set_option maxHeartbeats 4000000 in
theorem rnorm_any (f : List Tk) (v : Value) (w : World) (hf : RdT w v f) (hl : f.length ≤ 100000) (hbt : bytesOf f ≤ 1000000) :
    Calls Tryd.prog 96 #[v] w (RetOwn 84 tkC 3 w (normL f)) := by
  obtain ⟨A, c, rfl, _, _⟩ := hf.shape
  have HF := Lib.hid hf
  clear hf
  go_enter Tryd.func96, Tryd.ntmps96
  go_wp2
  go_loopw [3, 9] (fun ov i wr => ∃ k : Nat, k ≤ f.length ∧ i = .int .i64 k ∧ Hid (OwnT 84 wr w.heap.size ov (normL (f.take k))) ∧ Below w.heap.size w wr) (fun _ i _ => f.length - (intOf i).toNat)
  case atStart => exact ⟨0, by omega, rfl, OwnE.nil, Below.refl _ _⟩
  case round =>
    obtain ⟨k, hk, rfl, HO, hb⟩ := hrel
    have hsize := hb.size
    by_cases hkl : k < f.length
    · obtain ⟨b, o, rfl, hbl, q1, q2, q3⟩ := RdT.at_ HF.out k hkl
      rw [← hb.cell (p := ⟨b, o + k * 3, none⟩) hbl] at q1
      rw [← hb.cell (p := ⟨b, o + k * 3 + 1, none⟩) hbl] at q2
      rw [← hb.cell (p := ⟨b, o + k * 3 + 2, none⟩) hbl] at q3
      have HT := Lib.hid (normL_take f k hkl)
      have hol : (normL (f.take k)).length ≤ 100000 := by
        have := normL_length (f.take k)
        rw [List.length_take] at this
        omega
      have hob : bytesOf (normL (f.take k)) + f[k].t.size ≤ 1000000 := by
        rw [normL_bytes]
        have := bytesOf_get f k hkl
        omega
      generalize f[k] = x at q1 q2 q3 HT hob
      obtain ⟨xk, xt, xd⟩ := x
      simp only at q1 q2 q3 hob
      generalize normL (f.take k) = out at HO HT hol hob
      by_cases h1 : xk = 1
      · subst h1
        by_cases he : xt.size = 0
        · have hxe : xt = ⟨#[]⟩ := bytes_ext (List.eq_nil_of_length_eq_zero (by rw [← Lib.size_eq]; exact he))
          have HX := Lib.hid (step_empty out ⟨1, xt, xd⟩ rfl he)
          subst hxe
          obtain ⟨A', c', hv⟩ := own_shape HO.out
          subst hv
          go_wp2_with fail
          refine ⟨⟨k + 1, by omega, by go_num, ?_, hb.alloc hsize _⟩, by simp [intOf]; try omega⟩
          rw [HT.out, HX.out]
          exact World.ownsRow.alloc HO.out _
        · have hne : (xt.toList == []) = false := by
            rw [beq_eq_false_iff_ne, toList_eq_data]
            intro h
            apply he
            rw [Lib.size_eq, h]
            rfl
          have hne2 : xt.toList.isEmpty = false := by
            rw [List.isEmpty_eq_false_iff]
            simpa using hne
          rcases List.eq_nil_or_concat out with rfl | ⟨o2, y, rfl⟩
          · have HX := Lib.hid (step_first ⟨1, xt, xd⟩ rfl he)
            obtain ⟨A', c', hv⟩ := own_shape HO.out
            subst hv
            clear he
            go_wp2_with (at_builtin; go_must (refine wpList_app1 rfl (.tmp 53) (.tmp 57) 57 84 rfl Tryd.underlying57 _ 3 32 item_info rfl (by decide) w.heap.size _ 0 [] rfl (by exact World.ownsRow.alloc (World.ownsRow.alloc HO.out _) _) ⟨wr.heap.size + 1, 0, none⟩ 1 (tkC ⟨1, xt, 0⟩) rfl rfl (by exact cells_at _ _ (by simp) _ _) (tkC_one _) (by omega) (by decide) (by simp; omega) ?_); intro g cap w1 hown1 hg1 hbel1 hgr1)
            refine ⟨⟨k + 1, by omega, by go_num, ?_, hbel1 _ _ (Nat.le_refl _) (by exact (hb.alloc hsize _).alloc (by simp; omega) _)⟩, by simp [intOf]; try omega⟩
            rw [HT.out, HX.out]
            exact hown1
          · rw [List.concat_eq_append] at HO HT hol hob
            obtain ⟨yk, yt, yd⟩ := y
            obtain ⟨g, cap, hv, hg, hown⟩ := OwnT.unsnoc HO.out
            subst hv
            obtain ⟨p1, p2, p3⟩ := OwnT.lastCells hown
            have hol2 : o2.length + 1 ≤ 100000 := by simpa using hol
            have hgl : g < wr.heap.size := World.block_lt_of_cell? _ _ p1
            have p1' : ∀ ob, (wr.alloc ob).cell? ⟨g, o2.length * 3, none⟩ = some (.int .i64 yk) := fun ob => (World.cell?_alloc_lt _ _ _ hgl).trans p1
            by_cases hy : yk = 1
            · subst hy
              have HX := Lib.hid (step_join o2 ⟨1, yt, yd⟩ ⟨1, xt, xd⟩ rfl he rfl)
              have hyt : yt.size + xt.size ≤ 1000000 := by
                rw [bytesOf_append, bytesOf_one] at hob
                simp only at hob
                omega
              clear he hol hob
              go_wp2_with fail
              have s1 := (World.cell?_alloc_lt wr (.cells #[.int .i64 1, .string xt, .int .i64 xd] 84) ⟨g, o2.length * 3, none⟩ hgl).trans p1
              have s2 := (World.cell?_alloc_lt wr (.cells #[.int .i64 1, .string xt, .int .i64 xd] 84) ⟨g, o2.length * 3 + 1, none⟩ hgl).trans p2
              have s3 := (World.cell?_alloc_lt wr (.cells #[.int .i64 1, .string xt, .int .i64 xd] 84) ⟨g, o2.length * 3 + 2, none⟩ hgl).trans p3
              have z1 : (wr.alloc (.cells #[.int .i64 1, .string xt, .int .i64 xd] 84)).cell? ⟨wr.heap.size, 1, none⟩ = some (.string xt) := cells_at wr _ rfl [.int .i64 1, .string xt, .int .i64 xd] 84 1 _ rfl
              have hownW := World.ownsRow.alloc hown (.cells #[.int .i64 1, .string xt, .int .i64 xd] 84)
              have fz := fun j => hownW.frozenAt j
              have hbW := hb.alloc hsize (.cells #[.int .i64 1, .string xt, .int .i64 xd] 84)
              have HOW := Lib.hid hownW
              have HBW := Lib.hid hbW
              have hsW : (wr.alloc (.cells #[.int .i64 1, .string xt, .int .i64 xd] 84)).heap.size = wr.heap.size + 1 := by simp
              have HSW := Lib.hid hsW
              have ew : IntKind.i64.wrap ((o2.length : Int) + 1 - 1) = (o2.length : Int) := by rw [IntKind.wrap_i64]; omega
              clear p1 p2 p3 p1' hownW hbW hsW q1 q2 q3 hown HO
              generalize (wr.alloc (.cells #[.int .i64 1, .string xt, .int .i64 xd] 84)) = W1 at s1 s2 s3 z1 fz HOW HBW HSW ⊢
              go_region
              go_wp2_with fail
              refine ⟨⟨k + 1, by omega, by go_num, ?_, ?_⟩, by simp [intOf]; try omega⟩
              · rw [HT.out, HX.out]
                exact OwnT.lastSet HOW.out ⟨1, yt ++ xt, 0⟩
              · exact (((HBW.out.setCell (p := ⟨g, o2.length * 3, none⟩) hg _).setCell (p := ⟨g, o2.length * 3 + 1, none⟩) hg _).setCell (p := ⟨g, o2.length * 3 + 2, none⟩) hg _).drew
            · have HX := Lib.hid (step_new o2 ⟨yk, yt, yd⟩ ⟨1, xt, xd⟩ rfl he hy)
              have hyf : (yk == 1) = false := by simpa using hy
              have hol3 : (o2 ++ [⟨yk, yt, yd⟩] : List Tk).length = o2.length + 1 := by simp
              have HOW := Lib.hid hown
              clear he hy hob hol hown
              go_wp2_with (at_builtin; go_must (refine wpList_app1 rfl (.tmp 53) (.tmp 57) 57 84 rfl Tryd.underlying57 _ 3 32 item_info rfl (by decide) w.heap.size _ (o2.length + 1) (o2.flatMap tkC ++ tkC ⟨yk, yt, yd⟩) rfl (by exact World.ownsRow.alloc (World.ownsRow.alloc HOW.out _) _) ⟨wr.heap.size + 1, 0, none⟩ 1 (tkC ⟨1, xt, 0⟩) rfl rfl (by exact cells_at _ _ (by simp) _ _) (tkC_one _) (by omega) (by decide) (by simp; omega) ?_); intro g2 cap2 w1 hown1 hg3 hbel1 hgr1)
              refine ⟨⟨k + 1, by omega, by go_num, ?_, hbel1 _ _ (Nat.le_refl _) (by exact (hb.alloc hsize _).alloc (by simp; omega) _)⟩, by simp [intOf]; try omega⟩
              rw [HT.out, HX.out]
              refine OwnE.snoc ?_
              rw [hol3, List.flatMap_append]
              simpa using hown1
      · have HX := Lib.hid (step_other out ⟨xk, xt, xd⟩ h1)
        have hxf : (xk == 1) = false := by simpa using h1
        have hxn : (xk != 1) = true := by simpa using h1
        obtain ⟨A', c', hv⟩ := own_shape HO.out
        subst hv
        clear h1
        go_wp2_with (at_builtin; go_must (refine wpList_app1 rfl (.tmp 19) (.tmp 21) 57 84 rfl Tryd.underlying57 _ 3 32 item_info rfl (by decide) w.heap.size _ _ _ rfl (by exact World.ownsRow.alloc (World.ownsRow.alloc HO.out _) _) ⟨wr.heap.size + 1, 0, none⟩ 1 (tkC ⟨xk, xt, xd⟩) rfl rfl (by exact cells_at _ _ (by simp) _ _) (tkC_one _) (by omega) (by decide) (by simp; omega) ?_); intro g cap w1 hown1 hg1 hbel1 hgr1)
        refine ⟨⟨k + 1, by omega, by go_num, ?_, hbel1 _ _ (Nat.le_refl _) (by exact (hb.alloc hsize _).alloc (by simp; omega) _)⟩, by simp [intOf]; try omega⟩
        rw [HT.out, HX.out]
        exact OwnE.snoc hown1
    · obtain rfl : k = f.length := by omega
      obtain ⟨A', c', hv⟩ := own_shape HO.out
      subst hv
      go_wp2_with fail
      go_ret
      refine ⟨_, rfl, ?_, hb⟩
      have he := HO.out
      rw [List.take_length] at he ⊢
      exact he

theorem rconcat_any (f g : List Tk) (v u : Value) (w : World) (hf : RdT w v f) (hg : RdT w u g) (hl : f.length + g.length ≤ 100000) (hbt : bytesOf f + bytesOf g ≤ 1000000) :
    Calls Tryd.prog 71 #[v, u] w (RetOwn 84 tkC 3 w (normL (f ++ g))) := by
  obtain ⟨A, c, rfl, _, _⟩ := hf.shape
  obtain ⟨A2, c2, rfl, _, _⟩ := hg.shape
  have HF := Lib.hid hf
  have HG := Lib.hid hg
  clear hf hg
  go_enter Tryd.func71, Tryd.ntmps71
  go_wp2_with (first
    | (at_builtin; refine wpList_appE rfl (.const (.slice none 0 0)) (.tmp 5) 57 84 rfl Tryd.underlying57 _ tkC 3 32 item_info rfl (by decide) tkC_three tkC_one w.heap.size _ [] rfl (by exact OwnE.nil) _ f rfl (by exact HF.out) (by simp; omega) (by decide) (Nat.le_refl _) ?_; intro v1 w1 hown1 hbel1 hgr1; have HO1 := Lib.hid hown1; have HB1 := Lib.hid (hbel1 w.heap.size w (Nat.le_refl _) (Below.refl _ _)); have hz1 := HB1.out.size; clear hown1 hbel1 hgr1)
    | (at_builtin; refine wpList_appE rfl (.tmp 6) (.tmp 7) 57 84 rfl Tryd.underlying57 _ tkC 3 32 item_info rfl (by decide) tkC_three tkC_one w.heap.size _ f rfl (by exact HO1.out) _ g rfl (by exact RdE.below HG.out HB1.out (Nat.le_refl _)) (by omega) (by decide) hz1 ?_; intro v2 w2 hown2 hbel2 hgr2; have HO2 := Lib.hid hown2; have HB2 := Lib.hid (hbel2 w.heap.size w (Nat.le_refl _) HB1.out); have hz2 := HB2.out.size; clear hown2 hbel2 hgr2)
    | (go_at_call 96; refine (rnorm_any (f ++ g) _ _ (by exact OwnE.rd tkC_three HO2.out) (by rw [List.length_append]; exact hl) (by rw [bytesOf_append]; exact hbt)).mono ?_; rintro e w3 ⟨v3, rfl, hown3, hb3⟩))
  go_ret
  exact ⟨v3, rfl, own_base hown3 hz2, HB2.out.trans (hb3.mono hz2)⟩

/-- The name of the content of a tag. -/
def nameOf (l : List UInt8) : List UInt8 := l.takeWhile (fun c => c != 32)

theorem nameOf_sp (c : UInt8) (r : List UInt8) (h : c = 32) : nameOf (c :: r) = [] := by
  subst h
  rfl
theorem nameOf_in (c : UInt8) (r : List UInt8) (h : (c != 32) = true) : nameOf (c :: r) = c :: nameOf r := by
  rw [nameOf, List.takeWhile_cons, if_pos h]
  rfl

theorem name_any (s : ByteArray) (w : World) (hs : s.size ≤ 1000000) :
    Calls Tryd.prog 70 #[.string s] w fun e w' => e = .returned (.string ⟨(nameOf s.data.toList).toArray⟩) ∧ w = w' := by
  go_enter Tryd.func70, Tryd.ntmps70
  go_wp2
  go_loop [3] (fun i => ∃ k : Nat, k ≤ s.size ∧ i = .int .i64 k ∧ Hid (nameOf s.data.toList = s.data.toList.take k ++ nameOf (s.data.toList.drop k))) (fun i => s.size - (intOf i).toNat)
  case atStart => exact ⟨0, by omega, rfl, rfl⟩
  case round =>
    obtain ⟨k, hk, rfl, HR⟩ := hrel
    by_cases hlt : k < s.size
    · have hl : k < s.data.toList.length := by rw [← Lib.size_eq]; exact hlt
      have h255 : s[k].toNat < 256 := s[k].toNat_lt
      have HD := Lib.hid (show s.data.toList.drop k = s[k] :: s.data.toList.drop (k + 1) from List.drop_eq_getElem_cons hl)
      have HK := Lib.hid (show s.data.toList.take (k + 1) = s.data.toList.take k ++ [s[k]] from List.take_succ_eq_append_getElem hl)
      by_cases hc : s[k].toNat = 32
      · have ht : ((s[k].toNat : Int) == 32) = true := by simp; omega
        have h32 : s[k] = 32 := UInt8.toNat_inj.1 hc
        have H32 := Lib.hid h32
        clear hc h32
        go_wp2_with fail
        go_ret
        have hj := HR.out
        rw [HD.out, nameOf_sp _ _ H32.out, List.append_nil] at hj
        refine ⟨ret_val ?_, rfl⟩
        rw [hj]
        show Value.string (s.extract 0 k) = _
        rw [Lib.extract_eq, List.drop_zero, Nat.sub_zero]
      · have ht : ((s[k].toNat : Int) == 32) = false := by simp; omega
        have h32 : (s[k] != 32) = true := by
          rw [bne_iff_ne]
          intro h
          rw [h] at hc
          exact hc rfl
        have H32 := Lib.hid h32
        clear hc h32
        go_wp2_with fail
        refine ⟨⟨k + 1, by omega, by go_num, ?_⟩, by simp [intOf]; try omega⟩
        have hj := HR.out
        show _ = _
        rw [hj, HD.out, HK.out, List.append_assoc, nameOf_in _ _ H32.out]
        rfl
    · have hz : s.data.toList.drop k = [] := List.drop_of_length_le (by rw [← Lib.size_eq]; omega)
      have hz2 : s.data.toList.take k = s.data.toList := List.take_of_length_le (by rw [← Lib.size_eq]; omega)
      go_wp2_with fail
      go_ret
      have hj := HR.out
      rw [hz, hz2] at hj
      refine ⟨ret_val ?_, rfl⟩
      rw [hj]
      show Value.string s = .string ⟨(s.data.toList ++ []).toArray⟩
      rw [List.append_nil, Lib.mk_data]

end Go.Proofs.YtpboaadjbkaidaaDoor
