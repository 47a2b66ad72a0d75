/-
  Contracts and plain laws that this claim leans on, part 5.
-/
import Derived.Test.YtfkojnofbpdjdaaGreatDoorPackC4
import Derived.Test.YtfkojnofbpdjdaaGreatDoorPackC3
import Derived.Maps.Own
import Derived.Maps.OwnOps
import Derived.Maps.OwnSet
import Derived.Maps.Views
import Derived.Test.YtfkojnofbpdjdaaGreatDoorPackC2
import Derived.Test.YtfkojnofbpdjdaaGreatDoorPackC1
set_option linter.unusedVariables false
set_option linter.unusedSimpArgs false
set_option maxHeartbeats 16000000
set_option maxRecDepth 100000
namespace Go.Proofs.YtfkojnofbpdjdaaGreatDoor
set_option maxRecDepth 100000
open Go.RowKit
theorem rsEncode_any (f : List Tk) (v : Value) (m : Int) (w : World) (hm : w.cell? ⟨0, 0, none⟩ = some (.int .i64 m)) (h1 : RdT w v f) (hv : ValF f) (hpl : ∀ x ∈ f, PlainOk x) :
 Calls Tryz.prog 11 #[v] w fun e w' => e = .returned (.tuple #[.string (ofL (encF 2 f)), .int .i64 0]) ∧ Below w.heap.size w w' := by
 obtain ⟨R, HRR⟩ : ∃ R : Ending → World → Prop, Hid (R = fun e w' => e = .returned (.tuple #[.string (ofL (encF 2 f)), .int .i64 0]) ∧ Below w.heap.size w w') := ⟨_, rfl⟩
 rw [← HRR.out]
 have hsz := val_size f hv
 have CV := Lib.hid (validate_any f v m w hm h1 hv (fun x hx => by have := hsz x hx; omega))
 have hl1 := hv.len
 have HV := Lib.hid hv
 have H1 := Lib.hid h1
 have HM := Lib.hid hm
 have HZ := Lib.hid hsz
 have HP := Lib.hid hpl
 obtain ⟨A, c, rfl, hcap, _⟩ := h1.shape
 clear h1 hv hm hsz hpl
 go_enter Tryz.func11, Tryz.ntmps11
 go_wp2_with (go_at_call 37; refine (CV.out).mono ?_; rintro e w0 ⟨rfl, hw0⟩; have HB0 := Lib.hid hw0; have hz0 := hw0.size; clear hw0)
 have HN := Lib.hid (newReplacer_any prsR _ _ (rdE_lit (flatP prsR) w0 9) (by decide) (by decide))
 have HBL := Lib.hid (HB0.out.alloc hz0 (.cells ((flatP prsR).map Value.string).toArray 9))
 refine (HN.out).mono ?_
 rintro e w3 ⟨Rp, rfl, hRp, hrp, hw3⟩
 have hRw : w.heap.size ≤ Rp := by simp at hRp; omega
 have HR3 := Lib.hid hrp
 have HB3 := Lib.hid (HBL.out.trans (hw3.mono (by simp; omega)))
 clear HN HBL hrp hw3 hRp hz0 HB0
 generalize w0.alloc _ = w00 at *
 go_wp2_with fail
 go_loopg [6, 18] f.length (fun gk sv iv wr => ∃ i : Nat, iv = .int .i64 i ∧ sv = .string (ofL (encF 2 (f.take i))) ∧ i ≤ f.length ∧ Hid ((ofL (encF 2 (f.take i))).size ≤ i * 6000) ∧ Hid (RpIn wr Rp prsR) ∧ Hid (Below w.heap.size w wr) ∧ f.length - i ≤ gk)
 case atStart => exact ⟨0, rfl, rfl, Nat.zero_le _, (by show _ ≤ _; rw [List.take_zero]; decide), HR3.out, HB3.out, Nat.le_refl _⟩
 case round =>
  clear HR3 HB3
  obtain ⟨i, rfl, rfl, hi, HSZ, HR, HB, hgk⟩ := hrel
  by_cases hlt : i < f.length
  ·have hii : (i : Int) < (f.length : Int) := by omega
   have hi0 : (0 : Int) ≤ (i : Int) := by omega
   obtain ⟨b, o, hA, hbl, p0, p1, p2⟩ := RdT.at_ H1.out i hlt
   subst hA
   have hmem := List.getElem_mem hlt
   have hwf := HV.out.wf _ hmem
   have hsx := HZ.out _ hmem
   have HNB := Lib.hid (HP.out _ hmem)
   have HTK := Lib.hid (encF_take 2 f i hlt)
   have hel := encE_len 2 f[i]
   have HSZ1 : Hid ((ofL (encF 2 (f.take (i + 1)))).size ≤ (i + 1) * 6000) := by
    show _ ≤ _
    have h := HSZ.out
    rw [Lib.size_eq] at h ⊢
    rw [ofL_list] at h ⊢
    rw [HTK.out, List.length_append]
    omega
   have q0 := (HB.out.cell (p := ⟨b, o + i * 3, none⟩) hbl).trans p0
   have q1 := (HB.out.cell (p := ⟨b, o + i * 3 + 1, none⟩) hbl).trans p1
   have q2 := (HB.out.cell (p := ⟨b, o + i * 3 + 2, none⟩) hbl).trans p2
   have hzr := HB.out.size
   obtain ⟨S, HS⟩ : ∃ S, Hid (S = ofL (encF 2 (f.take i))) := ⟨_, rfl⟩
   rw [← HS.out] at HSZ ⊢
   have hS : S.size ≤ 4000000 := by have := HSZ.out; omega
   clear hel hmem
   generalize f[i] = x at p0 p1 p2 q0 q1 q2 hwf hsx HTK HNB
   obtain ⟨xk, xt, xd⟩ := x
   simp only at p0 p1 p2 q0 q1 q2 hsx
   clear p0 p1 p2
   have HY : Hid ((wr.alloc (.cells #[.int .i64 xk, .string xt, .int .i64 xd] 31)).heap[wr.heap.size]? = some (.cells #[.int .i64 xk, .string xt, .int .i64 xd] 31)) := Array.getElem?_push_size
   have HB1 := Lib.hid (HB.out.alloc hzr (.cells #[.int .i64 xk, .string xt, .int .i64 xd] 31))
   have HR1 := Lib.hid (HR.out.below ((Below.refl _ wr).alloc (Nat.le_refl _) (.cells #[.int .i64 xk, .string xt, .int .i64 xd] 31)))
   obtain ⟨q, hq⟩ : ∃ q, Hid (q = wr.heap.size) := ⟨_, rfl⟩
   go_upto_region 9 with fail
   rw [← hq.out] at HY ⊢
   generalize wr.alloc (.cells #[.int .i64 xk, .string xt, .int .i64 xd] 31) = w1 at HY HB1 HR1 ⊢
   obtain ⟨y0, y1, y2, _⟩ := bx3 HY.out
   have HMQ := Lib.hid (below_cell0 HM.out HB1.out)
   rcases hwf with hk | ⟨hk, hnm, hd⟩ | ⟨hk, hct, hd1, hd2⟩ | ⟨hk, hnm, hd1, hd2⟩
   ·have hk' : xk = 1 := hk
    subst hk'
    have CR := Lib.hid (replace_any Rp prsR xt w1 HR1.out (by decide) (by decide) prsR_ok (by omega))
    have hrs : (ofL (repL prsR xt.data.toList)).size ≤ 6000 := by
     rw [rep_enc prsR 2 repR, Lib.size_eq, ofL_list]
     have := encL_len 2 xt.data.toList
     rw [← Lib.size_eq] at this
     omega
    have HE : Hid (S ++ ofL (repL prsR xt.data.toList) = ofL (encF 2 (f.take (i + 1)))) := by
     show _ = _
     rw [HTK.out, HS.out, ← ofL_app, rep_enc prsR 2 repR]
     rfl
    generalize ofL (repL prsR xt.data.toList) = res at CR hrs HE
    go_wp2_with (go_at_call 39; refine (CR.out).mono ?_; rintro e w2 ⟨rfl, hr2, hm2⟩; have HR2 := Lib.hid hr2; have HB2 := Lib.hid (HB1.out.trans (hm2.below (fun k hk => by rw [hk]; exact hRw) HB1.out.size)); clear hr2 hm2)
    rw [HE.out]
    go_roundg (f.length - (i + 1))
    case measure => omega
    case rel => exact ⟨i + 1, by go_num, rfl, hlt, HSZ1.out, HR2.out, HB2.out, by omega⟩
   ·have hk' : xk = 5 := hk
    subst hk'
    have HE : Hid (S ++ (((⟨#[123]⟩ : ByteArray) ++ xt) ++ (⟨#[125]⟩ : ByteArray)) = ofL (encF 2 (f.take (i + 1)))) := by
     show _ = _
     rw [HTK.out, HS.out, ← ofL_app]
     congr 1
     all_goals (
      apply ByteArray.ext
      apply Array.toList_inj.1
      simp [ofL, encE])
    go_wp2_with fail
    rw [HE.out]
    go_roundg (f.length - (i + 1))
    case measure => omega
    case rel => exact ⟨i + 1, by go_num, rfl, hlt, HSZ1.out, by first | exact HR1.out | exact HR1.out.below (below_drewN (Below.refl _ _) n2), by first | exact HB1.out | exact below_drewN HB1.out n2, by omega⟩
   ·exfalso
    rcases HNB.out with h | ⟨h, _⟩
    ·have h' : xk = 1 := h
     omega
    ·have h' : xk = 5 := h
     omega
   ·exfalso
    have hk' : xk = 3 := hk
    rcases HNB.out with h | ⟨h, _⟩
    ·have h' : xk = 1 := h
     omega
    ·have h' : xk = 5 := h
     omega
  ·obtain rfl : i = f.length := by omega
   rw [List.take_length] at HSZ ⊢
   generalize ofL (encF 2 f) = res at HSZ HRR
   go_wp2_with fail
   first | go_ret2 | skip
   rw [HRR.out]
   exact ⟨rfl, HB.out⟩
end Go.Proofs.YtfkojnofbpdjdaaGreatDoor

namespace Go.Proofs.YtfkojnofbpdjdaaGreatDoor
set_option maxRecDepth 100000
open Go.RowKit
theorem mkEncode_any (f : List Tk) (v : Value) (m : Int) (w : World) (hm : w.cell? ⟨0, 0, none⟩ = some (.int .i64 m)) (h1 : RdT w v f) (hv : ValF f) (hnb : NoBlock f) :
 Calls Tryz.prog 10 #[v] w fun e w' => e = .returned (.tuple #[.string (ofL (encF 1 f)), .int .i64 0]) ∧ Below w.heap.size w w' := by
 obtain ⟨R, HRR⟩ : ∃ R : Ending → World → Prop, Hid (R = fun e w' => e = .returned (.tuple #[.string (ofL (encF 1 f)), .int .i64 0]) ∧ Below w.heap.size w w') := ⟨_, rfl⟩
 rw [← HRR.out]
 have hsz := val_size f hv
 have CV := Lib.hid (validate_any f v m w hm h1 hv (fun x hx => by have := hsz x hx; omega))
 have hl1 := hv.len
 have HV := Lib.hid hv
 have H1 := Lib.hid h1
 have HM := Lib.hid hm
 have HZ := Lib.hid hsz
 have HP := Lib.hid hnb
 obtain ⟨A, c, rfl, hcap, _⟩ := h1.shape
 clear h1 hv hm hsz hnb
 go_enter Tryz.func10, Tryz.ntmps10
 go_wp2_with (go_at_call 37; refine (CV.out).mono ?_; rintro e w0 ⟨rfl, hw0⟩; have HB0 := Lib.hid hw0; have hz0 := hw0.size; clear hw0)
 have HN := Lib.hid (newReplacer_any prsM _ _ (rdE_lit (flatP prsM) w0 9) (by decide) (by decide))
 have HBL := Lib.hid (HB0.out.alloc hz0 (.cells ((flatP prsM).map Value.string).toArray 9))
 refine (HN.out).mono ?_
 rintro e w3 ⟨Rp, rfl, hRp, hrp, hw3⟩
 have hRw : w.heap.size ≤ Rp := by simp at hRp; omega
 have HR3 := Lib.hid hrp
 have HB3 := Lib.hid (HBL.out.trans (hw3.mono (by simp; omega)))
 clear HN HBL hrp hw3 hRp hz0 HB0
 generalize w0.alloc _ = w00 at *
 go_wp2_with fail
 go_loopg [6, 18] f.length (fun gk sv iv wr => ∃ i : Nat, iv = .int .i64 i ∧ sv = .string (ofL (encF 1 (f.take i))) ∧ i ≤ f.length ∧ Hid ((ofL (encF 1 (f.take i))).size ≤ i * 6000) ∧ Hid (RpIn wr Rp prsM) ∧ Hid (Below w.heap.size w wr) ∧ f.length - i ≤ gk)
 case atStart => exact ⟨0, rfl, rfl, Nat.zero_le _, (by show _ ≤ _; rw [List.take_zero]; decide), HR3.out, HB3.out, Nat.le_refl _⟩
 case round =>
  clear HR3 HB3
  obtain ⟨i, rfl, rfl, hi, HSZ, HR, HB, hgk⟩ := hrel
  by_cases hlt : i < f.length
  ·have hii : (i : Int) < (f.length : Int) := by omega
   have hi0 : (0 : Int) ≤ (i : Int) := by omega
   obtain ⟨b, o, hA, hbl, p0, p1, p2⟩ := RdT.at_ H1.out i hlt
   subst hA
   have hmem := List.getElem_mem hlt
   have hwf := HV.out.wf _ hmem
   have hsx := HZ.out _ hmem
   have HNB := Lib.hid (HP.out _ hmem)
   have HTK := Lib.hid (encF_take 1 f i hlt)
   have hel := encE_len 1 f[i]
   have HSZ1 : Hid ((ofL (encF 1 (f.take (i + 1)))).size ≤ (i + 1) * 6000) := by
    show _ ≤ _
    have h := HSZ.out
    rw [Lib.size_eq] at h ⊢
    rw [ofL_list] at h ⊢
    rw [HTK.out, List.length_append]
    omega
   have q0 := (HB.out.cell (p := ⟨b, o + i * 3, none⟩) hbl).trans p0
   have q1 := (HB.out.cell (p := ⟨b, o + i * 3 + 1, none⟩) hbl).trans p1
   have q2 := (HB.out.cell (p := ⟨b, o + i * 3 + 2, none⟩) hbl).trans p2
   have hzr := HB.out.size
   obtain ⟨S, HS⟩ : ∃ S, Hid (S = ofL (encF 1 (f.take i))) := ⟨_, rfl⟩
   rw [← HS.out] at HSZ ⊢
   have hS : S.size ≤ 4000000 := by have := HSZ.out; omega
   clear hel hmem
   generalize f[i] = x at p0 p1 p2 q0 q1 q2 hwf hsx HTK HNB
   obtain ⟨xk, xt, xd⟩ := x
   simp only at p0 p1 p2 q0 q1 q2 hsx
   clear p0 p1 p2
   have HY : Hid ((wr.alloc (.cells #[.int .i64 xk, .string xt, .int .i64 xd] 31)).heap[wr.heap.size]? = some (.cells #[.int .i64 xk, .string xt, .int .i64 xd] 31)) := Array.getElem?_push_size
   have HB1 := Lib.hid (HB.out.alloc hzr (.cells #[.int .i64 xk, .string xt, .int .i64 xd] 31))
   have HR1 := Lib.hid (HR.out.below ((Below.refl _ wr).alloc (Nat.le_refl _) (.cells #[.int .i64 xk, .string xt, .int .i64 xd] 31)))
   obtain ⟨q, hq⟩ : ∃ q, Hid (q = wr.heap.size) := ⟨_, rfl⟩
   go_upto_region 9 with fail
   rw [← hq.out] at HY ⊢
   generalize wr.alloc (.cells #[.int .i64 xk, .string xt, .int .i64 xd] 31) = w1 at HY HB1 HR1 ⊢
   obtain ⟨y0, y1, y2, _⟩ := bx3 HY.out
   have HMQ := Lib.hid (below_cell0 HM.out HB1.out)
   rcases hwf with hk | ⟨hk, hnm, hd⟩ | ⟨hk, hct, hd1, hd2⟩ | ⟨hk, hnm, hd1, hd2⟩
   ·have hk' : xk = 1 := hk
    subst hk'
    have CR := Lib.hid (replace_any Rp prsM xt w1 HR1.out (by decide) (by decide) prsM_ok (by omega))
    have hrs : (ofL (repL prsM xt.data.toList)).size ≤ 6000 := by
     rw [rep_enc prsM 1 repM, Lib.size_eq, ofL_list]
     have := encL_len 1 xt.data.toList
     rw [← Lib.size_eq] at this
     omega
    have HE : Hid (S ++ ofL (repL prsM xt.data.toList) = ofL (encF 1 (f.take (i + 1)))) := by
     show _ = _
     rw [HTK.out, HS.out, ← ofL_app, rep_enc prsM 1 repM]
     rfl
    generalize ofL (repL prsM xt.data.toList) = res at CR hrs HE
    go_wp2_with (go_at_call 39; refine (CR.out).mono ?_; rintro e w2 ⟨rfl, hr2, hm2⟩; have HR2 := Lib.hid hr2; have HB2 := Lib.hid (HB1.out.trans (hm2.below (fun k hk => by rw [hk]; exact hRw) HB1.out.size)); clear hr2 hm2)
    rw [HE.out]
    go_roundg (f.length - (i + 1))
    case measure => omega
    case rel => exact ⟨i + 1, by go_num, rfl, hlt, HSZ1.out, HR2.out, HB2.out, by omega⟩
   ·have hk' : xk = 5 := hk
    subst hk'
    have HE : Hid (S ++ (((⟨#[123]⟩ : ByteArray) ++ xt) ++ (⟨#[125]⟩ : ByteArray)) = ofL (encF 1 (f.take (i + 1)))) := by
     show _ = _
     rw [HTK.out, HS.out, ← ofL_app]
     congr 1
     all_goals (
      apply ByteArray.ext
      apply Array.toList_inj.1
      simp [ofL, encE])
    go_wp2_with fail
    rw [HE.out]
    go_roundg (f.length - (i + 1))
    case measure => omega
    case rel => exact ⟨i + 1, by go_num, rfl, hlt, HSZ1.out, by first | exact HR1.out | exact HR1.out.below (below_drewN (Below.refl _ _) n2), by first | exact HB1.out | exact below_drewN HB1.out n2, by omega⟩
   ·rcases hk with hk | hk
    ·have hk' : xk = 2 := hk
     subst hk'
     have HE : Hid (S ++ (((⟨#[60]⟩ : ByteArray) ++ xt) ++ (⟨#[62]⟩ : ByteArray)) = ofL (encF 1 (f.take (i + 1)))) := by
      show _ = _
      rw [HTK.out, HS.out, ← ofL_app]
      congr 1
      all_goals (
       apply ByteArray.ext
       apply Array.toList_inj.1
       simp [ofL, encE])
     have HN := Lib.hid (fun w (hm : w.cell? ⟨0, 0, none⟩ = some (.int .i64 m)) => name_mk xt m w (by omega) hm)
     have HBL := Lib.hid (fun w => isBlock_no (ofL (tagN xt.data.toList)) w (by simpa [ofL] using HNB.out (by unfold TagI; first | exact Or.inl rfl | exact Or.inr (Or.inl rfl) | exact Or.inr (Or.inr rfl))))
     generalize ofL (tagN xt.data.toList) = tn at HN HBL
     have y0' : w1.cell? ⟨q, 0, none⟩ = some (.int .i64 2) := y0
     go_wp2_with (first
      | (go_at_call 41; refine (HN.out _ (by exact HMQ.out)).mono ?_; rintro e w2 ⟨rfl, n2, rfl⟩)
      | (go_at_call 40; refine (HBL.out _).mono ?_; rintro e w' ⟨rfl, rfl⟩))
     rw [HE.out]
     go_roundg (f.length - (i + 1))
     case measure => omega
     case rel => exact ⟨i + 1, by go_num, rfl, hlt, HSZ1.out, by first | exact HR1.out | exact HR1.out.below (below_drewN (Below.refl _ _) n2), by first | exact HB1.out | exact below_drewN HB1.out n2, by omega⟩
    ·have hk' : xk = 4 := hk
     subst hk'
     have HE : Hid (S ++ (((⟨#[60]⟩ : ByteArray) ++ xt) ++ (⟨#[47, 62]⟩ : ByteArray)) = ofL (encF 1 (f.take (i + 1)))) := by
      show _ = _
      rw [HTK.out, HS.out, ← ofL_app]
      congr 1
      all_goals (
       apply ByteArray.ext
       apply Array.toList_inj.1
       simp [ofL, encE])
     have HN := Lib.hid (fun w (hm : w.cell? ⟨0, 0, none⟩ = some (.int .i64 m)) => name_mk xt m w (by omega) hm)
     have HBL := Lib.hid (fun w => isBlock_no (ofL (tagN xt.data.toList)) w (by simpa [ofL] using HNB.out (by unfold TagI; first | exact Or.inl rfl | exact Or.inr (Or.inl rfl) | exact Or.inr (Or.inr rfl))))
     generalize ofL (tagN xt.data.toList) = tn at HN HBL
     have y0' : w1.cell? ⟨q, 0, none⟩ = some (.int .i64 4) := y0
     go_wp2_with (first
      | (go_at_call 41; refine (HN.out _ (by exact HMQ.out)).mono ?_; rintro e w2 ⟨rfl, n2, rfl⟩)
      | (go_at_call 40; refine (HBL.out _).mono ?_; rintro e w' ⟨rfl, rfl⟩))
     rw [HE.out]
     go_roundg (f.length - (i + 1))
     case measure => omega
     case rel => exact ⟨i + 1, by go_num, rfl, hlt, HSZ1.out, by first | exact HR1.out | exact HR1.out.below (below_drewN (Below.refl _ _) n2), by first | exact HB1.out | exact below_drewN HB1.out n2, by omega⟩
   ·have hk' : xk = 3 := hk
    subst hk'
    have HE : Hid (S ++ (((⟨#[60, 47]⟩ : ByteArray) ++ xt) ++ (⟨#[62]⟩ : ByteArray)) = ofL (encF 1 (f.take (i + 1)))) := by
     show _ = _
     rw [HTK.out, HS.out, ← ofL_app]
     congr 1
     all_goals (
      apply ByteArray.ext
      apply Array.toList_inj.1
      simp [ofL, encE])
    have HN := Lib.hid (fun w (hm : w.cell? ⟨0, 0, none⟩ = some (.int .i64 m)) => name_mk xt m w (by omega) hm)
    have HBL := Lib.hid (fun w => isBlock_no (ofL (tagN xt.data.toList)) w (by simpa [ofL] using HNB.out (by unfold TagI; first | exact Or.inl rfl | exact Or.inr (Or.inl rfl) | exact Or.inr (Or.inr rfl))))
    generalize ofL (tagN xt.data.toList) = tn at HN HBL
    have y0' : w1.cell? ⟨q, 0, none⟩ = some (.int .i64 3) := y0
    go_wp2_with (first
     | (go_at_call 41; refine (HN.out _ (by exact HMQ.out)).mono ?_; rintro e w2 ⟨rfl, n2, rfl⟩)
     | (go_at_call 40; refine (HBL.out _).mono ?_; rintro e w' ⟨rfl, rfl⟩))
    rw [HE.out]
    go_roundg (f.length - (i + 1))
    case measure => omega
    case rel => exact ⟨i + 1, by go_num, rfl, hlt, HSZ1.out, by first | exact HR1.out | exact HR1.out.below (below_drewN (Below.refl _ _) n2), by first | exact HB1.out | exact below_drewN HB1.out n2, by omega⟩
  ·obtain rfl : i = f.length := by omega
   rw [List.take_length] at HSZ ⊢
   generalize ofL (encF 1 f) = res at HSZ HRR
   go_wp2_with fail
   first | go_ret2 | skip
   rw [HRR.out]
   exact ⟨rfl, HB.out⟩
end Go.Proofs.YtfkojnofbpdjdaaGreatDoor

namespace Go.Proofs.YtfkojnofbpdjdaaGreatDoor
set_option maxRecDepth 100000
open Go.RowKit
def splF (fmt : Int) : FuncId := if fmt = 1 then 94 else if fmt = 2 then 95 else 96
def decFn (fmt : Int) : FuncId := if fmt = 1 then 13 else if fmt = 2 then 14 else 15
def encFn (fmt : Int) : FuncId := if fmt = 1 then 10 else if fmt = 2 then 11 else 12
def cutFn (fmt : Int) : FuncId := if fmt = 1 then 106 else if fmt = 2 then 107 else 108
def FmtOk (fmt : Int) : Prop := fmt = 1 ∨ fmt = 2 ∨ fmt = 3
def DecRet3 (f : List Tk) (w : World) (e : Ending) (w' : World) : Prop :=
 ∃ v, e = .returned (.tuple #[v, .int .i64 0, .int .i64 0]) ∧ OwnT 31 w' w.heap.size v f ∧ Below w.heap.size w w'
def DDecRet (f : List Tk) (w : World) (e : Ending) (w' : World) : Prop :=
 ∃ v, e = .returned (.tuple #[v, .int .i64 0]) ∧ OwnT 31 w' w.heap.size v f ∧ Below w.heap.size w w'
def CutRet (l : List Int) (w : World) (e : Ending) (w' : World) : Prop :=
 ∃ v, e = .returned (.tuple #[v, .int .i64 0]) ∧ OwnE 3 intC 1 w' w.heap.size v l ∧ Below w.heap.size w w'
def EncRet (s : ByteArray) (w : World) (e : Ending) (w' : World) : Prop :=
 e = .returned (.tuple #[.string s, .int .i64 0]) ∧ Below w.heap.size w w'
theorem known_any (fmt : Int) (h : FmtOk fmt) (w : World) : Calls Tryz.prog 55 #[.int .i64 fmt] w (fun e w' => e = .returned (.bool true) ∧ w = w') := by
 rcases h with rfl | rfl | rfl
 all_goals (
  go_enter Tryz.func55, Tryz.ntmps55
  go_wp2
  go_ret
  exact ⟨rfl, rfl⟩)
theorem split_1 (data : ByteArray) (ps : List Pt) (w : World) (h : Calls Tryz.prog 94 #[.string data] w (PtsRet ps w)) :
 Calls Tryz.prog 57 #[.int .i64 1, .string data] w (PtsRet ps w) := by
 have HC := Lib.hid h
 clear h
 go_enter Tryz.func57, Tryz.ntmps57
 go_wp2_with (go_at_call 94; refine (HC.out).mono ?_; rintro e w1 ⟨v, rfl, ho, hb⟩; obtain ⟨A, c, rfl⟩ := own_shape ho; have HO := Lib.hid ho; have HB := Lib.hid hb; clear ho hb)
 go_ret3
 exact ⟨_, rfl, HO.out, HB.out⟩
theorem split_2 (data : ByteArray) (ps : List Pt) (w : World) (h : Calls Tryz.prog 95 #[.string data] w (PtsRet ps w)) :
 Calls Tryz.prog 57 #[.int .i64 2, .string data] w (PtsRet ps w) := by
 have HC := Lib.hid h
 clear h
 go_enter Tryz.func57, Tryz.ntmps57
 go_wp2_with (go_at_call 95; refine (HC.out).mono ?_; rintro e w1 ⟨v, rfl, ho, hb⟩; obtain ⟨A, c, rfl⟩ := own_shape ho; have HO := Lib.hid ho; have HB := Lib.hid hb; clear ho hb)
 go_ret3
 exact ⟨_, rfl, HO.out, HB.out⟩
theorem split_3 (data : ByteArray) (ps : List Pt) (w : World) (h : Calls Tryz.prog 96 #[.string data] w (PtsRet ps w)) :
 Calls Tryz.prog 57 #[.int .i64 3, .string data] w (PtsRet ps w) := by
 have HC := Lib.hid h
 clear h
 go_enter Tryz.func57, Tryz.ntmps57
 go_wp2_with (go_at_call 96; refine (HC.out).mono ?_; rintro e w1 ⟨v, rfl, ho, hb⟩; obtain ⟨A, c, rfl⟩ := own_shape ho; have HO := Lib.hid ho; have HB := Lib.hid hb; clear ho hb)
 go_ret3
 exact ⟨_, rfl, HO.out, HB.out⟩
theorem dec_1 (raw : ByteArray) (f : List Tk) (w : World) (h : Calls Tryz.prog 13 #[.string raw] w (DecRet3 f w)) :
 Calls Tryz.prog 56 #[.int .i64 1, .string raw] w (DDecRet f w) := by
 have HC := Lib.hid h
 clear h
 go_enter Tryz.func56, Tryz.ntmps56
 go_wp2_with (go_at_call 13; refine (HC.out).mono ?_; rintro e w1 ⟨v, rfl, ho, hb⟩; obtain ⟨A, c, rfl⟩ := own_shape ho; have HO := Lib.hid ho; have HB := Lib.hid hb; clear ho hb)
 go_ret2
 exact ⟨_, rfl, HO.out, HB.out⟩
theorem dec_2 (raw : ByteArray) (f : List Tk) (w : World) (h : Calls Tryz.prog 14 #[.string raw] w (DecRet3 f w)) :
 Calls Tryz.prog 56 #[.int .i64 2, .string raw] w (DDecRet f w) := by
 have HC := Lib.hid h
 clear h
 go_enter Tryz.func56, Tryz.ntmps56
 go_wp2_with (go_at_call 14; refine (HC.out).mono ?_; rintro e w1 ⟨v, rfl, ho, hb⟩; obtain ⟨A, c, rfl⟩ := own_shape ho; have HO := Lib.hid ho; have HB := Lib.hid hb; clear ho hb)
 go_ret2
 exact ⟨_, rfl, HO.out, HB.out⟩
theorem dec_3 (raw : ByteArray) (f : List Tk) (w : World) (h : Calls Tryz.prog 15 #[.string raw] w (DecRet3 f w)) :
 Calls Tryz.prog 56 #[.int .i64 3, .string raw] w (DDecRet f w) := by
 have HC := Lib.hid h
 clear h
 go_enter Tryz.func56, Tryz.ntmps56
 go_wp2_with (go_at_call 15; refine (HC.out).mono ?_; rintro e w1 ⟨v, rfl, ho, hb⟩; obtain ⟨A, c, rfl⟩ := own_shape ho; have HO := Lib.hid ho; have HB := Lib.hid hb; clear ho hb)
 go_ret2
 exact ⟨_, rfl, HO.out, HB.out⟩
theorem cuts_1 (raw : ByteArray) (l : List Int) (w : World) (h : Calls Tryz.prog 106 #[.string raw] w (CutRet l w)) :
 Calls Tryz.prog 67 #[.int .i64 1, .string raw] w (CutRet l w) := by
 have HC := Lib.hid h
 clear h
 go_enter Tryz.func67, Tryz.ntmps67
 go_wp2_with (go_at_call 106; refine (HC.out).mono ?_; rintro e w1 ⟨v, rfl, ho, hb⟩; obtain ⟨A, c, rfl⟩ := own_shape ho; have HO := Lib.hid ho; have HB := Lib.hid hb; clear ho hb)
 go_ret2
 exact ⟨_, rfl, HO.out, HB.out⟩
theorem cuts_2 (raw : ByteArray) (l : List Int) (w : World) (h : Calls Tryz.prog 107 #[.string raw] w (CutRet l w)) :
 Calls Tryz.prog 67 #[.int .i64 2, .string raw] w (CutRet l w) := by
 have HC := Lib.hid h
 clear h
 go_enter Tryz.func67, Tryz.ntmps67
 go_wp2_with (go_at_call 107; refine (HC.out).mono ?_; rintro e w1 ⟨v, rfl, ho, hb⟩; obtain ⟨A, c, rfl⟩ := own_shape ho; have HO := Lib.hid ho; have HB := Lib.hid hb; clear ho hb)
 go_ret2
 exact ⟨_, rfl, HO.out, HB.out⟩
theorem cuts_3 (raw : ByteArray) (l : List Int) (w : World) (h : Calls Tryz.prog 108 #[.string raw] w (CutRet l w)) :
 Calls Tryz.prog 67 #[.int .i64 3, .string raw] w (CutRet l w) := by
 have HC := Lib.hid h
 clear h
 go_enter Tryz.func67, Tryz.ntmps67
 go_wp2_with (go_at_call 108; refine (HC.out).mono ?_; rintro e w1 ⟨v, rfl, ho, hb⟩; obtain ⟨A, c, rfl⟩ := own_shape ho; have HO := Lib.hid ho; have HB := Lib.hid hb; clear ho hb)
 go_ret2
 exact ⟨_, rfl, HO.out, HB.out⟩
theorem enc_1 (A : Option Addr) (n c : Nat) (s : ByteArray) (w : World) (h : Calls Tryz.prog 10 #[.slice A n c] w (EncRet s w)) :
 Calls Tryz.prog 68 #[.int .i64 1, .slice A n c] w (EncRet s w) := by
 have HC := Lib.hid h
 clear h
 go_enter Tryz.func68, Tryz.ntmps68
 go_wp2_with (go_at_call 10; refine (HC.out).mono ?_; rintro e w1 ⟨rfl, hb⟩; have HB := Lib.hid hb; clear hb)
 go_ret2
 exact ⟨rfl, HB.out⟩
theorem enc_2 (A : Option Addr) (n c : Nat) (s : ByteArray) (w : World) (h : Calls Tryz.prog 11 #[.slice A n c] w (EncRet s w)) :
 Calls Tryz.prog 68 #[.int .i64 2, .slice A n c] w (EncRet s w) := by
 have HC := Lib.hid h
 clear h
 go_enter Tryz.func68, Tryz.ntmps68
 go_wp2_with (go_at_call 11; refine (HC.out).mono ?_; rintro e w1 ⟨rfl, hb⟩; have HB := Lib.hid hb; clear hb)
 go_ret2
 exact ⟨rfl, HB.out⟩
theorem enc_3 (A : Option Addr) (n c : Nat) (s : ByteArray) (w : World) (h : Calls Tryz.prog 12 #[.slice A n c] w (EncRet s w)) :
 Calls Tryz.prog 68 #[.int .i64 3, .slice A n c] w (EncRet s w) := by
 have HC := Lib.hid h
 clear h
 go_enter Tryz.func68, Tryz.ntmps68
 go_wp2_with (go_at_call 12; refine (HC.out).mono ?_; rintro e w1 ⟨rfl, hb⟩; have HB := Lib.hid hb; clear hb)
 go_ret2
 exact ⟨rfl, HB.out⟩
theorem split_any (fmt : Int) (hf : FmtOk fmt) (data : ByteArray) (ps : List Pt) (w : World) (h : Calls Tryz.prog (splF fmt) #[.string data] w (PtsRet ps w)) :
 Calls Tryz.prog 57 #[.int .i64 fmt, .string data] w (PtsRet ps w) := by
 rcases hf with rfl | rfl | rfl
 ·exact split_1 data ps w h
 ·exact split_2 data ps w h
 ·exact split_3 data ps w h
theorem dec_any (fmt : Int) (hf : FmtOk fmt) (raw : ByteArray) (f : List Tk) (w : World) (h : Calls Tryz.prog (decFn fmt) #[.string raw] w (DecRet3 f w)) :
 Calls Tryz.prog 56 #[.int .i64 fmt, .string raw] w (DDecRet f w) := by
 rcases hf with rfl | rfl | rfl
 ·exact dec_1 raw f w h
 ·exact dec_2 raw f w h
 ·exact dec_3 raw f w h
theorem cuts_any (fmt : Int) (hf : FmtOk fmt) (raw : ByteArray) (l : List Int) (w : World) (h : Calls Tryz.prog (cutFn fmt) #[.string raw] w (CutRet l w)) :
 Calls Tryz.prog 67 #[.int .i64 fmt, .string raw] w (CutRet l w) := by
 rcases hf with rfl | rfl | rfl
 ·exact cuts_1 raw l w h
 ·exact cuts_2 raw l w h
 ·exact cuts_3 raw l w h
theorem enc_any (fmt : Int) (hf : FmtOk fmt) (A : Option Addr) (n c : Nat) (s : ByteArray) (w : World) (h : Calls Tryz.prog (encFn fmt) #[.slice A n c] w (EncRet s w)) :
 Calls Tryz.prog 68 #[.int .i64 fmt, .slice A n c] w (EncRet s w) := by
 rcases hf with rfl | rfl | rfl
 ·exact enc_1 A n c s w h
 ·exact enc_2 A n c s w h
 ·exact enc_3 A n c s w h
end Go.Proofs.YtfkojnofbpdjdaaGreatDoor

namespace Go.Proofs.YtfkojnofbpdjdaaGreatDoor
set_option maxRecDepth 100000
open Go.RowKit
def bytesP (ps : List Pt) : List UInt8 := (ps.map fun p => p.raw.data.toList).flatten
theorem bytesP_take (ps : List Pt) (k : Nat) (h : k < ps.length) : bytesP (ps.take (k + 1)) = bytesP (ps.take k) ++ ps[k].raw.data.toList := by
 unfold bytesP
 rw [List.take_succ_eq_append_getElem h, List.map_append, List.flatten_append]
 simp
theorem bytesP_le (ps : List Pt) (k : Nat) : (bytesP (ps.take k)).length ≤ (bytesP ps).length := by
 have := congrArg (fun l => (bytesP l).length) (List.take_append_drop k ps)
 unfold bytesP at *
 simp only [List.map_append, List.flatten_append, List.length_append] at this
 omega
theorem isB_below {T e : TypeId} {B b : Nat} {bs : List Value} {w w' : World} (h : Lib.IsBuilder T e B b bs w) (hb : Below w.heap.size w w') : Lib.IsBuilder T e B b bs w' := by
 have k : ∀ p, Lib.BuilderAt T e B b p bs w → Lib.BuilderAt T e B b p bs w' := by
  rintro p ⟨hB, v, hbk, hown, hne⟩
  exact ⟨hB, v, (hb.block b (Array.getElem?_eq_some_iff.1 hbk).1).trans hbk, own_same hown fun k hk => hb.block k (hown.lt k hk).2, hne⟩
 exact h.imp (k _) (k _)
theorem bytes_any (fmt : Int) (ps : List Pt) (A : Option Addr) (c : Nat) (w : World) (h : RdE ptC 3 w (.slice A ps.length c) ps) (hl : ps.length ≤ 100000) (hsz : (bytesP ps).length ≤ 1000000) :
 Calls Tryz.prog 24 #[.agg #[.int .i64 fmt, .slice A ps.length c]] w (fun e w' => e = .returned (.string (ofL (bytesP ps))) ∧ Below w.heap.size w w') := by
 obtain ⟨R, HRR⟩ : ∃ R : Ending → World → Prop, Hid (R = fun e w' => e = .returned (.string (ofL (bytesP ps))) ∧ Below w.heap.size w w') := ⟨_, rfl⟩
 rw [← HRR.out]
 have HP := Lib.hid h
 have HSZ := Lib.hid hsz
 have HB0 := Lib.hid (((Below.refl w.heap.size w).alloc (Nat.le_refl _) (.cells #[.int .i64 fmt, .slice A ps.length c] 41)).alloc (by simp) (.cells #[.pointer none, .slice none 0 0] 117))
 have HI0 : Hid (Lib.IsBuilder 117 5 w.heap.size (w.heap.size + 1) [] ((w.alloc (.cells #[.int .i64 fmt, .slice A ps.length c] 41)).alloc (.cells #[.pointer none, .slice none 0 0] 117))) := by
  refine .inl ⟨Nat.le_succ _, .slice none 0 0, ?_, World.ownsRow_nil _ _ _ _, by simp [Value.ownBlock]⟩
  have := heap_alloc_new (w.alloc (.cells #[.int .i64 fmt, .slice A ps.length c] 41)) (.cells #[.pointer none, .slice none 0 0] 117)
  simpa using this
 clear h hsz
 go_enter Tryz.func24, Tryz.ntmps24
 go_wp2_with fail
 obtain ⟨M, hM⟩ : ∃ M, Hid (w.heap.size + 1 = M) := ⟨_, rfl⟩
 rw [hM.out] at HI0
 rw [hM.out]
 have HMM : Hid (w.heap.size ≤ M) := by show _ ≤ _; have := hM.out; omega
 go_loopg [9] ps.length (fun gk iv wr => ∃ k : Nat, iv = .int .i64 k ∧ k ≤ ps.length ∧ Hid (Lib.IsBuilder 117 5 w.heap.size M (Lib.byteCells (bytesP (ps.take k))) wr) ∧ Hid (Below w.heap.size w wr) ∧ ps.length - k ≤ gk)
 case atStart => exact ⟨0, rfl, Nat.zero_le _, HI0.out, HB0.out, Nat.le_refl _⟩
 case round =>
  obtain ⟨k, rfl, hk, HI, HB, hgk⟩ := hrel
  clear HI0 HB0
  by_cases hlt : k < ps.length
  ·obtain ⟨b, o, rfl, hb, c0, c1, c2⟩ := RdP.at_ (HP.out.below HB.out (Nat.le_refl _)) k hlt
   have hf1 := bytesP_le ps (k + 1)
   have hft := bytesP_take ps k hlt
   have hsz := HSZ.out
   have hlen : (Lib.byteCells (bytesP (ps.take k))).length + ps[k].raw.size ≤ 140737488355328 := by
    rw [Lib.byteCells_length, Lib.size_eq]
    rw [hft, List.length_append] at hf1
    omega
   have HFT : Hid (Lib.byteCells (bytesP (ps.take k)) ++ Lib.strCells ps[k].raw = Lib.byteCells (bytesP (ps.take (k + 1)))) := by show _ = _; rw [hft, Lib.byteCells_append, Lib.strCells_eq]
   have hz := HB.out.size
   have CW := Lib.hid (fun (w' : World) (h : Lib.IsBuilder 117 5 w.heap.size M (Lib.byteCells (bytesP (ps.take k))) w') (hb : w.heap.size ≤ w'.heap.size) => writeString_any w.heap.size M _ ps[k].raw w' h hlen hb)
   rw [HFT.out] at CW
   clear hf1 hft hsz hlen HFT
   generalize ps[k].raw = x2 at *
   generalize ps[k].key = x1 at *
   generalize ps[k].un = x0 at *
   have HA := Lib.hid ((Below.refl wr.heap.size wr).alloc (Nat.le_refl _) (.cells #[.bool x0, .string x1, .string x2] 52))
   go_wp2_with (go_at_call 53; refine (CW.out _ (by exact isB_below HI.out HA.out) (by exact Nat.le_trans hz HA.out.size)).mono ?_; rintro e w1 ⟨rfl, h1, hb1⟩; have HI1 := Lib.hid h1; have HB1 := Lib.hid (HB.out.trans ((HA.out.mono hz).trans hb1)); clear h1 hb1)
   go_roundg (ps.length - (k + 1))
   case measure => omega
   case rel => exact ⟨k + 1, rfl, hlt, .inr HI1.out, HB1.out, Nat.le_refl _⟩
  ·obtain rfl : k = ps.length := by omega
   rw [List.take_length] at HI
   have CS := Lib.hid (Tryz.Builder_String_any w.heap.size M (bytesP ps) wr HI.out HB.out.size)
   go_wp2_with (go_at_call 54; refine (CS.out).mono ?_; rintro e w1 ⟨rfl, hb1⟩; have HB1 := Lib.hid (HB.out.trans hb1); clear hb1)
   first | go_ret | skip
   rw [HRR.out]
   exact ⟨rfl, HB1.out⟩
end Go.Proofs.YtfkojnofbpdjdaaGreatDoor

namespace Go.Proofs.YtfkojnofbpdjdaaGreatDoor
set_option maxRecDepth 100000
open Go.RowKit Go.Maps
theorem int_keyedI : Keyed Tryz.prog 3 := int_keyed Tryz.underlying3
theorem key_int (d : Int) (h : IntIn d) : keyOf Tryz.prog 3 (.int .i64 d) = some (.int .i64 d) := keyOf_int_mk Tryz.underlying3 (by
 show (decide (IntKind.i64.min ≤ d) && decide (d ≤ IntKind.i64.max)) = true
 have e1 : IntKind.i64.min = -9223372036854775808 := by decide
 have e2 : IntKind.i64.max = 9223372036854775807 := by decide
 rw [e1, e2, Bool.and_eq_true]
 exact ⟨decide_eq_true h.1, decide_eq_true h.2⟩)
def IntSet (w : World) (b n : Nat) (S : List Int) : Prop :=
 ∃ D : DataW Unit, w.ownsMap Tryz.prog 3 (plainElem Tryz.prog 4) b n D ∧ IsMap D ∧ ∀ d : Int, IntIn d → D.atKey (.int .i64 d) (.lit (.bool false)) = .lit (.bool (decide (d ∈ S)))
theorem zero_boolI (w : World) : (zeroValue 4).run Tryz.prog w = .ok (.bool false) w := by kernel_rfl
theorem zero_intI (w : World) : (zeroValue 3).run Tryz.prog w = .ok (.int .i64 0) w := by kernel_rfl
theorem IntSet.made (w : World) : IntSet (w.alloc (.map #[] 0)) w.heap.size 0 [] :=
 ⟨_, World.ownsMap_made _ _ _ _, isMap_empty, fun _ _ => rfl⟩
theorem IntSet.lt {w : World} {b n : Nat} {S : List Int} (h : IntSet w b n S) : b < w.heap.size := by
 obtain ⟨D, h1, _⟩ := h
 exact h1.lt
theorem IntSet.same {w w' : World} {b n : Nat} {S : List Int} (h : IntSet w b n S) (e : w'.heap[b]? = w.heap[b]?) : IntSet w' b n S := by
 obtain ⟨D, ⟨es, clock, hb, F, hs, hD⟩, h2⟩ := h
 exact ⟨D, ⟨es, clock, e.trans hb, F, hs, hD⟩, h2⟩
theorem IntSet.apart {w : World} {b n : Nat} {S : List Int} (h : IntSet w b n S) {B : Nat} {e : TypeId} {size m : Nat} {v : Value} {xs : List Value} (ho : w.ownsRow B e size v m xs) : v.ownBlock ≠ some b := by
 intro hk
 obtain ⟨D, ⟨es, clock, hb, _⟩, _⟩ := h
 obtain ⟨cur, hc⟩ := own_row_at ho hk
 rw [hc] at hb
 cases hb
theorem plainElem_bool_invI {v : Value} {x : Bool} {ps : List MemPlace} (h : plainElem (H := Unit) Tryz.prog 4 v = some (.lit (.bool x), ps)) : v = .bool x := by
 unfold plainElem at h
 rw [Tryz.underlying4] at h
 cases v <;> simp_all
theorem IntSet.look {w : World} {b n : Nat} {S : List Int} (h : IntSet w b n S) (d : Int) (hd : IntIn d) :
 (Instr.lookup 223 (.map (some b)) (.int .i64 d) false).run Tryz.prog w = .ok (.bool (decide (d ∈ S))) w := by
 obtain ⟨D, h1, h2, h3⟩ := h
 obtain ⟨v, ps, hlk, hR⟩ := h1.lookup int_keyedI Tryz.underlying223 (zero_boolI w) (plainElem_bool Tryz.underlying4 false) (key_int d hd)
 rw [h3 d hd] at hR
 rw [hlk, plainElem_bool_invI hR]
theorem IntSet.put {w : World} {b n : Nat} {S : List Int} (h : IntSet w b n S) (d : Int) (hd : IntIn d) (hn : n < maxLen) :
 ∃ w2, (Instr.mapUpdate 223 (.map (some b)) (.int .i64 d) (.bool true)).run Tryz.prog w = .ok () w2 ∧ IntSet w2 b (n + 1) (S ++ [d]) ∧ w.grownBy w2 (some b) := by
 obtain ⟨D, h1, h2, h3⟩ := h
 have hkey := key_int d hd
 obtain ⟨w2, hup, hown, hg⟩ := h1.update int_keyedI Tryz.underlying223 hn hkey (plainElem_bool (H := Unit) Tryz.underlying4 true)
 refine ⟨w2, hup, ⟨_, hown, h2.put _ _, fun u hu => ?_⟩, hg⟩
 by_cases e : u = d
 ·rw [e, atKey_put_same h2 (int_keyedI.key hkey)]
  simp
 ·rw [atKey_put_other (fun e' => e (by injection e'))]
  rw [h3 u hu]
  simp [e]
def IdMap (w : World) (b n : Nat) (lo hi : Int) : Prop :=
 ∃ D : DataW Unit, w.ownsMap Tryz.prog 3 (plainElem Tryz.prog 3) b n D ∧ IsMap D ∧ ∀ d : Int, IntIn d → lo ≤ d → d ≤ hi → ∀ z, D.atKey (.int .i64 d) z = .lit (.int .i64 d)
theorem IdMap.made (w : World) (hi : Int) : IdMap (w.alloc (.map #[] 0)) w.heap.size 0 (hi + 1) hi :=
 ⟨_, World.ownsMap_made _ _ _ _, isMap_empty, fun _ _ h1 h2 => by omega⟩
theorem IdMap.lt {w : World} {b n : Nat} {lo hi : Int} (h : IdMap w b n lo hi) : b < w.heap.size := by
 obtain ⟨D, h1, _⟩ := h
 exact h1.lt
theorem IdMap.same {w w' : World} {b n : Nat} {lo hi : Int} (h : IdMap w b n lo hi) (e : w'.heap[b]? = w.heap[b]?) : IdMap w' b n lo hi := by
 obtain ⟨D, ⟨es, clock, hb, F, hs, hD⟩, h2⟩ := h
 exact ⟨D, ⟨es, clock, e.trans hb, F, hs, hD⟩, h2⟩
theorem IdMap.apart {w : World} {b n : Nat} {lo hi : Int} (h : IdMap w b n lo hi) {B : Nat} {e : TypeId} {size m : Nat} {v : Value} {xs : List Value} (ho : w.ownsRow B e size v m xs) : v.ownBlock ≠ some b := by
 intro hk
 obtain ⟨D, ⟨es, clock, hb, _⟩, _⟩ := h
 obtain ⟨cur, hc⟩ := own_row_at ho hk
 rw [hc] at hb
 cases hb
theorem IdMap.look {w : World} {b n : Nat} {lo hi : Int} (h : IdMap w b n lo hi) (d : Int) (hd : IntIn d) (h1 : lo ≤ d) (h2 : d ≤ hi) :
 (Instr.lookup 224 (.map (some b)) (.int .i64 d) true).run Tryz.prog w = .ok (.tuple #[.int .i64 d, .bool true]) w := by
 obtain ⟨D, hown, h3, h4⟩ := h
 obtain ⟨v, ps, hlk, hR⟩ := hown.look_ok int_keyedI Tryz.underlying224 (zero_intI w) (plainElem_int Tryz.underlying3 (by decide)) (key_int d hd)
 rw [h4 d hd h1 h2] at hR
 obtain ⟨a, rfl, hy, _⟩ := plainElem_int_inv Tryz.underlying3 hR
 injection hy with hy _
 injection hy with hy
 injection hy with _ hy
 rw [hlk, Maps.has_true_of_atKey (fun z => h4 d hd h1 h2 z), ← hy]
theorem IdMap.put {w : World} {b n : Nat} {lo hi : Int} (h : IdMap w b n (lo + 1) hi) (hd : IntIn lo) (hn : n < maxLen) :
 ∃ w2, (Instr.mapUpdate 224 (.map (some b)) (.int .i64 lo) (.int .i64 lo)).run Tryz.prog w = .ok () w2 ∧ IdMap w2 b (n + 1) lo hi ∧ w.grownBy w2 (some b) := by
 obtain ⟨D, h1, h2, h3⟩ := h
 have hkey := key_int lo hd
 have hwf : (Lit.int .i64 lo).wf = true := by
  unfold keyOf at hkey
  rw [Tryz.underlying3] at hkey
  simp [mapKey, Tryz.underlying3] at hkey
  exact hkey
 obtain ⟨w2, hup, hown, hg⟩ := h1.update int_keyedI Tryz.underlying224 hn hkey (plainElem_int (H := Unit) Tryz.underlying3 hwf)
 refine ⟨w2, hup, ⟨_, hown, h2.put _ _, fun u hu e1 e2 z => ?_⟩, hg⟩
 by_cases e : u = lo
 ·rw [e, atKey_put_same h2 (int_keyedI.key hkey)]
 ·rw [atKey_put_other (fun e' => e (by injection e'))]
  exact h3 u hu (by omega) e2 z
end Go.Proofs.YtfkojnofbpdjdaaGreatDoor

namespace Go.Proofs.YtfkojnofbpdjdaaGreatDoor
set_option maxRecDepth 100000
open Go.RowKit
theorem intC_oneN (x : Int) : ∀ u ∈ intC x, u.oneCell' = true := by
 intro u hu
 rw [List.mem_singleton.1 hu]
 rfl
def KindOk (x : Tk) : Prop := (x.k = 1 ∨ x.k = 5) ∨ ((x.k = 2 ∨ x.k = 3 ∨ x.k = 4) ∧ IntIn x.d)
theorem numsG_one (x : Tk) (S : List Int) : numsG [x] S = if TagI x ∧ x.d ∉ S then S ++ [x.d] else S := by
 unfold numsG
 split <;> rfl
theorem numsG_take (f : List Tk) (k : Nat) (h : k < f.length) : numsG (f.take (k + 1)) [] = numsG [f[k]] (numsG (f.take k) []) := by
 rw [List.take_succ_eq_append_getElem h, numsG_app]
theorem numsG_len : ∀ (f : List Tk) (S : List Int), (numsG f S).length ≤ S.length + f.length
 | [], S => by simp [numsG]
 | x :: f, S => by
   unfold numsG
   split
   ·have := numsG_len f (S ++ [x.d])
    simp at this ⊢
    omega
   ·have := numsG_len f S
    simp
    omega
theorem numbers_any (f : List Tk) (v : Value) (w : World) (h : RdT w v f) (hl : f.length ≤ 100000) (hk : ∀ x ∈ f, KindOk x) :
 Calls Tryz.prog 110 #[v] w (RetOwn 3 intC 1 w (numsG f [])) := by
 obtain ⟨R, HRR⟩ : ∃ R, Hid (R = RetOwn 3 intC 1 w (numsG f [])) := ⟨_, rfl⟩
 rw [← HRR.out]
 obtain ⟨A, c, rfl, _, _⟩ := h.shape
 have HF := Lib.hid h
 have HK := Lib.hid hk
 have HM0 := Lib.hid (IntSet.made w)
 have HB0 := Lib.hid ((Below.refl w.heap.size w).alloc (Nat.le_refl _) (.map #[] 0))
 have hmm : (Instr.makeMap 223 none).run Tryz.prog w = .ok (.map (some w.heap.size)) (w.alloc (.map #[] 0)) := rfl
 clear h hk
 go_enter Tryz.func110, Tryz.ntmps110
 go_upto_region 3 with fail
 generalize hM : w.heap.size = M at HM0 ⊢
 generalize w.alloc (.map #[] 0) = w0 at HM0 HB0 ⊢
 have hMw : w.heap.size ≤ M := by omega
 clear hM hmm
 go_wp2_with fail
 go_loopg [3, 10] f.length (fun gk ov iv wr => ∃ k n : Nat, iv = .int .i64 k ∧ k ≤ f.length ∧ n ≤ k ∧ Hid (IntSet wr M n (numsG (f.take k) [])) ∧ Hid (OwnE 3 intC 1 wr w.heap.size ov (numsG (f.take k) [])) ∧ Hid (Below w.heap.size w wr) ∧ f.length - k ≤ gk)
 case atStart => exact ⟨0, 0, rfl, Nat.zero_le _, Nat.le_refl _, HM0.out, OwnE.nil, HB0.out, Nat.le_refl _⟩
 case round =>
  obtain ⟨k, n, rfl, hk, hn, HM, HO, HB, hgk⟩ := hrel
  clear HM0 HB0
  by_cases hlt : k < f.length
  ·have hki := HK.out _ (List.getElem_mem hlt)
   obtain ⟨b, o, rfl, hb, c0, c1, c2⟩ := RdT.at_ (HF.out.below HB.out (Nat.le_refl _)) k hlt
   have HT := Lib.hid (numsG_take f k hlt)
   rw [numsG_one] at HT
   have hsl := numsG_len (f.take k) []
   have htk : (f.take k).length ≤ k := by simp; omega
   generalize f[k] = x at *
   obtain ⟨xk, xt, xd⟩ := x
   simp only at c0 c1 c2
   have HBA := Lib.hid ((Below.refl wr.heap.size wr).alloc (Nat.le_refl _) (.cells #[.int .i64 xk, .string xt, .int .i64 xd] 31))
   have hMl := HM.out.lt
   have hz := HB.out.size
   rcases hki with hk1 | ⟨hk2, hin⟩
   ·have CT := Lib.hid (fun w => iTag_no xk xt xd w hk1)
    have hS : numsG (f.take (k + 1)) [] = numsG (f.take k) [] := by
     rw [HT.out, if_neg]
     rintro ⟨h1, _⟩
     rcases hk1 with h | h <;> rcases h1 with h1 | h1 | h1 <;> exact absurd (h.symm.trans h1) (by decide)
    have HS := Lib.hid hS
    clear hS HT
    generalize numsG (f.take k) [] = S0 at *
    go_wp2_with (go_at_call 76; refine (CT.out _).mono ?_; rintro e w1 ⟨rfl, hb1⟩; have HBW := Lib.hid (HBA.out.trans (hb1.mono HBA.out.size)); clear hb1)
    go_roundg (f.length - (k + 1))
    case measure => omega
    case rel =>
     refine ⟨k + 1, n, rfl, hlt, by omega, ?_, ?_, HB.out.trans (HBW.out.mono hz), Nat.le_refl _⟩
     ·rw [HS.out]; exact HM.out.same (HBW.out.block M hMl)
     ·rw [HS.out]; exact own_same HO.out fun j hj => HBW.out.block j (HO.out.lt j hj).2
   ·have CT := Lib.hid (fun w => iTag_yes xk xt xd w hk2)
    by_cases hmem : xd ∈ numsG (f.take k) []
    ·have hS : numsG (f.take (k + 1)) [] = numsG (f.take k) [] := by
      rw [HT.out, if_neg]
      rintro ⟨_, h2⟩
      exact h2 hmem
     have HS := Lib.hid hS
     clear hS HT
     generalize numsG (f.take k) [] = S0 at *
     go_wp2_with (go_at_call 76; refine (CT.out _).mono ?_; rintro e w1 ⟨rfl, hb1⟩; have HBW := Lib.hid (HBA.out.trans (hb1.mono HBA.out.size)); have e2 : w1.cell? ⟨wr.heap.size, 2, none⟩ = some (.int .i64 xd) := (hb1.cell (by simp)).trans (by go_simp); have hlk := (HM.out.same (HBW.out.block M hMl)).look xd hin; rw [decide_eq_true hmem] at hlk; clear hb1)
     go_roundg (f.length - (k + 1))
     case measure => omega
     case rel =>
      refine ⟨k + 1, n, rfl, hlt, by omega, ?_, ?_, HB.out.trans (HBW.out.mono hz), Nat.le_refl _⟩
      ·rw [HS.out]; exact HM.out.same (HBW.out.block M hMl)
      ·rw [HS.out]; exact own_same HO.out fun j hj => HBW.out.block j (HO.out.lt j hj).2
    ·have hS : numsG (f.take (k + 1)) [] = numsG (f.take k) [] ++ [xd] := by
      rw [HT.out]
      exact if_pos ⟨hk2, hmem⟩
     have HS := Lib.hid hS
     have hSl : (numsG (f.take k) []).length ≤ 100000 := by simp at hsl; omega
     clear hS HT
     obtain ⟨A3, c3, rfl⟩ := own_shape HO.out
     generalize numsG (f.take k) [] = S0 at *
     go_wp2_with (first
      | (go_at_call 76; refine (CT.out _).mono ?_; rintro e w1 ⟨rfl, hb1⟩; have HBW := Lib.hid (HBA.out.trans (hb1.mono HBA.out.size)); have e2 : w1.cell? ⟨wr.heap.size, 2, none⟩ = some (.int .i64 xd) := (hb1.cell (by simp)).trans (by go_simp); have HM1 := Lib.hid (HM.out.same (HBW.out.block M hMl)); have hlk := HM1.out.look xd hin; rw [decide_eq_false hmem] at hlk; have HO1 := Lib.hid (own_same HO.out fun j hj => HBW.out.block j (HO.out.lt j hj).2); obtain ⟨w2, hup, hns, hgr⟩ := HM1.out.put xd hin (Nat.lt_of_le_of_lt (show n ≤ 100000 by omega) (by decide)); have HM2 : Hid (IntSet (w2.alloc (.cells #[.int .i64 xd] 3)) M (n + 1) (S0 ++ [xd])) := Lib.hid (hns.same (Below.heap_alloc w2 (.cells #[.int .i64 xd] 3) M hns.lt)); have hM2s : M < w2.heap.size := hns.lt; have HO2 := Lib.hid (own_same HO1.out fun j hj => hgr.block j (HO1.out.lt j hj).2 (fun e => HM1.out.apart HO1.out (by rw [hj]; exact e))); have e3 : w2.cell? ⟨wr.heap.size, 2, none⟩ = some (.int .i64 xd) := (World.cell?_of_block (w := w1) (hgr.block wr.heap.size (Nat.lt_of_lt_of_le (by simp) hb1.size) (fun e => by injection e with e; omega))).trans e2; have HB2 := Lib.hid ((HB.out.trans (HBW.out.mono hz)).grown hgr (Nat.le_trans hz HBW.out.size) (fun j hj => by injection hj with hj; omega)); clear hb1 hns hgr)
      | go_loud (at_builtin; refine wpList_appE rfl (.tmp 26) (.tmp 29) 22 3 rfl Tryz.underlying22 _ intC 1 8 int_infoB rfl (by decide) intC_one intC_oneN w.heap.size _ S0 rfl (by exact World.ownsRow.alloc HO2.out _) _ [xd] rfl (by exact rdE_oneR intC 1 intC_one _ _ rfl xd _) (by simp; omega) (by decide) (by have := HB2.out.size; simp; omega) ?_; intro v8 w8 hown8 hbel8 hgr8; have HO8 := Lib.hid hown8; have HB8 := Lib.hid (hbel8 w.heap.size w (Nat.le_refl _) (HB2.out.alloc HB2.out.size _)); have HM8 := Lib.hid (HM2.out.same (hgr8.block M HM2.out.lt (fun e => HM2.out.apart (World.ownsRow.alloc HO2.out (.cells #[.int .i64 xd] 3)) e.symm))); clear hown8 hbel8 hgr8))
     go_roundg (f.length - (k + 1))
     case measure => omega
     case rel =>
      refine ⟨k + 1, n + 1, rfl, hlt, by omega, ?_, ?_, HB8.out, Nat.le_refl _⟩
      ·rw [HS.out]; exact HM8.out
      ·rw [HS.out]; exact HO8.out
  ·obtain rfl : k = f.length := by omega
   rw [List.take_length] at HO
   obtain ⟨A2, c2, rfl⟩ := own_shape HO.out
   go_wp2_with fail
   first | go_ret | skip
   rw [HRR.out]
   exact ⟨_, rfl, HO.out, HB.out⟩
end Go.Proofs.YtfkojnofbpdjdaaGreatDoor

namespace Go.Proofs.YtfkojnofbpdjdaaGreatDoor
set_option maxRecDepth 100000
open Go.RowKit
theorem int_infoZ : (Tryz.prog.info? 3).map (fun i => (i.zero, i.size, i.bytes)) = some (some (.int .i64 0), 1, 8) := by kernel_rfl
theorem cnt1_get (n i : Nat) (x : Int) (h : (cnt1 n)[i]? = some x) : i < n ∧ x = (i : Int) + 1 := by
 unfold cnt1 at h
 rw [List.getElem?_map] at h
 by_cases hi : i < n
 ·rw [List.getElem?_range hi] at h
  simp at h
  exact ⟨hi, by omega⟩
 ·rw [List.getElem?_eq_none (by simpa using hi)] at h
  cases h
theorem counting_any (n : Nat) (hn : n ≤ 100000) (w : World) :
 Calls Tryz.prog 112 #[.int .i64 n] w (fun e w' => ∃ v, e = .returned v ∧ RdE intC 1 w' v (cnt1 n) ∧ Below w.heap.size w w') := by
 obtain ⟨R, HRR⟩ : ∃ R : Ending → World → Prop, Hid (R = fun e w' => ∃ v, e = .returned v ∧ RdE intC 1 w' v (cnt1 n) ∧ Below w.heap.size w w') := ⟨_, rfl⟩
 rw [← HRR.out]
 have hmk := fun w => run_make_row' (P := Tryz.prog) 22 3 (.int .i64 0) 8 Tryz.underlying22 int_infoZ rfl .i64 .i64 n (by omega) (by omega) w
 go_enter Tryz.func112, Tryz.ntmps112
 go_wp2_with fail
 go_loopg [9] n (fun gk iv wr => ∃ k : Nat, iv = .int .i64 k ∧ k ≤ n ∧ Hid (wr.rowIs w.heap.size 3 n (fun j => .int .i64 (if j < k then (j : Int) + 1 else 0))) ∧ Hid (Below w.heap.size w wr) ∧ n - k ≤ gk)
 case atStart =>
  refine ⟨0, rfl, Nat.zero_le _, ?_, (Below.refl _ _).alloc (Nat.le_refl _) _, Nat.le_refl _⟩
  exact (World.rowIs_made w (.int .i64 0) n 3).congr fun j _ => rfl
 case round =>
  obtain ⟨k, rfl, hk, HR, HB, hgk⟩ := hrel
  by_cases hlt : k < n
  ·have rf := HR.out.frozen k
   have r0 := HR.out.cell (i := k) hlt
   have HR2 := Lib.hid ((HR.out.set k (.int .i64 ((k : Int) + 1))).congr (g := fun j => .int .i64 (if j < k + 1 then (j : Int) + 1 else 0)) fun j _ => by
    by_cases h1 : j = k
    ·rw [if_pos h1, h1, if_pos (Nat.lt_succ_self _)]
    ·rw [if_neg h1]
     by_cases h2 : j < k
     ·rw [if_pos h2, if_pos (by omega)]
     ·rw [if_neg h2, if_neg (by omega)])
   have HB2 := Lib.hid (HB.out.setCell (p := ⟨w.heap.size, k, none⟩) (Nat.le_refl _) (.int .i64 ((k : Int) + 1)))
   go_wp2_with fail
   go_roundg (n - (k + 1))
   case measure => omega
   case rel => exact ⟨k + 1, rfl, hlt, HR2.out, HB2.out, Nat.le_refl _⟩
  ·obtain rfl : k = n := by omega
   go_wp2_with fail
   first | go_ret | skip
   rw [HRR.out]
   refine ⟨_, rfl, ⟨some ⟨w.heap.size, 0, none⟩, k, by rw [cnt1_len]; rfl, by rw [cnt1_len]; exact Nat.le_refl _, (fun h => by cases h), fun _ => ⟨w.heap.size, 0, rfl, HR.out.lt, fun i x j u hi hj => ?_⟩⟩, HB.out⟩
   obtain ⟨h1, h2⟩ := cnt1_get _ _ _ hi
   have hj0 : j = 0 := by
    have := (List.getElem?_eq_some_iff.1 hj).1
    simpa [intC] using this
   subst hj0
   have := HR.out.cell (i := i) h1
   rw [if_pos h1] at this
   simp [intC] at hj
   rw [show 0 + (i * 1 + 0) = i by omega, this, ← hj, h2]
theorem rdInt_at {w : World} {A : Option Addr} {n c : Nat} {l : List Int} (h : RdE intC 1 w (.slice A n c) l) (k : Nat) (hk : k < l.length) : ∃ b o, A = some ⟨b, o, none⟩ ∧ b < w.heap.size ∧ w.cell? ⟨b, o + k, none⟩ = some (.int .i64 l[k]) := by
 obtain ⟨b, o, hA, hb, hx⟩ := RdE.cells h (by omega)
 refine ⟨b, o, hA, hb, ?_⟩
 have := hx k _ 0 _ (List.getElem?_eq_getElem hk) rfl
 simpa using this
theorem cnt1_at (n k : Nat) (h : k < (cnt1 n).length) : (cnt1 n)[k] = (k : Int) + 1 := (cnt1_get n k _ (List.getElem?_eq_getElem h)).2
def KindT (n : Nat) (x : Tk) : Prop := (x.k = 1 ∨ x.k = 5) ∨ ((x.k = 2 ∨ x.k = 3 ∨ x.k = 4) ∧ 1 ≤ x.d ∧ x.d ≤ (n : Int))
theorem rename_any (f : List Tk) (n : Nat) (v va vb : Value) (w : World) (h : RdT w v f) (ha : RdE intC 1 w va (cnt1 n)) (hb : RdE intC 1 w vb (cnt1 n)) (hl : f.length ≤ 100000) (hlw : lenI f ≤ 1000000) (hn : n ≤ 100000) (hk : ∀ x ∈ f, KindT n x) :
 Calls Tryz.prog 111 #[v, va, vb] w (RetOwn 31 tkC 3 w (normL f)) := by
 obtain ⟨R, HRR⟩ : ∃ R, Hid (R = RetOwn 31 tkC 3 w (normL f)) := ⟨_, rfl⟩
 rw [← HRR.out]
 obtain ⟨A, c, rfl, _, _⟩ := h.shape
 obtain ⟨A1, c1, rfl, _, _⟩ := ha.shape
 obtain ⟨A2, c2, rfl, _, _⟩ := hb.shape
 rw [cnt1_len]
 rw [cnt1_len] at ha hb
 have HF := Lib.hid h
 have HA := Lib.hid ha
 have HBB := Lib.hid hb
 have HK := Lib.hid hk
 have HM0 := Lib.hid (IdMap.made w (n : Int))
 have HB0 := Lib.hid ((Below.refl w.heap.size w).alloc (Nat.le_refl _) (.map #[] 0))
 have hmm : (Instr.makeMap 224 none).run Tryz.prog w = .ok (.map (some w.heap.size)) (w.alloc (.map #[] 0)) := rfl
 clear h hk ha hb
 go_enter Tryz.func111, Tryz.ntmps111
 go_upto_region 2 with fail
 generalize hM : w.heap.size = M at HM0 ⊢
 generalize w.alloc (.map #[] 0) = w0 at HM0 HB0 ⊢
 have hMw : w.heap.size ≤ M := by omega
 clear hM hmm
 go_wp2_with fail
 go_loopg [8] n (fun gk iv wr => ∃ j m : Nat, iv = .int .i64 ((j : Int) - 1) ∧ j ≤ n ∧ m + j ≤ n ∧ Hid (IdMap wr M m ((j : Int) + 1) n) ∧ Hid (Below w.heap.size w wr) ∧ j ≤ gk)
 case atStart => exact ⟨n, 0, rfl, Nat.le_refl _, by omega, HM0.out, HB0.out, Nat.le_refl _⟩
 case round =>
  obtain ⟨j, m, rfl, hj, hmj, HM, HB, hgk⟩ := hrel
  clear HM0 HB0
  cases j with
  | zero =>
    rw [show ((0 : Nat) : Int) + 1 = 1 from rfl] at HM
    go_wp2_with fail
    go_loopg [9, 36] f.length (fun gk ov iv wr => ∃ k : Nat, iv = .int .i64 k ∧ k ≤ f.length ∧ Hid (IdMap wr M m 1 n) ∧ Hid (OwnT 31 wr w.heap.size ov (f.take k)) ∧ Hid (Below w.heap.size w wr) ∧ f.length - k ≤ gk)
    case atStart => exact ⟨0, rfl, Nat.zero_le _, HM.out, OwnE.nil, HB.out, Nat.le_refl _⟩
    case round =>
     obtain ⟨k, rfl, hk, HM2, HO, HB2, hgk2⟩ := hrel
     clear HM HB
     by_cases hlt : k < f.length
     ·have hki := HK.out _ (List.getElem_mem hlt)
      obtain ⟨b, o, rfl, hb, c0, c1, c2⟩ := RdT.at_ (HF.out.below HB2.out (Nat.le_refl _)) k hlt
      have HT : Hid (f.take (k + 1) = f.take k ++ [f[k]]) := List.take_succ_eq_append_getElem hlt
      have htk : (f.take k).length ≤ 100000 := by simp; omega
      generalize f[k] = x at *
      generalize f.take k = F0 at *
      obtain ⟨xk, xt, xd⟩ := x
      simp only at c0 c1 c2
      have HBA := Lib.hid ((Below.refl wr.heap.size wr).alloc (Nat.le_refl _) (.cells #[.int .i64 xk, .string xt, .int .i64 xd] 31))
      have hMl := HM2.out.lt
      have hz := HB2.out.size
      obtain ⟨A3, c3, rfl⟩ := own_shape HO.out
      rcases hki with hk1 | ⟨hk2, hd1, hd2⟩
      ·have CT := Lib.hid (fun w => iTag_no xk xt xd w hk1)
       go_wp2_with (first
        | (go_at_call 76; refine (CT.out _).mono ?_; rintro e w1 ⟨rfl, hb1⟩; have HBW := Lib.hid (HBA.out.trans (hb1.mono HBA.out.size)); have e0 : w1.cell? ⟨wr.heap.size, 0, none⟩ = some (.int .i64 xk) := (hb1.cell (by simp)).trans (by go_simp); have e1 : w1.cell? ⟨wr.heap.size, 1, none⟩ = some (.string xt) := (hb1.cell (by simp)).trans (by go_simp); have e2 : w1.cell? ⟨wr.heap.size, 2, none⟩ = some (.int .i64 xd) := (hb1.cell (by simp)).trans (by go_simp); have HBX := Lib.hid (HBW.out); have HB1 := Lib.hid (HB2.out.trans (HBX.out.mono hz)); have HM1 : Hid (IdMap (w1.alloc (.cells (tkC ⟨xk, xt, xd⟩).toArray 31)) M m 1 n) := Lib.hid ((HM2.out.same (HBX.out.block M hMl)).same (Below.heap_alloc _ (.cells (tkC ⟨xk, xt, xd⟩).toArray 31) M (Nat.lt_of_lt_of_le hMl HBX.out.size))); have HO1 := Lib.hid (own_same HO.out fun j hj => HBX.out.block j (HO.out.lt j hj).2); clear hb1)
        | (at_builtin; refine wpList_appE rfl (.tmp 53) (.tmp 55) 24 31 rfl Tryz.underlying24 _ tkC 3 32 item_info rfl (by decide) tkC_three tkC_one w.heap.size _ F0 rfl (by exact World.ownsRow.alloc HO1.out _) _ [⟨xk, xt, xd⟩] rfl (by exact rdE_oneR tkC 3 tkC_three _ _ rfl ⟨xk, xt, xd⟩ _) (by simp; omega) (by decide) (by have := HB1.out.size; simp at this ⊢; omega) ?_; intro v8 w8 hown8 hbel8 hgr8; have HO8 := Lib.hid hown8; have HB8 := Lib.hid (hbel8 w.heap.size w (Nat.le_refl _) (HB1.out.alloc HB1.out.size _)); have HM8 := Lib.hid (HM1.out.same (hgr8.block M HM1.out.lt (fun e => HM1.out.apart (World.ownsRow.alloc HO1.out (.cells (tkC ⟨xk, xt, xd⟩).toArray 31)) e.symm))); clear hown8 hbel8 hgr8))
       go_roundg (f.length - (k + 1))
       case measure => omega
       case rel =>
        refine ⟨k + 1, rfl, hlt, HM8.out.same rfl, ?_, HB8.out, Nat.le_refl _⟩
        rw [HT.out]; exact HO8.out
      ·have CT := Lib.hid (fun w => iTag_yes xk xt xd w hk2)
       have hd1 : 1 ≤ xd := hd1
       have hd2 : xd ≤ (n : Int) := hd2
       have hin : IntIn xd := by unfold IntIn; omega
       go_wp2_with (first
        | (go_at_call 76; refine (CT.out _).mono ?_; rintro e w1 ⟨rfl, hb1⟩; have HBW := Lib.hid (HBA.out.trans (hb1.mono HBA.out.size)); have e0 : w1.cell? ⟨wr.heap.size, 0, none⟩ = some (.int .i64 xk) := (hb1.cell (by simp)).trans (by go_simp); have e1 : w1.cell? ⟨wr.heap.size, 1, none⟩ = some (.string xt) := (hb1.cell (by simp)).trans (by go_simp); have e2 : w1.cell? ⟨wr.heap.size, 2, none⟩ = some (.int .i64 xd) := (hb1.cell (by simp)).trans (by go_simp); have fr2 : w1.frozen? ⟨wr.heap.size, 2, none⟩ = false := (hb1.frozen (by simp)).trans (by go_simp); have hlk := (HM2.out.same (HBW.out.block M hMl)).look xd hin hd1 hd2; have HBX := Lib.hid (HBW.out.setCell (p := ⟨wr.heap.size, 2, none⟩) (Nat.le_refl _) (.int .i64 xd)); have HB1 := Lib.hid (HB2.out.trans (HBX.out.mono hz)); have HM1 : Hid (IdMap ((w1.setCell ⟨wr.heap.size, 2, none⟩ (.int .i64 xd)).alloc (.cells (tkC ⟨xk, xt, xd⟩).toArray 31)) M m 1 n) := Lib.hid ((HM2.out.same (HBX.out.block M hMl)).same (Below.heap_alloc _ (.cells (tkC ⟨xk, xt, xd⟩).toArray 31) M (Nat.lt_of_lt_of_le hMl HBX.out.size))); have HO1 := Lib.hid (own_same HO.out fun j hj => HBX.out.block j (HO.out.lt j hj).2); clear hb1)
        | (at_builtin; refine wpList_appE rfl (.tmp 53) (.tmp 55) 24 31 rfl Tryz.underlying24 _ tkC 3 32 item_info rfl (by decide) tkC_three tkC_one w.heap.size _ F0 rfl (by exact World.ownsRow.alloc HO1.out _) _ [⟨xk, xt, xd⟩] rfl (by exact rdE_oneR tkC 3 tkC_three _ _ (by simp [World.setCell]) ⟨xk, xt, xd⟩ _) (by simp; omega) (by decide) (by have := HB1.out.size; simp at this ⊢; omega) ?_; intro v8 w8 hown8 hbel8 hgr8; have HO8 := Lib.hid hown8; have HB8 := Lib.hid (hbel8 w.heap.size w (Nat.le_refl _) (HB1.out.alloc HB1.out.size _)); have HM8 := Lib.hid (HM1.out.same (hgr8.block M HM1.out.lt (fun e => HM1.out.apart (World.ownsRow.alloc HO1.out (.cells (tkC ⟨xk, xt, xd⟩).toArray 31)) e.symm))); clear hown8 hbel8 hgr8))
       go_roundg (f.length - (k + 1))
       case measure => omega
       case rel =>
        refine ⟨k + 1, rfl, hlt, HM8.out.same rfl, ?_, HB8.out, Nat.le_refl _⟩
        rw [HT.out]; exact HO8.out
     ·obtain rfl : k = f.length := by omega
      rw [List.take_length] at HO
      have HNN := Lib.hid (norm_anyL f _ _ (HO.out.rd tkC_three) hl hlw)
      obtain ⟨A3, c3, rfl⟩ := own_shape HO.out
      have hz := HB2.out.size
      go_wp2_with (go_at_call 104; refine (HNN.out).mono ?_; rintro e w2 ⟨v2, rfl, ho2, hb2⟩; obtain ⟨A4, c4, rfl⟩ := own_shape ho2; have HO2 := Lib.hid (own_base ho2 hz); have HB3 := Lib.hid (HB2.out.trans (hb2.mono hz)); clear ho2 hb2)
      first | go_ret | skip
      rw [HRR.out]
      exact ⟨_, rfl, HO2.out, HB3.out⟩
  | succ j =>
    have hjn : j < (cnt1 n).length := by rw [cnt1_len]; omega
    obtain ⟨b1, o1, rfl, hb1, c1⟩ := rdInt_at (HA.out.below HB.out (Nat.le_refl _)) j hjn
    obtain ⟨b2, o2, rfl, hb2, c2⟩ := rdInt_at (HBB.out.below HB.out (Nat.le_refl _)) j hjn
    rw [cnt1_at] at c1 c2
    rw [show ((j + 1 : Nat) : Int) - 1 = (j : Int) by omega]
    have hin : IntIn ((j : Int) + 1) := by unfold IntIn; omega
    have HMX := HM.out
    rw [show (((j + 1 : Nat) : Int) + 1) = ((j : Int) + 1) + 1 by omega] at HMX
    have HMD : IdMap wr.drew M m (((j : Int) + 1) + 1) n := HMX.same rfl
    obtain ⟨w2, hup, hid2, hgr⟩ := HMD.put hin (Nat.lt_of_le_of_lt (show m ≤ 100000 by omega) (by decide))
    have HM3 := Lib.hid hid2
    have hz := HB.out.size
    have HB3 := Lib.hid (HB.out.drew.grown hgr hz (fun i hi => by injection hi with hi; omega))
    have hjn2 : j < n := by omega
    clear HMX HMD hid2 hgr
    go_wp2_with fail
    go_region
    all_goals (
     go_wp2_with fail
     go_roundg j
     case measure => omega
     case rel =>
      refine ⟨j, m + 1, rfl, by omega, by omega, HM3.out, HB3.out, Nat.le_refl _⟩)
end Go.Proofs.YtfkojnofbpdjdaaGreatDoor

namespace Go.Proofs.YtfkojnofbpdjdaaGreatDoor
set_option maxRecDepth 100000
open Go.RowKit
theorem KindT.ok {n : Nat} {x : Tk} (hn : n ≤ 100000) (h : KindT n x) : KindOk x := by
 rcases h with h | ⟨h, h1, h2⟩
 ·exact .inl h
 ·exact .inr ⟨h, by unfold IntIn; omega⟩
theorem renumber_any (f : List Tk) (n : Nat) (v : Value) (w : World) (h : RdT w v f) (hl : f.length ≤ 100000) (hlw : lenI f ≤ 1000000) (hn : n ≤ 100000) (hk : ∀ x ∈ f, KindT n x) (hnum : numsG f [] = cnt1 n) :
 Calls Tryz.prog 70 #[v] w (RetOwn 31 tkC 3 w (normL f)) := by
 have CN := Lib.hid (numbers_any f v w h hl fun x hx => (hk x hx).ok hn)
 rw [hnum] at CN
 obtain ⟨A, c, rfl, _, _⟩ := h.shape
 have HF := Lib.hid h
 have CC := Lib.hid (fun w => counting_any n hn w)
 have CR := Lib.hid (fun (va vb : Value) (w' : World) (h : RdT w' (.slice A f.length c) f) (ha : RdE intC 1 w' va (cnt1 n)) (hb : RdE intC 1 w' vb (cnt1 n)) => rename_any f n _ va vb w' h ha hb hl hlw hn hk)
 clear h hk hnum
 go_enter Tryz.func70, Tryz.ntmps70
 go_wp2_with (first
  | (go_at_call 110; refine (CN.out).mono ?_; rintro e w1 ⟨v1, rfl, ho1, hb1⟩; obtain ⟨A1, c1, rfl⟩ := own_shape ho1; have HO1 := Lib.hid (ho1.rd intC_one); have HB1 := Lib.hid hb1; rw [cnt1_len]; rw [cnt1_len] at HO1; clear ho1 hb1)
  | (go_at_call 112; refine (CC.out _).mono ?_; rintro e w2 ⟨v2, rfl, ho2, hb2⟩; obtain ⟨A2, c2, rfl, _, _⟩ := RdE.shape ho2; have HO2 := Lib.hid ho2; have HB2 := Lib.hid (HB1.out.trans (hb2.mono HB1.out.size)); have HO1b := Lib.hid (HO1.out.below hb2 (Nat.le_refl _)); clear ho2 hb2)
  | (go_at_call 111; refine (CR.out _ _ _ (by exact HF.out.below HB2.out (Nat.le_refl _)) (by exact HO1b.out) (by exact HO2.out)).mono ?_; rintro e w3 ⟨v3, rfl, ho3, hb3⟩; obtain ⟨A3, c3, rfl⟩ := own_shape ho3; have HO3 := Lib.hid (own_base ho3 HB2.out.size); have HB3 := Lib.hid (HB2.out.trans (hb3.mono HB2.out.size)); clear ho3 hb3))
 go_ret
 exact ⟨_, rfl, HO3.out, HB3.out⟩
end Go.Proofs.YtfkojnofbpdjdaaGreatDoor

namespace Go.Proofs.YtfkojnofbpdjdaaGreatDoor
set_option maxRecDepth 100000
open Go.RowKit
def SplOk (m fmt : Int) (data : ByteArray) (ps : List Pt) : Prop := ∀ w : World, w.cell? ⟨0, 0, none⟩ = some (.int .i64 m) → Calls Tryz.prog (splF fmt) #[.string data] w (PtsRet ps w)
def DecOk (m fmt : Int) (raw : ByteArray) (f : List Tk) : Prop := ∀ w : World, w.cell? ⟨0, 0, none⟩ = some (.int .i64 m) → Calls Tryz.prog (decFn fmt) #[.string raw] w (DecRet3 f w)
def CutOk (m fmt : Int) (raw : ByteArray) (l : List Int) : Prop := ∀ w : World, w.cell? ⟨0, 0, none⟩ = some (.int .i64 m) → Calls Tryz.prog (cutFn fmt) #[.string raw] w (CutRet l w)
def EncOk (m fmt : Int) (f : List Tk) (s : ByteArray) : Prop := ∀ (A : Option Addr) (c : Nat) (w : World), w.cell? ⟨0, 0, none⟩ = some (.int .i64 m) → RdT w (.slice A f.length c) f → Calls Tryz.prog (encFn fmt) #[.slice A f.length c] w (EncRet s w)
def ParRet (fmt : Int) (ps : List Pt) (w : World) (e : Ending) (w' : World) : Prop :=
 ∃ A c, e = .returned (.tuple #[.agg #[.int .i64 fmt, .slice A ps.length c], .int .i64 0, .int .i64 0]) ∧ OwnE 52 ptC 3 w' w.heap.size (.slice A ps.length c) ps ∧ Below w.heap.size w w'
theorem res_doc3 {fn : Func} {p u v : Tmp} (h : fn.results = #[.cell p 41, .tmp u, .tmp v]) (tmps : Array Value) (w : World) (g : Nat) (k : Int) (A : Option Addr) (n c : Nat) (x y : Value) (hp : tmps.getD p undef = .pointer (some ⟨g, 0, none⟩)) (hu : tmps.getD u undef = x) (hv : tmps.getD v undef = y)
 (c0 : w.cell? ⟨g, 0, none⟩ = some (.int .i64 k)) (c1 : w.cell? ⟨g, 1, none⟩ = some (.slice A n c)) :
 (results fn tmps).run Tryz.prog w = .ok (.tuple #[.agg #[.int .i64 k, .slice A n c], x, y]) w := by
 rw [results_cell_tmp2 h, hp, hu, hv]
 go_simp
theorem dparse_any (m fmt : Int) (hf : FmtOk fmt) (data : ByteArray) (ps : List Pt) (h : SplOk m fmt data ps) (w : World) (hm : w.cell? ⟨0, 0, none⟩ = some (.int .i64 m)) :
 Calls Tryz.prog 28 #[.int .i64 fmt, .string data] w (ParRet fmt ps w) := by
 have CK := Lib.hid (fun w => known_any fmt hf w)
 have CS := Lib.hid (fun w hm => split_any fmt hf data ps w (h w hm))
 have HM := Lib.hid hm
 have HA := Lib.hid ((Below.refl w.heap.size w).alloc (Nat.le_refl _) (.cells #[.int .i64 0, .slice none 0 0] 41))
 clear h hm
 go_enter Tryz.func28, Tryz.ntmps28
 go_wp2_with (first
  | (go_at_call 55; refine (CK.out _).mono ?_; rintro e w' ⟨rfl, rfl⟩)
  | (go_at_call 57; refine (CS.out _ (by exact below_cell0 HM.out HA.out)).mono ?_; rintro e w1 ⟨v, rfl, ho, hb⟩; obtain ⟨A, c, rfl⟩ := own_shape ho; have HO := Lib.hid ho; have HB := Lib.hid (HA.out.trans (hb.mono HA.out.size)); have q0 : w1.cell? ⟨w.heap.size, 0, none⟩ = some (.int .i64 0) := (hb.cell (by simp)).trans (by go_simp); have q1 : w1.cell? ⟨w.heap.size, 1, none⟩ = some (.slice none 0 0) := (hb.cell (by simp)).trans (by go_simp); have y0 : w1.frozen? ⟨w.heap.size, 0, none⟩ = false := (hb.frozen (by simp)).trans (by go_simp); have y1 : w1.frozen? ⟨w.heap.size, 1, none⟩ = false := (hb.frozen (by simp)).trans (by go_simp); clear hb ho))
 refine bodyPost_ret (res_doc3 rfl _ _ w.heap.size fmt A ps.length c _ _ rfl rfl rfl (by go_simp) (by go_simp)) rfl ?_
 refine ⟨A, c, rfl, own_base (own_same HO.out fun k hk => ?_) HA.out.size, (HB.out.setCell (p := ⟨w.heap.size, 0, none⟩) (Nat.le_refl _) _).setCell (p := ⟨w.heap.size, 1, none⟩) (Nat.le_refl _) _⟩
 have hk1 := (HO.out.lt k hk).1
 have hk2 : k ≠ w.heap.size := by
  intro e
  rw [e] at hk1
  simp at hk1
  omega
 rw [Below.heap_setCell _ _ _ _ hk2, Below.heap_setCell _ _ _ _ hk2]
def unitsG : List Pt → Nat → List Int
 | [], _ => []
 | p :: ps, i => if p.un = true then (i : Int) :: unitsG ps (i + 1) else unitsG ps (i + 1)
theorem unitsG_app : ∀ (a b : List Pt) (i : Nat), unitsG (a ++ b) i = unitsG a i ++ unitsG b (i + a.length)
 | [], b, i => by simp [unitsG]
 | p :: a, b, i => by
   rw [List.cons_append, unitsG, unitsG, unitsG_app a b (i + 1), List.length_cons, show i + 1 + a.length = i + (a.length + 1) by omega]
   split <;> rfl
theorem unitsG_take (ps : List Pt) (k : Nat) (h : k < ps.length) : unitsG (ps.take (k + 1)) 0 = if ps[k].un = true then unitsG (ps.take k) 0 ++ [(k : Int)] else unitsG (ps.take k) 0 := by
 rw [List.take_succ_eq_append_getElem h, unitsG_app, Nat.zero_add]
 have hl : (ps.take k).length = k := by simp; omega
 rw [hl, unitsG]
 split
 ·simp [unitsG]
 ·simp [unitsG]
theorem unitsG_len : ∀ (ps : List Pt) (i : Nat), (unitsG ps i).length ≤ ps.length
 | [], i => by simp [unitsG]
 | p :: ps, i => by
   rw [unitsG]
   have := unitsG_len ps (i + 1)
   split <;> simp <;> omega
theorem units_any (fmt : Int) (ps : List Pt) (A : Option Addr) (c : Nat) (w : World) (h : RdE ptC 3 w (.slice A ps.length c) ps) (hl : ps.length ≤ 100000) :
 Calls Tryz.prog 26 #[.agg #[.int .i64 fmt, .slice A ps.length c]] w (RetOwn 3 intC 1 w (unitsG ps 0)) := by
 obtain ⟨R, HRR⟩ : ∃ R, Hid (R = RetOwn 3 intC 1 w (unitsG ps 0)) := ⟨_, rfl⟩
 rw [← HRR.out]
 have HP := Lib.hid h
 have HB0 := Lib.hid ((Below.refl w.heap.size w).alloc (Nat.le_refl _) (.cells #[.int .i64 fmt, .slice A ps.length c] 41))
 clear h
 go_enter Tryz.func26, Tryz.ntmps26
 go_wp2_with fail
 go_loopg [3, 9] ps.length (fun gk ov iv wr => ∃ k : Nat, iv = .int .i64 k ∧ k ≤ ps.length ∧ Hid (OwnE 3 intC 1 wr w.heap.size ov (unitsG (ps.take k) 0)) ∧ Hid (Below w.heap.size w wr) ∧ ps.length - k ≤ gk)
 case atStart => exact ⟨0, rfl, Nat.zero_le _, OwnE.nil, HB0.out, Nat.le_refl _⟩
 case round =>
  obtain ⟨k, rfl, hk, HO, HB, hgk⟩ := hrel
  clear HB0
  by_cases hlt : k < ps.length
  ·obtain ⟨b, o, rfl, hb, c0, c1, c2⟩ := RdP.at_ (HP.out.below HB.out (Nat.le_refl _)) k hlt
   have HT := Lib.hid (unitsG_take ps k hlt)
   have hsl := unitsG_len (ps.take k) 0
   have htk : (ps.take k).length ≤ k := by simp; omega
   have hSl : (unitsG (ps.take k) 0).length ≤ 100000 := by omega
   clear hsl htk
   generalize unitsG (ps.take k) 0 = S0 at *
   generalize ps[k].raw = x2 at *
   generalize ps[k].key = x1 at *
   have hz := HB.out.size
   cases hun : ps[k].un with
   | false =>
     rw [hun] at c0 HT
     have HT2 : Hid (unitsG (ps.take (k + 1)) 0 = S0) := HT.out
     have HA := Lib.hid (HB.out.alloc hz (.cells #[.bool false, .string x1, .string x2] 52))
     have HO2 := Lib.hid (World.ownsRow.alloc HO.out (.cells #[.bool false, .string x1, .string x2] 52))
     clear HT hun
     go_wp2_with fail
     go_roundg (ps.length - (k + 1))
     case measure => omega
     case rel =>
      refine ⟨k + 1, rfl, hlt, ?_, HA.out, Nat.le_refl _⟩
      rw [HT2.out]; exact HO2.out
   | true =>
     rw [hun] at c0 HT
     have HT2 : Hid (unitsG (ps.take (k + 1)) 0 = S0 ++ [(k : Int)]) := HT.out
     have HA := Lib.hid ((HB.out.alloc hz (.cells #[.bool true, .string x1, .string x2] 52)).alloc (by simp; omega) (.cells #[.int .i64 k] 3))
     have HO2 := Lib.hid (World.ownsRow.alloc (World.ownsRow.alloc HO.out (.cells #[.bool true, .string x1, .string x2] 52)) (.cells #[.int .i64 k] 3))
     obtain ⟨A3, c3, rfl⟩ := own_shape HO.out
     clear HT hun
     go_wp2_with (at_builtin; refine wpList_appE rfl (.tmp 16) (.tmp 18) 22 3 rfl Tryz.underlying22 _ intC 1 8 int_infoB rfl (by decide) intC_one intC_oneN w.heap.size _ S0 rfl (by exact HO2.out) _ [(k : Int)] rfl (by exact rdE_oneR intC 1 intC_one _ _ (by simp) (k : Int) _) (by simp; omega) (by decide) HA.out.size ?_; intro v8 w8 hown8 hbel8 hgr8; have HO8 := Lib.hid hown8; have HB8 := Lib.hid (hbel8 w.heap.size w (Nat.le_refl _) HA.out); clear hown8 hbel8 hgr8)
     go_roundg (ps.length - (k + 1))
     case measure => omega
     case rel =>
      refine ⟨k + 1, rfl, hlt, ?_, HB8.out, Nat.le_refl _⟩
      rw [HT2.out]; exact HO8.out
  ·obtain rfl : k = ps.length := by omega
   rw [List.take_length] at HO
   obtain ⟨A2, c2, rfl⟩ := own_shape HO.out
   go_wp2_with fail
   first | go_ret | skip
   rw [HRR.out]
   exact ⟨_, rfl, HO.out, HB.out⟩
end Go.Proofs.YtfkojnofbpdjdaaGreatDoor

namespace Go.Proofs.YtfkojnofbpdjdaaGreatDoor
set_option maxRecDepth 100000
open Go.RowKit
theorem content_any (m fmt : Int) (hf : FmtOk fmt) (ps : List Pt) (f : List Tk) (k : Nat) (hk : k < ps.length) (hun : ps[k].un = true) (hd : DecOk m fmt ps[k].raw f) (A : Option Addr) (c : Nat) (w : World) (hm : w.cell? ⟨0, 0, none⟩ = some (.int .i64 m)) (h : RdE ptC 3 w (.slice A ps.length c) ps) (hl : ps.length ≤ 100000) :
 Calls Tryz.prog 27 #[.agg #[.int .i64 fmt, .slice A ps.length c], .int .i64 k] w (DDecRet f w) := by
 have CK := Lib.hid (fun w => known_any fmt hf w)
 have CD := Lib.hid (fun w hm => dec_any fmt hf ps[k].raw f w (hd w hm))
 have HM := Lib.hid hm
 have HA := Lib.hid ((Below.refl w.heap.size w).alloc (Nat.le_refl _) (.cells #[.int .i64 fmt, .slice A ps.length c] 41))
 obtain ⟨b, o, rfl, hb, c0, c1, c2⟩ := RdP.at_ (h.below HA.out (Nat.le_refl _)) k hk
 rw [hun] at c0
 generalize ps[k].raw = x2 at *
 generalize ps[k].key = x1 at *
 clear h hd hm hun
 go_enter Tryz.func27, Tryz.ntmps27
 go_wp2_with (first
  | (go_at_call 55; refine (CK.out _).mono ?_; rintro e w' ⟨rfl, rfl⟩))
 go_region_with (go_at_call 56; refine (CD.out _ (by exact below_cell0 HM.out (below_drewN HA.out 1))).mono ?_; rintro e w1 ⟨v, rfl, ho, hb⟩; obtain ⟨A2, c2, rfl⟩ := own_shape ho; have hz := HA.out.size; have HO := Lib.hid (own_base ho hz); have HB := Lib.hid ((below_drewN HA.out 1).trans (hb.mono hz)); clear ho hb)
 all_goals (
  go_wp2_with fail
  go_ret2
  exact ⟨_, rfl, HO.out, HB.out⟩)
end Go.Proofs.YtfkojnofbpdjdaaGreatDoor

namespace Go.Proofs.YtfkojnofbpdjdaaGreatDoor
set_option maxRecDepth 100000
open Go.RowKit
theorem ranges_cov (rs : List Ru) (f : List Tk) : CovF (sqF f) 0 (rangesF rs f) := rng_cov (sqF f) (sqF_ex f) _ 0 0 (by rw [sqF_len]; exact cuts_ok rs f) (Nat.le_refl _) (fun j _ _ h => by omega)
theorem cov_bd (R : List (Bool × Bool)) : ∀ (l : List (Nat × Nat)) (a : Nat), CovF R a l → a ≤ R.length → a + l.length ≤ R.length ∧ ∀ r ∈ l, a ≤ r.1 ∧ r.1 < r.2 ∧ r.2 ≤ R.length
 | [], a, _, ha => ⟨ha, fun r hr => by simp at hr⟩
 | r :: l, a, h, ha => by
   obtain ⟨h1, h2, h3, _, _, _, _, h4⟩ := h
   obtain ⟨g1, g2⟩ := cov_bd R l r.2 h4 h3
   refine ⟨by rw [List.length_cons]; omega, fun x hx => ?_⟩
   rcases List.mem_cons.1 hx with rfl | hx
   ·exact ⟨h1, h2, h3⟩
   ·have := g2 x hx
    omega
theorem ranges_bd (rs : List Ru) (f : List Tk) : (rangesF rs f).length ≤ lenI f ∧ ∀ r ∈ rangesF rs f, r.1 < r.2 ∧ r.2 ≤ lenI f := by
 have h := cov_bd (sqF f) _ 0 (ranges_cov rs f) (Nat.zero_le _)
 rw [sqF_len] at h
 exact ⟨by omega, fun r hr => (h.2 r hr).2⟩
structure Pc where
 pt : Nat
 lo : Nat
 hi : Nat
 src : List Tk
def pcU (k : Nat) (f : List Tk) (r : Nat × Nat) : Pc := ⟨k, r.1, r.2, slI f 0 r.1 r.2⟩
def pcsU (k : Nat) (f : List Tk) : List Pc := (rangesF [sentR] f).map (pcU k f)
def pcsL (ks : List (Nat × List Tk)) : List Pc := ks.flatMap fun x => pcsU x.1 x.2
theorem pcsU_len (k : Nat) (f : List Tk) : (pcsU k f).length ≤ lenI f := by
 unfold pcsU
 rw [List.length_map]
 exact (ranges_bd _ f).1
structure Pv where
 p : Pc
 A : Option Addr
 c : Nat
def Pv.v (y : Pv) : Value := .slice y.A y.p.src.length y.c
def pvC (y : Pv) : List Value := [.int .i64 y.p.pt, .int .i64 y.p.lo, .int .i64 y.p.hi, y.v]
theorem pvC_len (y : Pv) : (pvC y).length = 4 := rfl
theorem pvC_one (y : Pv) : ∀ u ∈ pvC y, u.oneCell' = true := by
 intro u hu
 simp [pvC, Pv.v] at hu
 rcases hu with rfl | rfl | rfl | rfl <;> rfl
theorem pv_info : (Tryz.prog.info? 56).map (fun i => (i.zero, i.size, i.bytes)) = some (some (.agg #[.int .i64 0, .int .i64 0, .int .i64 0, .slice none 0 0]), 4, 48) := by kernel_rfl
structure PcO (B : Nat) (w : World) (v : Value) (ps : List Pc) (ys : List Pv) : Prop where
 own : OwnE 56 pvC 4 w B v ys
 eq : ys.map (·.p) = ps
 each : ∀ y ∈ ys, OwnE 31 tkC 3 w B y.v y.p.src
section
variable {B : Nat} {w w' : World} {v v' : Value} {ps : List Pc} {ys : List Pv}
theorem PcO.nil : PcO B w (.slice none 0 0) [] [] := ⟨OwnE.nil, rfl, fun _ h => by simp at h⟩
theorem PcO.len (h : PcO B w v ps ys) : ys.length = ps.length := by rw [← h.eq, List.length_map]
theorem PcO.below (h : PcO B w v ps ys) (hb : Below w.heap.size w w') : PcO B w' v ps ys :=
 ⟨own_same h.own fun k hk => hb.block k (h.own.lt k hk).2, h.eq, fun y hy => own_same (h.each y hy) fun k hk => hb.block k ((h.each y hy).lt k hk).2⟩
theorem PcO.push (h : PcO B w v ps ys) (y : Pv) (hy : OwnE 31 tkC 3 w B y.v y.p.src) (ho : OwnE 56 pvC 4 w' B v' (ys ++ [y])) (hg : w.grownBy w' v.ownBlock) : PcO B w' v' (ps ++ [y.p]) (ys ++ [y]) := by
 have keep : ∀ z : Pv, OwnE 31 tkC 3 w B z.v z.p.src → OwnE 31 tkC 3 w' B z.v z.p.src := fun z hz => own_same hz fun k hk => hg.block k (hz.lt k hk).2 (fun e => by
  obtain ⟨cur, hc⟩ := own_row_at h.own e.symm
  exact own_apart hz hc (by decide) k hk rfl)
 refine ⟨ho, by rw [List.map_append, h.eq]; rfl, fun z hz => ?_⟩
 rcases List.mem_append.1 hz with hz | hz
 ·exact keep z (h.each z hz)
 ·rw [List.mem_singleton.1 hz]; exact keep y hy
end
def RdPc (w : World) (v : Value) (ps : List Pc) : Prop := ∃ ys : List Pv, RdE pvC 4 w v ys ∧ ys.map (·.p) = ps ∧ ∀ y ∈ ys, RdT w y.v y.p.src
theorem PcO.rd {B : Nat} {w : World} {v : Value} {ps : List Pc} {ys : List Pv} (h : PcO B w v ps ys) : RdPc w v ps := ⟨ys, h.own.rd pvC_len, h.eq, fun y hy => (h.each y hy).rd tkC_three⟩
theorem RdPc.below {w w' : World} {v : Value} {ps : List Pc} (h : RdPc w v ps) (hb : Below w.heap.size w w') : RdPc w' v ps := by
 obtain ⟨ys, h1, h2, h3⟩ := h
 exact ⟨ys, h1.below hb (Nat.le_refl _), h2, fun y hy => (h3 y hy).below hb (Nat.le_refl _)⟩
theorem RdPc.shape {w : World} {v : Value} {ps : List Pc} (h : RdPc w v ps) : ∃ A c, v = .slice A ps.length c ∧ ps.length ≤ c := by
 obtain ⟨ys, h1, h2, h3⟩ := h
 obtain ⟨A, c, hv, hc, _⟩ := h1.shape
 have : ys.length = ps.length := by rw [← h2, List.length_map]
 rw [this] at hv hc
 exact ⟨A, c, hv, hc⟩
theorem RdPc.at_ {w : World} {A : Option Addr} {n c : Nat} {ps : List Pc} (h : RdPc w (.slice A n c) ps) (k : Nat) (hk : k < ps.length) :
 ∃ b o A' c', A = some ⟨b, o, none⟩ ∧ b < w.heap.size ∧ w.cell? ⟨b, o + k * 4, none⟩ = some (.int .i64 ps[k].pt) ∧ w.cell? ⟨b, o + k * 4 + 1, none⟩ = some (.int .i64 ps[k].lo) ∧ w.cell? ⟨b, o + k * 4 + 2, none⟩ = some (.int .i64 ps[k].hi) ∧ w.cell? ⟨b, o + k * 4 + 3, none⟩ = some (.slice A' ps[k].src.length c') ∧ RdT w (.slice A' ps[k].src.length c') ps[k].src := by
 obtain ⟨ys, h1, h2, h3⟩ := h
 subst h2
 rw [List.length_map] at hk
 obtain ⟨b, o, hA, hb, hx⟩ := RdE.cells h1 (by omega)
 have hy := List.getElem?_eq_getElem hk
 have e : (ys.map (·.p))[k]'(by rw [List.length_map]; exact hk) = ys[k].p := List.getElem_map _
 rw [e]
 exact ⟨b, o, _, _, hA, hb, hx k _ 0 _ hy rfl, hx k _ 1 _ hy rfl, hx k _ 2 _ hy rfl, hx k _ 3 _ hy rfl, h3 _ (List.getElem_mem hk)⟩
structure UnOk (m fmt : Int) (ps : List Pt) (ks : List (Nat × List Tk)) : Prop where
 ok : FmtOk fmt
 idx : unitsG ps 0 = ks.map fun x => (x.1 : Int)
 each : ∀ x ∈ ks, ∃ h : x.1 < ps.length, ps[x.1].un = true ∧ DecOk m fmt ps[x.1].raw x.2 ∧ lenI x.2 ≤ 1000 ∧ x.2.length ≤ 1000
 len : ps.length ≤ 1000
theorem unks_len {m fmt : Int} {ps : List Pt} {ks : List (Nat × List Tk)} (h : UnOk m fmt ps ks) : ks.length ≤ 1000 := by
 have h1 := unitsG_len ps 0
 rw [h.idx, List.length_map] at h1
 exact Nat.le_trans h1 h.len
theorem pcs_take_len {m fmt : Int} {ps : List Pt} {ks : List (Nat × List Tk)} (h : UnOk m fmt ps ks) : ∀ k, (pcsL (ks.take k)).length ≤ 1000 * k
 | 0 => by simp [pcsL]
 | k + 1 => by
   have ih := pcs_take_len h k
   by_cases hk : k < ks.length
   ·have e : pcsL (ks.take k ++ [ks[k]]) = pcsL (ks.take k) ++ pcsU ks[k].1 ks[k].2 := by unfold pcsL; rw [List.flatMap_append]; simp
    rw [List.take_succ_eq_append_getElem hk, e, List.length_append]
    have h2 := pcsU_len ks[k].1 ks[k].2
    obtain ⟨_, _, _, h3, _⟩ := h.each ks[k] (List.getElem_mem hk)
    omega
   ·rw [List.take_of_length_le (by omega)]
    rw [List.take_of_length_le (by omega)] at ih
    omega
end Go.Proofs.YtfkojnofbpdjdaaGreatDoor

namespace Go.Proofs.YtfkojnofbpdjdaaGreatDoor
set_option maxRecDepth 100000
open Go.RowKit
theorem ex_extract {P : Program} {w : World} {a : Act} {o : Oper} (x : Operand) (i : Nat) (vs : Array Value) (v : Value) (ho : o.op = .extract x i) (hx : a.eval x = .tuple vs) (hv : vs[i]? = some v) : (execOp a.eval o).run P w = .ok (.value v) w := by
 generalize a.eval = ρ at hx ⊢
 unfold execOp
 simp only [ho]
 go_simp
theorem ex_allocD {a : Act} {w : World} {o : Oper} (ho : o.op = .alloc 41) : (execOp a.eval o).run Tryz.prog w = .ok (.value (.pointer (some ⟨w.heap.size, 0, none⟩))) (w.alloc (.cells #[.int .i64 0, .slice none 0 0] 41)) := by
 unfold execOp
 simp only [ho]
 go_simp
theorem ex_buildD {a : Act} {w : World} {o : Oper} (x y : Operand) (k : Int) (A : Option Addr) (n c : Nat) (ho : o.op = .build 41 #[(0, x), (1, y)]) (hx : a.eval x = .int .i64 k) (hy : a.eval y = .slice A n c) : (execOp a.eval o).run Tryz.prog w = .ok (.value (.agg #[.int .i64 k, .slice A n c])) w := by
 generalize a.eval = ρ at hx hy ⊢
 unfold execOp
 simp only [ho]
 go_simp
theorem bx2 {w : World} {b : Nat} {v0 v1 : Value} {t : TypeId} (h : w.heap[b]? = some (.cells #[v0, v1] t)) :
 w.cell? ⟨b, 0, none⟩ = some v0 ∧ w.cell? ⟨b, 1, none⟩ = some v1 ∧ w.frozen? ⟨b, 0, none⟩ = false ∧ w.frozen? ⟨b, 1, none⟩ = false :=
 ⟨by rw [cell_of_row _ _ 0 _ _ _ h]; rfl, by rw [cell_of_row _ _ 1 _ _ _ h]; rfl, frozen_of_row w b 0 _ _ h, frozen_of_row w b 1 _ _ h⟩
theorem doc_size : (Tryz.prog.info? 41).map (·.size) = some 2 := by kernel_rfl
theorem wp_storeD {o : Oper} {a : Act} {w : World} {K : Act → World → Prop} {Q : Exit → Act → World → Prop} (x y : Operand) (ho : o.op = .store 41 x y) (hd : o.dst = none) (g : Nat) (k : Int) (A : Option Addr) (n c : Nat) (hx : a.eval x = .pointer (some ⟨g, 0, none⟩)) (hy : a.eval y = .agg #[.int .i64 k, .slice A n c])
 {v0 v1 : Value} (hb : w.heap[g]? = some (.cells #[v0, v1] 41)) (h : K a ((w.setCell ⟨g, 0, none⟩ (.int .i64 k)).setCell ⟨g, 1, none⟩ (.slice A n c))) : Oper.wp Tryz.prog o a w K Q := by
 obtain ⟨c0, c1, f0, f1⟩ := bx2 hb
 refine wp_store_mid 41 x y ho g 0 #[.int .i64 k, .slice A n c] hx hy (fun j hj => ?_) (by rw [doc_size]; rfl) (by rw [List.all_toArray]; rfl) ?_
 ·rcases (show j = 0 ∨ j = 1 by simp at hj; omega) with rfl | rfl
  ·exact ⟨by rw [c0]; rfl, f0⟩
  ·exact ⟨by rw [c1]; rfl, f1⟩
 ·rw [hd]
  exact h
theorem own_step {w w' : World} {B : Nat} {e : TypeId} {size n : Nat} {v : Value} {xs : List Value} (h : w.ownsRow B e size v n xs) (hb : Below w.heap.size w w') : w'.ownsRow B e size v n xs := own_same h fun k hk => hb.block k (h.lt k hk).2
theorem heap_lt {w : World} {g : Nat} {o : Obj} (h : w.heap[g]? = some o) : g < w.heap.size := (Array.getElem?_eq_some_iff.1 h).1
theorem heap_step {w w' : World} {g : Nat} {o : Obj} (h : w.heap[g]? = some o) (hb : Below w.heap.size w w') : w'.heap[g]? = some o := (hb.block g (heap_lt h)).trans h
theorem storeD_at {w : World} {g : Nat} {u0 u1 v0 v1 : Value} {t : TypeId} (h : w.heap[g]? = some (.cells #[v0, v1] t)) : ((w.setCell ⟨g, 0, none⟩ u0).setCell ⟨g, 1, none⟩ u1).heap[g]? = some (.cells #[u0, u1] t) := by
 have h1 := set_rw1 h 0 u0
 rw [set_rw1 h1 1 u1]
 rfl
theorem storeD_out {w : World} {g k : Nat} {u0 u1 : Value} (h : k ≠ g) : ((w.setCell ⟨g, 0, none⟩ u0).setCell ⟨g, 1, none⟩ u1).heap[k]? = w.heap[k]? := by
 rw [Below.heap_setCell _ _ _ _ h, Below.heap_setCell _ _ _ _ h]
theorem ldT_doc {w : World} {b : Nat} {k : Int} {A : Option Addr} {n c : Nat} (h0 : w.cell? ⟨b, 0, none⟩ = some (.int .i64 k)) (h1 : w.cell? ⟨b, 1, none⟩ = some (.slice A n c)) : (Instr.loadAt 41 (.pointer (some ⟨b, 0, none⟩))).run Tryz.prog w = .ok (.agg #[.int .i64 k, .slice A n c]) w := by
 go_simp
theorem ldT_parts {w : World} {b : Nat} {A : Option Addr} {n c : Nat} (h1 : w.cell? ⟨b, 1, none⟩ = some (.slice A n c)) : (Instr.loadAt 39 (.pointer (some ⟨b, 1, none⟩))).run Tryz.prog w = .ok (.slice A n c) w := by
 go_simp
end Go.Proofs.YtfkojnofbpdjdaaGreatDoor

namespace Go.Proofs.YtfkojnofbpdjdaaGreatDoor
set_option maxRecDepth 100000
open Go.RowKit
theorem dvalid_any (m fmt : Int) (hf : FmtOk fmt) (ps : List Pt) (hs : SplOk m fmt (ofL (bytesP ps)) ps) (A : Option Addr) (c : Nat) (w : World) (hm : w.cell? ⟨0, 0, none⟩ = some (.int .i64 m)) (h : RdE ptC 3 w (.slice A ps.length c) ps) (hl : ps.length ≤ 100000) (hsz : (bytesP ps).length ≤ 1000000) :
 Calls Tryz.prog 65 #[.agg #[.int .i64 fmt, .slice A ps.length c]] w (fun e w' => e = .returned (.int .i64 0) ∧ Below w.heap.size w w') := by
 have CK := Lib.hid (fun w => known_any fmt hf w)
 have CB := Lib.hid (fun (w' : World) (h : RdE ptC 3 w' (.slice A ps.length c) ps) => bytes_any fmt ps A c w' h hl hsz)
 have CP := Lib.hid (fun w hm => dparse_any m fmt hf (ofL (bytesP ps)) ps hs w hm)
 have CE := Lib.hid (fun (va vb : Value) (w' : World) (h1 : RdE ptC 3 w' va ps) (h2 : RdE ptC 3 w' vb ps) => equalP_any ps va vb w' h1 h2 (by omega))
 have HM := Lib.hid hm
 have HP := Lib.hid h
 have HB0 := Lib.hid (((Below.refl w.heap.size w).alloc (Nat.le_refl _) (.cells #[.int .i64 fmt, .slice A ps.length c] 41)).drew)
 have HX0 : Hid ((w.alloc (.cells #[.int .i64 fmt, .slice A ps.length c] 41)).drew.heap[w.heap.size]? = some (.cells #[.int .i64 fmt, .slice A ps.length c] 41)) := heap_alloc_new w _
 generalize ofL (bytesP ps) = data at *
 clear h hm hs
 go_enter Tryz.func65, Tryz.ntmps65
 go_wp2_with (first
  | (go_at_call 55; refine (CK.out _).mono ?_; rintro e w' ⟨rfl, rfl⟩))
 obtain ⟨g, hgx⟩ : ∃ g, Hid (w.heap.size = g) := ⟨_, rfl⟩
 rw [hgx.out] at HX0
 rw [hgx.out]
 have hgw : w.heap.size ≤ g := Nat.le_of_eq hgx.out
 refine wp_region_at 13 #[false, false, false, false, false, false, false, false, false, false, false, false, false] rfl rfl (by kernel_rfl) ?_
 generalize (w.alloc (.cells #[.int .i64 fmt, .slice A ps.length c] 41)).drew = W0 at HB0 HX0 ⊢
 refine zzA 0 (.pointer (some ⟨g, 0, none⟩)) (some 11) rfl (fun _ => ex_fieldAddr 41 _ 0 (.pointer (some ⟨g, 0, none⟩)) _ rfl (by kernel_rfl) (by go_simp)) ?_
 simp only [Act.put, List.setIfInBounds_toArray, List.set_cons_zero, List.set_cons_succ]
 refine wpAny_ops3 1 2 9 (by kernel_rfl) rfl rfl rfl (by kernel_rfl) (by kernel_rfl) (by kernel_rfl) ?_ ?_ ?_
 refine wp_of_val (v := .int .i64 fmt) (ex_load 3 _ (.pointer (some ⟨g, 0, none⟩)) _ rfl (by kernel_rfl) (ldT_int (bx2 HX0.out).1)) ?_
 simp only [Act.put, List.setIfInBounds_toArray, List.set_cons_zero, List.set_cons_succ]
 refine wpAny_two 2 9 (by kernel_rfl) rfl rfl (by kernel_rfl) (by kernel_rfl) ?_ ?_
 refine wp_of_val (v := .agg #[.int .i64 fmt, .slice A ps.length c]) (ex_load 41 _ (.pointer (some ⟨g, 0, none⟩)) _ rfl (by kernel_rfl) (ldT_doc (bx2 HX0.out).1 (bx2 HX0.out).2.1)) ?_
 simp only [Act.put, List.setIfInBounds_toArray, List.set_cons_zero, List.set_cons_succ]
 refine wpAny_two 3 9 (by kernel_rfl) rfl rfl (by kernel_rfl) (by kernel_rfl) ?_ ?_
 refine wp_of_call (ex_call1 (.tmp 13) _ (.agg #[.int .i64 fmt, .slice A ps.length c]) rfl (by kernel_rfl) (enters_of Tryz.func24 (by kernel_rfl) rfl _ _)) (CB.out W0 (RdE.below HP.out HB0.out (Nat.le_refl _))) ?_
 rintro e W1 ⟨rfl, hb⟩
 have HB1 := Lib.hid (HB0.out.trans (hb.mono HB0.out.size))
 have HX1 := Lib.hid (heap_step HX0.out hb)
 clear hb
 refine ⟨.string data, rfl, ?_⟩
 simp only [Act.put, List.setIfInBounds_toArray, List.set_cons_zero, List.set_cons_succ]
 refine wpAny_two 4 9 (by kernel_rfl) rfl rfl (by kernel_rfl) (by kernel_rfl) ?_ ?_
 refine wp_of_call (ex_call2 (.tmp 12) (.tmp 14) _ (.int .i64 fmt) (.string data) rfl (by kernel_rfl) (by kernel_rfl) (enters_of Tryz.func28 (by kernel_rfl) rfl _ _)) (CP.out W1 (below_cell0 HM.out HB1.out)) ?_
 rintro e W2 ⟨A2, c2, rfl, ho, hb⟩
 have HB2 := Lib.hid (HB1.out.trans (hb.mono HB1.out.size))
 have HX2 := Lib.hid (heap_step HX1.out hb)
 have HO2 := Lib.hid (own_base ho HB1.out.size)
 clear ho hb
 refine ⟨.tuple #[.agg #[.int .i64 fmt, .slice A2 ps.length c2], .int .i64 0, .int .i64 0], rfl, ?_⟩
 simp only [Act.put, List.setIfInBounds_toArray, List.set_cons_zero, List.set_cons_succ]
 refine zzM 5 (.tuple #[.agg #[.int .i64 fmt, .slice A2 ps.length c2], .int .i64 0, .int .i64 0]) (some 10) rfl ?_
 refine zzA 6 (.agg #[.int .i64 fmt, .slice A2 ps.length c2]) (some 16) rfl (fun _ => ex_extract _ 0 #[.agg #[.int .i64 fmt, .slice A2 ps.length c2], .int .i64 0, .int .i64 0] (.agg #[.int .i64 fmt, .slice A2 ps.length c2]) rfl (by kernel_rfl) rfl) ?_
 refine zzA 7 (.int .i64 0) (some 17) rfl (fun _ => ex_extract _ 1 #[.agg #[.int .i64 fmt, .slice A2 ps.length c2], .int .i64 0, .int .i64 0] (.int .i64 0) rfl (by kernel_rfl) rfl) ?_
 refine zzA 8 (.int .i64 0) (some 18) rfl (fun _ => ex_extract _ 2 #[.agg #[.int .i64 fmt, .slice A2 ps.length c2], .int .i64 0, .int .i64 0] (.int .i64 0) rfl (by kernel_rfl) rfl) ?_
 simp only [Act.put, List.setIfInBounds_toArray, List.set_cons_zero, List.set_cons_succ]
 refine wpAny_only 9 (by kernel_rfl) rfl (by kernel_rfl) ?_
 refine wp_of_valw (ex_allocD rfl) ?_
 have hal := (Below.refl W2.heap.size W2).alloc (Nat.le_refl _) (.cells #[.int .i64 0, .slice none 0 0] 41)
 have HB3 := Lib.hid (HB2.out.trans (hal.mono HB2.out.size))
 have HX3 := Lib.hid (heap_step HX2.out hal)
 have HO3 := Lib.hid (own_step HO2.out hal)
 have HG3 : Hid ((W2.alloc (.cells #[.int .i64 0, .slice none 0 0] 41)).heap[W2.heap.size]? = some (.cells #[.int .i64 0, .slice none 0 0] 41)) := heap_alloc_new W2 _
 have hg3 : g < W2.heap.size := heap_lt HX2.out
 clear hal
 generalize W2.heap.size = g3 at HG3 hg3 ⊢
 generalize W2.alloc (.cells #[.int .i64 0, .slice none 0 0] 41) = W3 at HB3 HX3 HG3 HO3 ⊢
 simp only [Act.put, List.setIfInBounds_toArray, List.set_cons_zero, List.set_cons_succ]
 refine wpAny_only 10 (by kernel_rfl) rfl (by kernel_rfl) ?_
 refine wp_storeD (.tmp 3) (.tmp 16) rfl rfl g3 fmt A2 ps.length c2 (by kernel_rfl) (by kernel_rfl) HG3.out ?_
 have HB4 := Lib.hid ((HB3.out.setCell (p := ⟨g3, 0, none⟩) (Nat.le_trans hgw (Nat.le_of_lt hg3)) (.int .i64 fmt)).setCell (p := ⟨g3, 1, none⟩) (Nat.le_trans hgw (Nat.le_of_lt hg3)) (.slice A2 ps.length c2))
 have HX4 := Lib.hid ((storeD_out (u0 := .int .i64 fmt) (u1 := .slice A2 ps.length c2) (Nat.ne_of_lt hg3)).trans HX3.out)
 have HG4 := Lib.hid (storeD_at (u0 := .int .i64 fmt) (u1 := .slice A2 ps.length c2) HG3.out)
 have HO4 := Lib.hid (own_same (w' := (W3.setCell ⟨g3, 0, none⟩ (.int .i64 fmt)).setCell ⟨g3, 1, none⟩ (.slice A2 ps.length c2)) HO3.out fun j hj => storeD_out (fun e => own_apart HO3.out HG3.out (by decide) j hj e))
 generalize (W3.setCell ⟨g3, 0, none⟩ (.int .i64 fmt)).setCell ⟨g3, 1, none⟩ (.slice A2 ps.length c2) = W4 at HB4 HX4 HG4 HO4 ⊢
 simp only [Act.put, List.setIfInBounds_toArray, List.set_cons_zero, List.set_cons_succ]
 refine zzG 11 (.int .i64 0) (some 4) rfl ?_
 refine zzG 12 (.int .i64 0) (some 5) rfl ?_
 refine wpAny_done (by kernel_rfl) ?_ _
 simp only [Act.put, List.setIfInBounds_toArray, List.set_cons_zero, List.set_cons_succ]
 obtain ⟨x0, x1, _⟩ := bx2 HX4.out
 obtain ⟨z0, z1, _⟩ := bx2 HG4.out
 have HXB := HB4
 have HOB := Lib.hid (OwnE.rd ptC_three HO4.out)
 have CEE := Lib.hid (CE.out _ _ W4 HOB.out (RdE.below HP.out HB4.out (Nat.le_refl _)))
 rotate_left 1
 refine wp_of_valw (ex_allocD rfl) ?_
 have hal := (Below.refl W1.heap.size W1).alloc (Nat.le_refl _) (.cells #[.int .i64 0, .slice none 0 0] 41)
 have HB2 := Lib.hid (HB1.out.trans (hal.mono HB1.out.size))
 have HX2 := Lib.hid (heap_step HX1.out hal)
 have HG2 : Hid ((W1.alloc (.cells #[.int .i64 0, .slice none 0 0] 41)).heap[W1.heap.size]? = some (.cells #[.int .i64 0, .slice none 0 0] 41)) := heap_alloc_new W1 _
 have hg3 : g < W1.heap.size := heap_lt HX1.out
 clear hal
 generalize W1.heap.size = g3 at HG2 hg3 ⊢
 generalize W1.alloc (.cells #[.int .i64 0, .slice none 0 0] 41) = W2 at HB2 HX2 HG2 ⊢
 simp only [Act.put, List.setIfInBounds_toArray, List.set_cons_zero, List.set_cons_succ]
 refine wpAny_only 4 (by kernel_rfl) rfl (by kernel_rfl) ?_
 refine wp_of_call (ex_call2 (.tmp 12) (.tmp 14) _ (.int .i64 fmt) (.string data) rfl (by kernel_rfl) (by kernel_rfl) (enters_of Tryz.func28 (by kernel_rfl) rfl _ _)) (CP.out W2 (below_cell0 HM.out HB2.out)) ?_
 rintro e W3 ⟨A2, c2, rfl, ho, hb⟩
 have HB3 := Lib.hid (HB2.out.trans (hb.mono HB2.out.size))
 have HX3 := Lib.hid (heap_step HX2.out hb)
 have HG3 := Lib.hid (heap_step HG2.out hb)
 have HO3 := Lib.hid (own_base ho HB2.out.size)
 clear ho hb
 refine ⟨.tuple #[.agg #[.int .i64 fmt, .slice A2 ps.length c2], .int .i64 0, .int .i64 0], rfl, ?_⟩
 simp only [Act.put, List.setIfInBounds_toArray, List.set_cons_zero, List.set_cons_succ]
 refine zzM 5 (.tuple #[.agg #[.int .i64 fmt, .slice A2 ps.length c2], .int .i64 0, .int .i64 0]) (some 10) rfl ?_
 refine zzA 6 (.agg #[.int .i64 fmt, .slice A2 ps.length c2]) (some 16) rfl (fun _ => ex_extract _ 0 #[.agg #[.int .i64 fmt, .slice A2 ps.length c2], .int .i64 0, .int .i64 0] (.agg #[.int .i64 fmt, .slice A2 ps.length c2]) rfl (by kernel_rfl) rfl) ?_
 refine zzA 7 (.int .i64 0) (some 17) rfl (fun _ => ex_extract _ 1 #[.agg #[.int .i64 fmt, .slice A2 ps.length c2], .int .i64 0, .int .i64 0] (.int .i64 0) rfl (by kernel_rfl) rfl) ?_
 refine zzA 8 (.int .i64 0) (some 18) rfl (fun _ => ex_extract _ 2 #[.agg #[.int .i64 fmt, .slice A2 ps.length c2], .int .i64 0, .int .i64 0] (.int .i64 0) rfl (by kernel_rfl) rfl) ?_
 simp only [Act.put, List.setIfInBounds_toArray, List.set_cons_zero, List.set_cons_succ]
 refine wpAny_only 10 (by kernel_rfl) rfl (by kernel_rfl) ?_
 refine wp_storeD (.tmp 3) (.tmp 16) rfl rfl g3 fmt A2 ps.length c2 (by kernel_rfl) (by kernel_rfl) HG3.out ?_
 have HB4 := Lib.hid ((HB3.out.setCell (p := ⟨g3, 0, none⟩) (Nat.le_trans hgw (Nat.le_of_lt hg3)) (.int .i64 fmt)).setCell (p := ⟨g3, 1, none⟩) (Nat.le_trans hgw (Nat.le_of_lt hg3)) (.slice A2 ps.length c2))
 have HX4 := Lib.hid ((storeD_out (u0 := .int .i64 fmt) (u1 := .slice A2 ps.length c2) (Nat.ne_of_lt hg3)).trans HX3.out)
 have HG4 := Lib.hid (storeD_at (u0 := .int .i64 fmt) (u1 := .slice A2 ps.length c2) HG3.out)
 have HO4 := Lib.hid (own_same (w' := (W3.setCell ⟨g3, 0, none⟩ (.int .i64 fmt)).setCell ⟨g3, 1, none⟩ (.slice A2 ps.length c2)) HO3.out fun j hj => storeD_out (fun e => own_apart HO3.out HG3.out (by decide) j hj e))
 generalize (W3.setCell ⟨g3, 0, none⟩ (.int .i64 fmt)).setCell ⟨g3, 1, none⟩ (.slice A2 ps.length c2) = W4 at HB4 HX4 HG4 HO4 ⊢
 simp only [Act.put, List.setIfInBounds_toArray, List.set_cons_zero, List.set_cons_succ]
 refine zzG 11 (.int .i64 0) (some 4) rfl ?_
 refine zzG 12 (.int .i64 0) (some 5) rfl ?_
 refine wpAny_done (by kernel_rfl) ?_ _
 simp only [Act.put, List.setIfInBounds_toArray, List.set_cons_zero, List.set_cons_succ]
 obtain ⟨x0, x1, _⟩ := bx2 HX4.out
 obtain ⟨z0, z1, _⟩ := bx2 HG4.out
 have HXB := HB4
 have HOB := Lib.hid (OwnE.rd ptC_three HO4.out)
 have CEE := Lib.hid (CE.out _ _ W4 HOB.out (RdE.below HP.out HB4.out (Nat.le_refl _)))
 rotate_left 1
 refine wp_of_valw (ex_allocD rfl) ?_
 have hal := (Below.refl W0.heap.size W0).alloc (Nat.le_refl _) (.cells #[.int .i64 0, .slice none 0 0] 41)
 have HB1 := Lib.hid (HB0.out.trans (hal.mono HB0.out.size))
 have HX1 := Lib.hid (heap_step HX0.out hal)
 have HG1 : Hid ((W0.alloc (.cells #[.int .i64 0, .slice none 0 0] 41)).heap[W0.heap.size]? = some (.cells #[.int .i64 0, .slice none 0 0] 41)) := heap_alloc_new W0 _
 have hg3 : g < W0.heap.size := heap_lt HX0.out
 clear hal
 generalize W0.heap.size = g3 at HG1 hg3 ⊢
 generalize W0.alloc (.cells #[.int .i64 0, .slice none 0 0] 41) = W1 at HB1 HX1 HG1 ⊢
 simp only [Act.put, List.setIfInBounds_toArray, List.set_cons_zero, List.set_cons_succ]
 refine wpAny_only 3 (by kernel_rfl) rfl (by kernel_rfl) ?_
 refine wp_of_call (ex_call1 (.tmp 13) _ (.agg #[.int .i64 fmt, .slice A ps.length c]) rfl (by kernel_rfl) (enters_of Tryz.func24 (by kernel_rfl) rfl _ _)) (CB.out W1 (RdE.below HP.out HB1.out (Nat.le_refl _))) ?_
 rintro e W2 ⟨rfl, hb⟩
 have HB2 := Lib.hid (HB1.out.trans (hb.mono HB1.out.size))
 have HX2 := Lib.hid (heap_step HX1.out hb)
 have HG2 := Lib.hid (heap_step HG1.out hb)
 clear hb
 refine ⟨.string data, rfl, ?_⟩
 simp only [Act.put, List.setIfInBounds_toArray, List.set_cons_zero, List.set_cons_succ]
 refine wpAny_only 4 (by kernel_rfl) rfl (by kernel_rfl) ?_
 refine wp_of_call (ex_call2 (.tmp 12) (.tmp 14) _ (.int .i64 fmt) (.string data) rfl (by kernel_rfl) (by kernel_rfl) (enters_of Tryz.func28 (by kernel_rfl) rfl _ _)) (CP.out W2 (below_cell0 HM.out HB2.out)) ?_
 rintro e W3 ⟨A2, c2, rfl, ho, hb⟩
 have HB3 := Lib.hid (HB2.out.trans (hb.mono HB2.out.size))
 have HX3 := Lib.hid (heap_step HX2.out hb)
 have HG3 := Lib.hid (heap_step HG2.out hb)
 have HO3 := Lib.hid (own_base ho HB2.out.size)
 clear ho hb
 refine ⟨.tuple #[.agg #[.int .i64 fmt, .slice A2 ps.length c2], .int .i64 0, .int .i64 0], rfl, ?_⟩
 simp only [Act.put, List.setIfInBounds_toArray, List.set_cons_zero, List.set_cons_succ]
 refine zzM 5 (.tuple #[.agg #[.int .i64 fmt, .slice A2 ps.length c2], .int .i64 0, .int .i64 0]) (some 10) rfl ?_
 refine zzA 6 (.agg #[.int .i64 fmt, .slice A2 ps.length c2]) (some 16) rfl (fun _ => ex_extract _ 0 #[.agg #[.int .i64 fmt, .slice A2 ps.length c2], .int .i64 0, .int .i64 0] (.agg #[.int .i64 fmt, .slice A2 ps.length c2]) rfl (by kernel_rfl) rfl) ?_
 refine zzA 7 (.int .i64 0) (some 17) rfl (fun _ => ex_extract _ 1 #[.agg #[.int .i64 fmt, .slice A2 ps.length c2], .int .i64 0, .int .i64 0] (.int .i64 0) rfl (by kernel_rfl) rfl) ?_
 refine zzA 8 (.int .i64 0) (some 18) rfl (fun _ => ex_extract _ 2 #[.agg #[.int .i64 fmt, .slice A2 ps.length c2], .int .i64 0, .int .i64 0] (.int .i64 0) rfl (by kernel_rfl) rfl) ?_
 simp only [Act.put, List.setIfInBounds_toArray, List.set_cons_zero, List.set_cons_succ]
 refine wpAny_only 10 (by kernel_rfl) rfl (by kernel_rfl) ?_
 refine wp_storeD (.tmp 3) (.tmp 16) rfl rfl g3 fmt A2 ps.length c2 (by kernel_rfl) (by kernel_rfl) HG3.out ?_
 have HB4 := Lib.hid ((HB3.out.setCell (p := ⟨g3, 0, none⟩) (Nat.le_trans hgw (Nat.le_of_lt hg3)) (.int .i64 fmt)).setCell (p := ⟨g3, 1, none⟩) (Nat.le_trans hgw (Nat.le_of_lt hg3)) (.slice A2 ps.length c2))
 have HX4 := Lib.hid ((storeD_out (u0 := .int .i64 fmt) (u1 := .slice A2 ps.length c2) (Nat.ne_of_lt hg3)).trans HX3.out)
 have HG4 := Lib.hid (storeD_at (u0 := .int .i64 fmt) (u1 := .slice A2 ps.length c2) HG3.out)
 have HO4 := Lib.hid (own_same (w' := (W3.setCell ⟨g3, 0, none⟩ (.int .i64 fmt)).setCell ⟨g3, 1, none⟩ (.slice A2 ps.length c2)) HO3.out fun j hj => storeD_out (fun e => own_apart HO3.out HG3.out (by decide) j hj e))
 generalize (W3.setCell ⟨g3, 0, none⟩ (.int .i64 fmt)).setCell ⟨g3, 1, none⟩ (.slice A2 ps.length c2) = W4 at HB4 HX4 HG4 HO4 ⊢
 simp only [Act.put, List.setIfInBounds_toArray, List.set_cons_zero, List.set_cons_succ]
 refine zzG 11 (.int .i64 0) (some 4) rfl ?_
 refine zzG 12 (.int .i64 0) (some 5) rfl ?_
 refine wpAny_done (by kernel_rfl) ?_ _
 simp only [Act.put, List.setIfInBounds_toArray, List.set_cons_zero, List.set_cons_succ]
 obtain ⟨x0, x1, _⟩ := bx2 HX4.out
 obtain ⟨z0, z1, _⟩ := bx2 HG4.out
 have HXB := HB4
 have HOB := Lib.hid (OwnE.rd ptC_three HO4.out)
 have CEE := Lib.hid (CE.out _ _ W4 HOB.out (RdE.below HP.out HB4.out (Nat.le_refl _)))
 rotate_left 1
 refine wp_of_valw (ex_allocD rfl) ?_
 have hal := (Below.refl W0.heap.size W0).alloc (Nat.le_refl _) (.cells #[.int .i64 0, .slice none 0 0] 41)
 have HB1 := Lib.hid (HB0.out.trans (hal.mono HB0.out.size))
 have HX1 := Lib.hid (heap_step HX0.out hal)
 have HG1 : Hid ((W0.alloc (.cells #[.int .i64 0, .slice none 0 0] 41)).heap[W0.heap.size]? = some (.cells #[.int .i64 0, .slice none 0 0] 41)) := heap_alloc_new W0 _
 have hg3 : g < W0.heap.size := heap_lt HX0.out
 clear hal
 generalize W0.heap.size = g3 at HG1 hg3 ⊢
 generalize W0.alloc (.cells #[.int .i64 0, .slice none 0 0] 41) = W1 at HB1 HX1 HG1 ⊢
 simp only [Act.put, List.setIfInBounds_toArray, List.set_cons_zero, List.set_cons_succ]
 refine wpAny_only 2 (by kernel_rfl) rfl (by kernel_rfl) ?_
 refine wp_of_val (v := .agg #[.int .i64 fmt, .slice A ps.length c]) (ex_load 41 _ (.pointer (some ⟨g, 0, none⟩)) _ rfl (by kernel_rfl) (ldT_doc (bx2 HX1.out).1 (bx2 HX1.out).2.1)) ?_
 simp only [Act.put, List.setIfInBounds_toArray, List.set_cons_zero, List.set_cons_succ]
 refine wpAny_only 3 (by kernel_rfl) rfl (by kernel_rfl) ?_
 refine wp_of_call (ex_call1 (.tmp 13) _ (.agg #[.int .i64 fmt, .slice A ps.length c]) rfl (by kernel_rfl) (enters_of Tryz.func24 (by kernel_rfl) rfl _ _)) (CB.out W1 (RdE.below HP.out HB1.out (Nat.le_refl _))) ?_
 rintro e W2 ⟨rfl, hb⟩
 have HB2 := Lib.hid (HB1.out.trans (hb.mono HB1.out.size))
 have HX2 := Lib.hid (heap_step HX1.out hb)
 have HG2 := Lib.hid (heap_step HG1.out hb)
 clear hb
 refine ⟨.string data, rfl, ?_⟩
 simp only [Act.put, List.setIfInBounds_toArray, List.set_cons_zero, List.set_cons_succ]
 refine wpAny_only 4 (by kernel_rfl) rfl (by kernel_rfl) ?_
 refine wp_of_call (ex_call2 (.tmp 12) (.tmp 14) _ (.int .i64 fmt) (.string data) rfl (by kernel_rfl) (by kernel_rfl) (enters_of Tryz.func28 (by kernel_rfl) rfl _ _)) (CP.out W2 (below_cell0 HM.out HB2.out)) ?_
 rintro e W3 ⟨A2, c2, rfl, ho, hb⟩
 have HB3 := Lib.hid (HB2.out.trans (hb.mono HB2.out.size))
 have HX3 := Lib.hid (heap_step HX2.out hb)
 have HG3 := Lib.hid (heap_step HG2.out hb)
 have HO3 := Lib.hid (own_base ho HB2.out.size)
 clear ho hb
 refine ⟨.tuple #[.agg #[.int .i64 fmt, .slice A2 ps.length c2], .int .i64 0, .int .i64 0], rfl, ?_⟩
 simp only [Act.put, List.setIfInBounds_toArray, List.set_cons_zero, List.set_cons_succ]
 refine zzM 5 (.tuple #[.agg #[.int .i64 fmt, .slice A2 ps.length c2], .int .i64 0, .int .i64 0]) (some 10) rfl ?_
 refine zzA 6 (.agg #[.int .i64 fmt, .slice A2 ps.length c2]) (some 16) rfl (fun _ => ex_extract _ 0 #[.agg #[.int .i64 fmt, .slice A2 ps.length c2], .int .i64 0, .int .i64 0] (.agg #[.int .i64 fmt, .slice A2 ps.length c2]) rfl (by kernel_rfl) rfl) ?_
 refine zzA 7 (.int .i64 0) (some 17) rfl (fun _ => ex_extract _ 1 #[.agg #[.int .i64 fmt, .slice A2 ps.length c2], .int .i64 0, .int .i64 0] (.int .i64 0) rfl (by kernel_rfl) rfl) ?_
 refine zzA 8 (.int .i64 0) (some 18) rfl (fun _ => ex_extract _ 2 #[.agg #[.int .i64 fmt, .slice A2 ps.length c2], .int .i64 0, .int .i64 0] (.int .i64 0) rfl (by kernel_rfl) rfl) ?_
 simp only [Act.put, List.setIfInBounds_toArray, List.set_cons_zero, List.set_cons_succ]
 refine wpAny_only 10 (by kernel_rfl) rfl (by kernel_rfl) ?_
 refine wp_storeD (.tmp 3) (.tmp 16) rfl rfl g3 fmt A2 ps.length c2 (by kernel_rfl) (by kernel_rfl) HG3.out ?_
 have HB4 := Lib.hid ((HB3.out.setCell (p := ⟨g3, 0, none⟩) (Nat.le_trans hgw (Nat.le_of_lt hg3)) (.int .i64 fmt)).setCell (p := ⟨g3, 1, none⟩) (Nat.le_trans hgw (Nat.le_of_lt hg3)) (.slice A2 ps.length c2))
 have HX4 := Lib.hid ((storeD_out (u0 := .int .i64 fmt) (u1 := .slice A2 ps.length c2) (Nat.ne_of_lt hg3)).trans HX3.out)
 have HG4 := Lib.hid (storeD_at (u0 := .int .i64 fmt) (u1 := .slice A2 ps.length c2) HG3.out)
 have HO4 := Lib.hid (own_same (w' := (W3.setCell ⟨g3, 0, none⟩ (.int .i64 fmt)).setCell ⟨g3, 1, none⟩ (.slice A2 ps.length c2)) HO3.out fun j hj => storeD_out (fun e => own_apart HO3.out HG3.out (by decide) j hj e))
 generalize (W3.setCell ⟨g3, 0, none⟩ (.int .i64 fmt)).setCell ⟨g3, 1, none⟩ (.slice A2 ps.length c2) = W4 at HB4 HX4 HG4 HO4 ⊢
 simp only [Act.put, List.setIfInBounds_toArray, List.set_cons_zero, List.set_cons_succ]
 refine zzG 11 (.int .i64 0) (some 4) rfl ?_
 refine zzG 12 (.int .i64 0) (some 5) rfl ?_
 refine wpAny_done (by kernel_rfl) ?_ _
 simp only [Act.put, List.setIfInBounds_toArray, List.set_cons_zero, List.set_cons_succ]
 obtain ⟨x0, x1, _⟩ := bx2 HX4.out
 obtain ⟨z0, z1, _⟩ := bx2 HG4.out
 have HXB := HB4
 have HOB := Lib.hid (OwnE.rd ptC_three HO4.out)
 have CEE := Lib.hid (CE.out _ _ W4 HOB.out (RdE.below HP.out HB4.out (Nat.le_refl _)))
 rotate_left 1
 refine wp_of_val (v := .agg #[.int .i64 fmt, .slice A ps.length c]) (ex_load 41 _ (.pointer (some ⟨g, 0, none⟩)) _ rfl (by kernel_rfl) (ldT_doc (bx2 HX0.out).1 (bx2 HX0.out).2.1)) ?_
 simp only [Act.put, List.setIfInBounds_toArray, List.set_cons_zero, List.set_cons_succ]
 refine wpAny_ops3 1 3 9 (by kernel_rfl) rfl rfl rfl (by kernel_rfl) (by kernel_rfl) (by kernel_rfl) ?_ ?_ ?_
 refine wp_of_val (v := .int .i64 fmt) (ex_load 3 _ (.pointer (some ⟨g, 0, none⟩)) _ rfl (by kernel_rfl) (ldT_int (bx2 HX0.out).1)) ?_
 simp only [Act.put, List.setIfInBounds_toArray, List.set_cons_zero, List.set_cons_succ]
 refine wpAny_two 3 9 (by kernel_rfl) rfl rfl (by kernel_rfl) (by kernel_rfl) ?_ ?_
 refine wp_of_call (ex_call1 (.tmp 13) _ (.agg #[.int .i64 fmt, .slice A ps.length c]) rfl (by kernel_rfl) (enters_of Tryz.func24 (by kernel_rfl) rfl _ _)) (CB.out W0 (RdE.below HP.out HB0.out (Nat.le_refl _))) ?_
 rintro e W1 ⟨rfl, hb⟩
 have HB1 := Lib.hid (HB0.out.trans (hb.mono HB0.out.size))
 have HX1 := Lib.hid (heap_step HX0.out hb)
 clear hb
 refine ⟨.string data, rfl, ?_⟩
 simp only [Act.put, List.setIfInBounds_toArray, List.set_cons_zero, List.set_cons_succ]
 refine wpAny_two 4 9 (by kernel_rfl) rfl rfl (by kernel_rfl) (by kernel_rfl) ?_ ?_
 refine wp_of_call (ex_call2 (.tmp 12) (.tmp 14) _ (.int .i64 fmt) (.string data) rfl (by kernel_rfl) (by kernel_rfl) (enters_of Tryz.func28 (by kernel_rfl) rfl _ _)) (CP.out W1 (below_cell0 HM.out HB1.out)) ?_
 rintro e W2 ⟨A2, c2, rfl, ho, hb⟩
 have HB2 := Lib.hid (HB1.out.trans (hb.mono HB1.out.size))
 have HX2 := Lib.hid (heap_step HX1.out hb)
 have HO2 := Lib.hid (own_base ho HB1.out.size)
 clear ho hb
 refine ⟨.tuple #[.agg #[.int .i64 fmt, .slice A2 ps.length c2], .int .i64 0, .int .i64 0], rfl, ?_⟩
 simp only [Act.put, List.setIfInBounds_toArray, List.set_cons_zero, List.set_cons_succ]
 refine zzM 5 (.tuple #[.agg #[.int .i64 fmt, .slice A2 ps.length c2], .int .i64 0, .int .i64 0]) (some 10) rfl ?_
 refine zzA 6 (.agg #[.int .i64 fmt, .slice A2 ps.length c2]) (some 16) rfl (fun _ => ex_extract _ 0 #[.agg #[.int .i64 fmt, .slice A2 ps.length c2], .int .i64 0, .int .i64 0] (.agg #[.int .i64 fmt, .slice A2 ps.length c2]) rfl (by kernel_rfl) rfl) ?_
 refine zzA 7 (.int .i64 0) (some 17) rfl (fun _ => ex_extract _ 1 #[.agg #[.int .i64 fmt, .slice A2 ps.length c2], .int .i64 0, .int .i64 0] (.int .i64 0) rfl (by kernel_rfl) rfl) ?_
 refine zzA 8 (.int .i64 0) (some 18) rfl (fun _ => ex_extract _ 2 #[.agg #[.int .i64 fmt, .slice A2 ps.length c2], .int .i64 0, .int .i64 0] (.int .i64 0) rfl (by kernel_rfl) rfl) ?_
 simp only [Act.put, List.setIfInBounds_toArray, List.set_cons_zero, List.set_cons_succ]
 refine wpAny_only 9 (by kernel_rfl) rfl (by kernel_rfl) ?_
 refine wp_of_valw (ex_allocD rfl) ?_
 have hal := (Below.refl W2.heap.size W2).alloc (Nat.le_refl _) (.cells #[.int .i64 0, .slice none 0 0] 41)
 have HB3 := Lib.hid (HB2.out.trans (hal.mono HB2.out.size))
 have HX3 := Lib.hid (heap_step HX2.out hal)
 have HO3 := Lib.hid (own_step HO2.out hal)
 have HG3 : Hid ((W2.alloc (.cells #[.int .i64 0, .slice none 0 0] 41)).heap[W2.heap.size]? = some (.cells #[.int .i64 0, .slice none 0 0] 41)) := heap_alloc_new W2 _
 have hg3 : g < W2.heap.size := heap_lt HX2.out
 clear hal
 generalize W2.heap.size = g3 at HG3 hg3 ⊢
 generalize W2.alloc (.cells #[.int .i64 0, .slice none 0 0] 41) = W3 at HB3 HX3 HG3 HO3 ⊢
 simp only [Act.put, List.setIfInBounds_toArray, List.set_cons_zero, List.set_cons_succ]
 refine wpAny_only 10 (by kernel_rfl) rfl (by kernel_rfl) ?_
 refine wp_storeD (.tmp 3) (.tmp 16) rfl rfl g3 fmt A2 ps.length c2 (by kernel_rfl) (by kernel_rfl) HG3.out ?_
 have HB4 := Lib.hid ((HB3.out.setCell (p := ⟨g3, 0, none⟩) (Nat.le_trans hgw (Nat.le_of_lt hg3)) (.int .i64 fmt)).setCell (p := ⟨g3, 1, none⟩) (Nat.le_trans hgw (Nat.le_of_lt hg3)) (.slice A2 ps.length c2))
 have HX4 := Lib.hid ((storeD_out (u0 := .int .i64 fmt) (u1 := .slice A2 ps.length c2) (Nat.ne_of_lt hg3)).trans HX3.out)
 have HG4 := Lib.hid (storeD_at (u0 := .int .i64 fmt) (u1 := .slice A2 ps.length c2) HG3.out)
 have HO4 := Lib.hid (own_same (w' := (W3.setCell ⟨g3, 0, none⟩ (.int .i64 fmt)).setCell ⟨g3, 1, none⟩ (.slice A2 ps.length c2)) HO3.out fun j hj => storeD_out (fun e => own_apart HO3.out HG3.out (by decide) j hj e))
 generalize (W3.setCell ⟨g3, 0, none⟩ (.int .i64 fmt)).setCell ⟨g3, 1, none⟩ (.slice A2 ps.length c2) = W4 at HB4 HX4 HG4 HO4 ⊢
 simp only [Act.put, List.setIfInBounds_toArray, List.set_cons_zero, List.set_cons_succ]
 refine zzG 11 (.int .i64 0) (some 4) rfl ?_
 refine zzG 12 (.int .i64 0) (some 5) rfl ?_
 refine wpAny_done (by kernel_rfl) ?_ _
 simp only [Act.put, List.setIfInBounds_toArray, List.set_cons_zero, List.set_cons_succ]
 obtain ⟨x0, x1, _⟩ := bx2 HX4.out
 obtain ⟨z0, z1, _⟩ := bx2 HG4.out
 have HXB := HB4
 have HOB := Lib.hid (OwnE.rd ptC_three HO4.out)
 have CEE := Lib.hid (CE.out _ _ W4 HOB.out (RdE.below HP.out HB4.out (Nat.le_refl _)))
 rotate_left 1
 refine wp_of_valw (ex_allocD rfl) ?_
 have hal := (Below.refl W1.heap.size W1).alloc (Nat.le_refl _) (.cells #[.int .i64 0, .slice none 0 0] 41)
 have HB2 := Lib.hid (HB1.out.trans (hal.mono HB1.out.size))
 have HX2 := Lib.hid (heap_step HX1.out hal)
 have HG2 : Hid ((W1.alloc (.cells #[.int .i64 0, .slice none 0 0] 41)).heap[W1.heap.size]? = some (.cells #[.int .i64 0, .slice none 0 0] 41)) := heap_alloc_new W1 _
 have hg3 : g < W1.heap.size := heap_lt HX1.out
 clear hal
 generalize W1.heap.size = g3 at HG2 hg3 ⊢
 generalize W1.alloc (.cells #[.int .i64 0, .slice none 0 0] 41) = W2 at HB2 HX2 HG2 ⊢
 simp only [Act.put, List.setIfInBounds_toArray, List.set_cons_zero, List.set_cons_succ]
 refine wpAny_only 4 (by kernel_rfl) rfl (by kernel_rfl) ?_
 refine wp_of_call (ex_call2 (.tmp 12) (.tmp 14) _ (.int .i64 fmt) (.string data) rfl (by kernel_rfl) (by kernel_rfl) (enters_of Tryz.func28 (by kernel_rfl) rfl _ _)) (CP.out W2 (below_cell0 HM.out HB2.out)) ?_
 rintro e W3 ⟨A2, c2, rfl, ho, hb⟩
 have HB3 := Lib.hid (HB2.out.trans (hb.mono HB2.out.size))
 have HX3 := Lib.hid (heap_step HX2.out hb)
 have HG3 := Lib.hid (heap_step HG2.out hb)
 have HO3 := Lib.hid (own_base ho HB2.out.size)
 clear ho hb
 refine ⟨.tuple #[.agg #[.int .i64 fmt, .slice A2 ps.length c2], .int .i64 0, .int .i64 0], rfl, ?_⟩
 simp only [Act.put, List.setIfInBounds_toArray, List.set_cons_zero, List.set_cons_succ]
 refine zzM 5 (.tuple #[.agg #[.int .i64 fmt, .slice A2 ps.length c2], .int .i64 0, .int .i64 0]) (some 10) rfl ?_
 refine zzA 6 (.agg #[.int .i64 fmt, .slice A2 ps.length c2]) (some 16) rfl (fun _ => ex_extract _ 0 #[.agg #[.int .i64 fmt, .slice A2 ps.length c2], .int .i64 0, .int .i64 0] (.agg #[.int .i64 fmt, .slice A2 ps.length c2]) rfl (by kernel_rfl) rfl) ?_
 refine zzA 7 (.int .i64 0) (some 17) rfl (fun _ => ex_extract _ 1 #[.agg #[.int .i64 fmt, .slice A2 ps.length c2], .int .i64 0, .int .i64 0] (.int .i64 0) rfl (by kernel_rfl) rfl) ?_
 refine zzA 8 (.int .i64 0) (some 18) rfl (fun _ => ex_extract _ 2 #[.agg #[.int .i64 fmt, .slice A2 ps.length c2], .int .i64 0, .int .i64 0] (.int .i64 0) rfl (by kernel_rfl) rfl) ?_
 simp only [Act.put, List.setIfInBounds_toArray, List.set_cons_zero, List.set_cons_succ]
 refine wpAny_only 10 (by kernel_rfl) rfl (by kernel_rfl) ?_
 refine wp_storeD (.tmp 3) (.tmp 16) rfl rfl g3 fmt A2 ps.length c2 (by kernel_rfl) (by kernel_rfl) HG3.out ?_
 have HB4 := Lib.hid ((HB3.out.setCell (p := ⟨g3, 0, none⟩) (Nat.le_trans hgw (Nat.le_of_lt hg3)) (.int .i64 fmt)).setCell (p := ⟨g3, 1, none⟩) (Nat.le_trans hgw (Nat.le_of_lt hg3)) (.slice A2 ps.length c2))
 have HX4 := Lib.hid ((storeD_out (u0 := .int .i64 fmt) (u1 := .slice A2 ps.length c2) (Nat.ne_of_lt hg3)).trans HX3.out)
 have HG4 := Lib.hid (storeD_at (u0 := .int .i64 fmt) (u1 := .slice A2 ps.length c2) HG3.out)
 have HO4 := Lib.hid (own_same (w' := (W3.setCell ⟨g3, 0, none⟩ (.int .i64 fmt)).setCell ⟨g3, 1, none⟩ (.slice A2 ps.length c2)) HO3.out fun j hj => storeD_out (fun e => own_apart HO3.out HG3.out (by decide) j hj e))
 generalize (W3.setCell ⟨g3, 0, none⟩ (.int .i64 fmt)).setCell ⟨g3, 1, none⟩ (.slice A2 ps.length c2) = W4 at HB4 HX4 HG4 HO4 ⊢
 simp only [Act.put, List.setIfInBounds_toArray, List.set_cons_zero, List.set_cons_succ]
 refine zzG 11 (.int .i64 0) (some 4) rfl ?_
 refine zzG 12 (.int .i64 0) (some 5) rfl ?_
 refine wpAny_done (by kernel_rfl) ?_ _
 simp only [Act.put, List.setIfInBounds_toArray, List.set_cons_zero, List.set_cons_succ]
 obtain ⟨x0, x1, _⟩ := bx2 HX4.out
 obtain ⟨z0, z1, _⟩ := bx2 HG4.out
 have HXB := HB4
 have HOB := Lib.hid (OwnE.rd ptC_three HO4.out)
 have CEE := Lib.hid (CE.out _ _ W4 HOB.out (RdE.below HP.out HB4.out (Nat.le_refl _)))
 rotate_left 1
 refine wp_of_valw (ex_allocD rfl) ?_
 have hal := (Below.refl W0.heap.size W0).alloc (Nat.le_refl _) (.cells #[.int .i64 0, .slice none 0 0] 41)
 have HB1 := Lib.hid (HB0.out.trans (hal.mono HB0.out.size))
 have HX1 := Lib.hid (heap_step HX0.out hal)
 have HG1 : Hid ((W0.alloc (.cells #[.int .i64 0, .slice none 0 0] 41)).heap[W0.heap.size]? = some (.cells #[.int .i64 0, .slice none 0 0] 41)) := heap_alloc_new W0 _
 have hg3 : g < W0.heap.size := heap_lt HX0.out
 clear hal
 generalize W0.heap.size = g3 at HG1 hg3 ⊢
 generalize W0.alloc (.cells #[.int .i64 0, .slice none 0 0] 41) = W1 at HB1 HX1 HG1 ⊢
 simp only [Act.put, List.setIfInBounds_toArray, List.set_cons_zero, List.set_cons_succ]
 refine wpAny_only 3 (by kernel_rfl) rfl (by kernel_rfl) ?_
 refine wp_of_call (ex_call1 (.tmp 13) _ (.agg #[.int .i64 fmt, .slice A ps.length c]) rfl (by kernel_rfl) (enters_of Tryz.func24 (by kernel_rfl) rfl _ _)) (CB.out W1 (RdE.below HP.out HB1.out (Nat.le_refl _))) ?_
 rintro e W2 ⟨rfl, hb⟩
 have HB2 := Lib.hid (HB1.out.trans (hb.mono HB1.out.size))
 have HX2 := Lib.hid (heap_step HX1.out hb)
 have HG2 := Lib.hid (heap_step HG1.out hb)
 clear hb
 refine ⟨.string data, rfl, ?_⟩
 simp only [Act.put, List.setIfInBounds_toArray, List.set_cons_zero, List.set_cons_succ]
 refine wpAny_only 4 (by kernel_rfl) rfl (by kernel_rfl) ?_
 refine wp_of_call (ex_call2 (.tmp 12) (.tmp 14) _ (.int .i64 fmt) (.string data) rfl (by kernel_rfl) (by kernel_rfl) (enters_of Tryz.func28 (by kernel_rfl) rfl _ _)) (CP.out W2 (below_cell0 HM.out HB2.out)) ?_
 rintro e W3 ⟨A2, c2, rfl, ho, hb⟩
 have HB3 := Lib.hid (HB2.out.trans (hb.mono HB2.out.size))
 have HX3 := Lib.hid (heap_step HX2.out hb)
 have HG3 := Lib.hid (heap_step HG2.out hb)
 have HO3 := Lib.hid (own_base ho HB2.out.size)
 clear ho hb
 refine ⟨.tuple #[.agg #[.int .i64 fmt, .slice A2 ps.length c2], .int .i64 0, .int .i64 0], rfl, ?_⟩
 simp only [Act.put, List.setIfInBounds_toArray, List.set_cons_zero, List.set_cons_succ]
 refine zzM 5 (.tuple #[.agg #[.int .i64 fmt, .slice A2 ps.length c2], .int .i64 0, .int .i64 0]) (some 10) rfl ?_
 refine zzA 6 (.agg #[.int .i64 fmt, .slice A2 ps.length c2]) (some 16) rfl (fun _ => ex_extract _ 0 #[.agg #[.int .i64 fmt, .slice A2 ps.length c2], .int .i64 0, .int .i64 0] (.agg #[.int .i64 fmt, .slice A2 ps.length c2]) rfl (by kernel_rfl) rfl) ?_
 refine zzA 7 (.int .i64 0) (some 17) rfl (fun _ => ex_extract _ 1 #[.agg #[.int .i64 fmt, .slice A2 ps.length c2], .int .i64 0, .int .i64 0] (.int .i64 0) rfl (by kernel_rfl) rfl) ?_
 refine zzA 8 (.int .i64 0) (some 18) rfl (fun _ => ex_extract _ 2 #[.agg #[.int .i64 fmt, .slice A2 ps.length c2], .int .i64 0, .int .i64 0] (.int .i64 0) rfl (by kernel_rfl) rfl) ?_
 simp only [Act.put, List.setIfInBounds_toArray, List.set_cons_zero, List.set_cons_succ]
 refine wpAny_only 10 (by kernel_rfl) rfl (by kernel_rfl) ?_
 refine wp_storeD (.tmp 3) (.tmp 16) rfl rfl g3 fmt A2 ps.length c2 (by kernel_rfl) (by kernel_rfl) HG3.out ?_
 have HB4 := Lib.hid ((HB3.out.setCell (p := ⟨g3, 0, none⟩) (Nat.le_trans hgw (Nat.le_of_lt hg3)) (.int .i64 fmt)).setCell (p := ⟨g3, 1, none⟩) (Nat.le_trans hgw (Nat.le_of_lt hg3)) (.slice A2 ps.length c2))
 have HX4 := Lib.hid ((storeD_out (u0 := .int .i64 fmt) (u1 := .slice A2 ps.length c2) (Nat.ne_of_lt hg3)).trans HX3.out)
 have HG4 := Lib.hid (storeD_at (u0 := .int .i64 fmt) (u1 := .slice A2 ps.length c2) HG3.out)
 have HO4 := Lib.hid (own_same (w' := (W3.setCell ⟨g3, 0, none⟩ (.int .i64 fmt)).setCell ⟨g3, 1, none⟩ (.slice A2 ps.length c2)) HO3.out fun j hj => storeD_out (fun e => own_apart HO3.out HG3.out (by decide) j hj e))
 generalize (W3.setCell ⟨g3, 0, none⟩ (.int .i64 fmt)).setCell ⟨g3, 1, none⟩ (.slice A2 ps.length c2) = W4 at HB4 HX4 HG4 HO4 ⊢
 simp only [Act.put, List.setIfInBounds_toArray, List.set_cons_zero, List.set_cons_succ]
 refine zzG 11 (.int .i64 0) (some 4) rfl ?_
 refine zzG 12 (.int .i64 0) (some 5) rfl ?_
 refine wpAny_done (by kernel_rfl) ?_ _
 simp only [Act.put, List.setIfInBounds_toArray, List.set_cons_zero, List.set_cons_succ]
 obtain ⟨x0, x1, _⟩ := bx2 HX4.out
 obtain ⟨z0, z1, _⟩ := bx2 HG4.out
 have HXB := HB4
 have HOB := Lib.hid (OwnE.rd ptC_three HO4.out)
 have CEE := Lib.hid (CE.out _ _ W4 HOB.out (RdE.below HP.out HB4.out (Nat.le_refl _)))
 rotate_left 1
 refine wp_of_call (ex_call1 (.tmp 13) _ (.agg #[.int .i64 fmt, .slice A ps.length c]) rfl (by kernel_rfl) (enters_of Tryz.func24 (by kernel_rfl) rfl _ _)) (CB.out W0 (RdE.below HP.out HB0.out (Nat.le_refl _))) ?_
 rintro e W1 ⟨rfl, hb⟩
 have HB1 := Lib.hid (HB0.out.trans (hb.mono HB0.out.size))
 have HX1 := Lib.hid (heap_step HX0.out hb)
 clear hb
 refine ⟨.string data, rfl, ?_⟩
 simp only [Act.put, List.setIfInBounds_toArray, List.set_cons_zero, List.set_cons_succ]
 refine wpAny_two 1 9 (by kernel_rfl) rfl rfl (by kernel_rfl) (by kernel_rfl) ?_ ?_
 refine wp_of_val (v := .int .i64 fmt) (ex_load 3 _ (.pointer (some ⟨g, 0, none⟩)) _ rfl (by kernel_rfl) (ldT_int (bx2 HX1.out).1)) ?_
 simp only [Act.put, List.setIfInBounds_toArray, List.set_cons_zero, List.set_cons_succ]
 refine wpAny_two 4 9 (by kernel_rfl) rfl rfl (by kernel_rfl) (by kernel_rfl) ?_ ?_
 refine wp_of_call (ex_call2 (.tmp 12) (.tmp 14) _ (.int .i64 fmt) (.string data) rfl (by kernel_rfl) (by kernel_rfl) (enters_of Tryz.func28 (by kernel_rfl) rfl _ _)) (CP.out W1 (below_cell0 HM.out HB1.out)) ?_
 rintro e W2 ⟨A2, c2, rfl, ho, hb⟩
 have HB2 := Lib.hid (HB1.out.trans (hb.mono HB1.out.size))
 have HX2 := Lib.hid (heap_step HX1.out hb)
 have HO2 := Lib.hid (own_base ho HB1.out.size)
 clear ho hb
 refine ⟨.tuple #[.agg #[.int .i64 fmt, .slice A2 ps.length c2], .int .i64 0, .int .i64 0], rfl, ?_⟩
 simp only [Act.put, List.setIfInBounds_toArray, List.set_cons_zero, List.set_cons_succ]
 refine zzM 5 (.tuple #[.agg #[.int .i64 fmt, .slice A2 ps.length c2], .int .i64 0, .int .i64 0]) (some 10) rfl ?_
 refine zzA 6 (.agg #[.int .i64 fmt, .slice A2 ps.length c2]) (some 16) rfl (fun _ => ex_extract _ 0 #[.agg #[.int .i64 fmt, .slice A2 ps.length c2], .int .i64 0, .int .i64 0] (.agg #[.int .i64 fmt, .slice A2 ps.length c2]) rfl (by kernel_rfl) rfl) ?_
 refine zzA 7 (.int .i64 0) (some 17) rfl (fun _ => ex_extract _ 1 #[.agg #[.int .i64 fmt, .slice A2 ps.length c2], .int .i64 0, .int .i64 0] (.int .i64 0) rfl (by kernel_rfl) rfl) ?_
 refine zzA 8 (.int .i64 0) (some 18) rfl (fun _ => ex_extract _ 2 #[.agg #[.int .i64 fmt, .slice A2 ps.length c2], .int .i64 0, .int .i64 0] (.int .i64 0) rfl (by kernel_rfl) rfl) ?_
 simp only [Act.put, List.setIfInBounds_toArray, List.set_cons_zero, List.set_cons_succ]
 refine wpAny_only 9 (by kernel_rfl) rfl (by kernel_rfl) ?_
 refine wp_of_valw (ex_allocD rfl) ?_
 have hal := (Below.refl W2.heap.size W2).alloc (Nat.le_refl _) (.cells #[.int .i64 0, .slice none 0 0] 41)
 have HB3 := Lib.hid (HB2.out.trans (hal.mono HB2.out.size))
 have HX3 := Lib.hid (heap_step HX2.out hal)
 have HO3 := Lib.hid (own_step HO2.out hal)
 have HG3 : Hid ((W2.alloc (.cells #[.int .i64 0, .slice none 0 0] 41)).heap[W2.heap.size]? = some (.cells #[.int .i64 0, .slice none 0 0] 41)) := heap_alloc_new W2 _
 have hg3 : g < W2.heap.size := heap_lt HX2.out
 clear hal
 generalize W2.heap.size = g3 at HG3 hg3 ⊢
 generalize W2.alloc (.cells #[.int .i64 0, .slice none 0 0] 41) = W3 at HB3 HX3 HG3 HO3 ⊢
 simp only [Act.put, List.setIfInBounds_toArray, List.set_cons_zero, List.set_cons_succ]
 refine wpAny_only 10 (by kernel_rfl) rfl (by kernel_rfl) ?_
 refine wp_storeD (.tmp 3) (.tmp 16) rfl rfl g3 fmt A2 ps.length c2 (by kernel_rfl) (by kernel_rfl) HG3.out ?_
 have HB4 := Lib.hid ((HB3.out.setCell (p := ⟨g3, 0, none⟩) (Nat.le_trans hgw (Nat.le_of_lt hg3)) (.int .i64 fmt)).setCell (p := ⟨g3, 1, none⟩) (Nat.le_trans hgw (Nat.le_of_lt hg3)) (.slice A2 ps.length c2))
 have HX4 := Lib.hid ((storeD_out (u0 := .int .i64 fmt) (u1 := .slice A2 ps.length c2) (Nat.ne_of_lt hg3)).trans HX3.out)
 have HG4 := Lib.hid (storeD_at (u0 := .int .i64 fmt) (u1 := .slice A2 ps.length c2) HG3.out)
 have HO4 := Lib.hid (own_same (w' := (W3.setCell ⟨g3, 0, none⟩ (.int .i64 fmt)).setCell ⟨g3, 1, none⟩ (.slice A2 ps.length c2)) HO3.out fun j hj => storeD_out (fun e => own_apart HO3.out HG3.out (by decide) j hj e))
 generalize (W3.setCell ⟨g3, 0, none⟩ (.int .i64 fmt)).setCell ⟨g3, 1, none⟩ (.slice A2 ps.length c2) = W4 at HB4 HX4 HG4 HO4 ⊢
 simp only [Act.put, List.setIfInBounds_toArray, List.set_cons_zero, List.set_cons_succ]
 refine zzG 11 (.int .i64 0) (some 4) rfl ?_
 refine zzG 12 (.int .i64 0) (some 5) rfl ?_
 refine wpAny_done (by kernel_rfl) ?_ _
 simp only [Act.put, List.setIfInBounds_toArray, List.set_cons_zero, List.set_cons_succ]
 obtain ⟨x0, x1, _⟩ := bx2 HX4.out
 obtain ⟨z0, z1, _⟩ := bx2 HG4.out
 have HXB := HB4
 have HOB := Lib.hid (OwnE.rd ptC_three HO4.out)
 have CEE := Lib.hid (CE.out _ _ W4 HOB.out (RdE.below HP.out HB4.out (Nat.le_refl _)))
 rotate_left 1
 refine wp_of_valw (ex_allocD rfl) ?_
 have hal := (Below.refl W1.heap.size W1).alloc (Nat.le_refl _) (.cells #[.int .i64 0, .slice none 0 0] 41)
 have HB2 := Lib.hid (HB1.out.trans (hal.mono HB1.out.size))
 have HX2 := Lib.hid (heap_step HX1.out hal)
 have HG2 : Hid ((W1.alloc (.cells #[.int .i64 0, .slice none 0 0] 41)).heap[W1.heap.size]? = some (.cells #[.int .i64 0, .slice none 0 0] 41)) := heap_alloc_new W1 _
 have hg3 : g < W1.heap.size := heap_lt HX1.out
 clear hal
 generalize W1.heap.size = g3 at HG2 hg3 ⊢
 generalize W1.alloc (.cells #[.int .i64 0, .slice none 0 0] 41) = W2 at HB2 HX2 HG2 ⊢
 simp only [Act.put, List.setIfInBounds_toArray, List.set_cons_zero, List.set_cons_succ]
 refine wpAny_only 4 (by kernel_rfl) rfl (by kernel_rfl) ?_
 refine wp_of_call (ex_call2 (.tmp 12) (.tmp 14) _ (.int .i64 fmt) (.string data) rfl (by kernel_rfl) (by kernel_rfl) (enters_of Tryz.func28 (by kernel_rfl) rfl _ _)) (CP.out W2 (below_cell0 HM.out HB2.out)) ?_
 rintro e W3 ⟨A2, c2, rfl, ho, hb⟩
 have HB3 := Lib.hid (HB2.out.trans (hb.mono HB2.out.size))
 have HX3 := Lib.hid (heap_step HX2.out hb)
 have HG3 := Lib.hid (heap_step HG2.out hb)
 have HO3 := Lib.hid (own_base ho HB2.out.size)
 clear ho hb
 refine ⟨.tuple #[.agg #[.int .i64 fmt, .slice A2 ps.length c2], .int .i64 0, .int .i64 0], rfl, ?_⟩
 simp only [Act.put, List.setIfInBounds_toArray, List.set_cons_zero, List.set_cons_succ]
 refine zzM 5 (.tuple #[.agg #[.int .i64 fmt, .slice A2 ps.length c2], .int .i64 0, .int .i64 0]) (some 10) rfl ?_
 refine zzA 6 (.agg #[.int .i64 fmt, .slice A2 ps.length c2]) (some 16) rfl (fun _ => ex_extract _ 0 #[.agg #[.int .i64 fmt, .slice A2 ps.length c2], .int .i64 0, .int .i64 0] (.agg #[.int .i64 fmt, .slice A2 ps.length c2]) rfl (by kernel_rfl) rfl) ?_
 refine zzA 7 (.int .i64 0) (some 17) rfl (fun _ => ex_extract _ 1 #[.agg #[.int .i64 fmt, .slice A2 ps.length c2], .int .i64 0, .int .i64 0] (.int .i64 0) rfl (by kernel_rfl) rfl) ?_
 refine zzA 8 (.int .i64 0) (some 18) rfl (fun _ => ex_extract _ 2 #[.agg #[.int .i64 fmt, .slice A2 ps.length c2], .int .i64 0, .int .i64 0] (.int .i64 0) rfl (by kernel_rfl) rfl) ?_
 simp only [Act.put, List.setIfInBounds_toArray, List.set_cons_zero, List.set_cons_succ]
 refine wpAny_only 10 (by kernel_rfl) rfl (by kernel_rfl) ?_
 refine wp_storeD (.tmp 3) (.tmp 16) rfl rfl g3 fmt A2 ps.length c2 (by kernel_rfl) (by kernel_rfl) HG3.out ?_
 have HB4 := Lib.hid ((HB3.out.setCell (p := ⟨g3, 0, none⟩) (Nat.le_trans hgw (Nat.le_of_lt hg3)) (.int .i64 fmt)).setCell (p := ⟨g3, 1, none⟩) (Nat.le_trans hgw (Nat.le_of_lt hg3)) (.slice A2 ps.length c2))
 have HX4 := Lib.hid ((storeD_out (u0 := .int .i64 fmt) (u1 := .slice A2 ps.length c2) (Nat.ne_of_lt hg3)).trans HX3.out)
 have HG4 := Lib.hid (storeD_at (u0 := .int .i64 fmt) (u1 := .slice A2 ps.length c2) HG3.out)
 have HO4 := Lib.hid (own_same (w' := (W3.setCell ⟨g3, 0, none⟩ (.int .i64 fmt)).setCell ⟨g3, 1, none⟩ (.slice A2 ps.length c2)) HO3.out fun j hj => storeD_out (fun e => own_apart HO3.out HG3.out (by decide) j hj e))
 generalize (W3.setCell ⟨g3, 0, none⟩ (.int .i64 fmt)).setCell ⟨g3, 1, none⟩ (.slice A2 ps.length c2) = W4 at HB4 HX4 HG4 HO4 ⊢
 simp only [Act.put, List.setIfInBounds_toArray, List.set_cons_zero, List.set_cons_succ]
 refine zzG 11 (.int .i64 0) (some 4) rfl ?_
 refine zzG 12 (.int .i64 0) (some 5) rfl ?_
 refine wpAny_done (by kernel_rfl) ?_ _
 simp only [Act.put, List.setIfInBounds_toArray, List.set_cons_zero, List.set_cons_succ]
 obtain ⟨x0, x1, _⟩ := bx2 HX4.out
 obtain ⟨z0, z1, _⟩ := bx2 HG4.out
 have HXB := HB4
 have HOB := Lib.hid (OwnE.rd ptC_three HO4.out)
 have CEE := Lib.hid (CE.out _ _ W4 HOB.out (RdE.below HP.out HB4.out (Nat.le_refl _)))
 rotate_left 1
 refine wp_of_valw (ex_allocD rfl) ?_
 have hal := (Below.refl W1.heap.size W1).alloc (Nat.le_refl _) (.cells #[.int .i64 0, .slice none 0 0] 41)
 have HB2 := Lib.hid (HB1.out.trans (hal.mono HB1.out.size))
 have HX2 := Lib.hid (heap_step HX1.out hal)
 have HG2 : Hid ((W1.alloc (.cells #[.int .i64 0, .slice none 0 0] 41)).heap[W1.heap.size]? = some (.cells #[.int .i64 0, .slice none 0 0] 41)) := heap_alloc_new W1 _
 have hg3 : g < W1.heap.size := heap_lt HX1.out
 clear hal
 generalize W1.heap.size = g3 at HG2 hg3 ⊢
 generalize W1.alloc (.cells #[.int .i64 0, .slice none 0 0] 41) = W2 at HB2 HX2 HG2 ⊢
 simp only [Act.put, List.setIfInBounds_toArray, List.set_cons_zero, List.set_cons_succ]
 refine wpAny_only 1 (by kernel_rfl) rfl (by kernel_rfl) ?_
 refine wp_of_val (v := .int .i64 fmt) (ex_load 3 _ (.pointer (some ⟨g, 0, none⟩)) _ rfl (by kernel_rfl) (ldT_int (bx2 HX2.out).1)) ?_
 simp only [Act.put, List.setIfInBounds_toArray, List.set_cons_zero, List.set_cons_succ]
 refine wpAny_only 4 (by kernel_rfl) rfl (by kernel_rfl) ?_
 refine wp_of_call (ex_call2 (.tmp 12) (.tmp 14) _ (.int .i64 fmt) (.string data) rfl (by kernel_rfl) (by kernel_rfl) (enters_of Tryz.func28 (by kernel_rfl) rfl _ _)) (CP.out W2 (below_cell0 HM.out HB2.out)) ?_
 rintro e W3 ⟨A2, c2, rfl, ho, hb⟩
 have HB3 := Lib.hid (HB2.out.trans (hb.mono HB2.out.size))
 have HX3 := Lib.hid (heap_step HX2.out hb)
 have HG3 := Lib.hid (heap_step HG2.out hb)
 have HO3 := Lib.hid (own_base ho HB2.out.size)
 clear ho hb
 refine ⟨.tuple #[.agg #[.int .i64 fmt, .slice A2 ps.length c2], .int .i64 0, .int .i64 0], rfl, ?_⟩
 simp only [Act.put, List.setIfInBounds_toArray, List.set_cons_zero, List.set_cons_succ]
 refine zzM 5 (.tuple #[.agg #[.int .i64 fmt, .slice A2 ps.length c2], .int .i64 0, .int .i64 0]) (some 10) rfl ?_
 refine zzA 6 (.agg #[.int .i64 fmt, .slice A2 ps.length c2]) (some 16) rfl (fun _ => ex_extract _ 0 #[.agg #[.int .i64 fmt, .slice A2 ps.length c2], .int .i64 0, .int .i64 0] (.agg #[.int .i64 fmt, .slice A2 ps.length c2]) rfl (by kernel_rfl) rfl) ?_
 refine zzA 7 (.int .i64 0) (some 17) rfl (fun _ => ex_extract _ 1 #[.agg #[.int .i64 fmt, .slice A2 ps.length c2], .int .i64 0, .int .i64 0] (.int .i64 0) rfl (by kernel_rfl) rfl) ?_
 refine zzA 8 (.int .i64 0) (some 18) rfl (fun _ => ex_extract _ 2 #[.agg #[.int .i64 fmt, .slice A2 ps.length c2], .int .i64 0, .int .i64 0] (.int .i64 0) rfl (by kernel_rfl) rfl) ?_
 simp only [Act.put, List.setIfInBounds_toArray, List.set_cons_zero, List.set_cons_succ]
 refine wpAny_only 10 (by kernel_rfl) rfl (by kernel_rfl) ?_
 refine wp_storeD (.tmp 3) (.tmp 16) rfl rfl g3 fmt A2 ps.length c2 (by kernel_rfl) (by kernel_rfl) HG3.out ?_
 have HB4 := Lib.hid ((HB3.out.setCell (p := ⟨g3, 0, none⟩) (Nat.le_trans hgw (Nat.le_of_lt hg3)) (.int .i64 fmt)).setCell (p := ⟨g3, 1, none⟩) (Nat.le_trans hgw (Nat.le_of_lt hg3)) (.slice A2 ps.length c2))
 have HX4 := Lib.hid ((storeD_out (u0 := .int .i64 fmt) (u1 := .slice A2 ps.length c2) (Nat.ne_of_lt hg3)).trans HX3.out)
 have HG4 := Lib.hid (storeD_at (u0 := .int .i64 fmt) (u1 := .slice A2 ps.length c2) HG3.out)
 have HO4 := Lib.hid (own_same (w' := (W3.setCell ⟨g3, 0, none⟩ (.int .i64 fmt)).setCell ⟨g3, 1, none⟩ (.slice A2 ps.length c2)) HO3.out fun j hj => storeD_out (fun e => own_apart HO3.out HG3.out (by decide) j hj e))
 generalize (W3.setCell ⟨g3, 0, none⟩ (.int .i64 fmt)).setCell ⟨g3, 1, none⟩ (.slice A2 ps.length c2) = W4 at HB4 HX4 HG4 HO4 ⊢
 simp only [Act.put, List.setIfInBounds_toArray, List.set_cons_zero, List.set_cons_succ]
 refine zzG 11 (.int .i64 0) (some 4) rfl ?_
 refine zzG 12 (.int .i64 0) (some 5) rfl ?_
 refine wpAny_done (by kernel_rfl) ?_ _
 simp only [Act.put, List.setIfInBounds_toArray, List.set_cons_zero, List.set_cons_succ]
 obtain ⟨x0, x1, _⟩ := bx2 HX4.out
 obtain ⟨z0, z1, _⟩ := bx2 HG4.out
 have HXB := HB4
 have HOB := Lib.hid (OwnE.rd ptC_three HO4.out)
 have CEE := Lib.hid (CE.out _ _ W4 HOB.out (RdE.below HP.out HB4.out (Nat.le_refl _)))
 rotate_left 1
 refine wp_of_valw (ex_allocD rfl) ?_
 have hal := (Below.refl W0.heap.size W0).alloc (Nat.le_refl _) (.cells #[.int .i64 0, .slice none 0 0] 41)
 have HB1 := Lib.hid (HB0.out.trans (hal.mono HB0.out.size))
 have HX1 := Lib.hid (heap_step HX0.out hal)
 have HG1 : Hid ((W0.alloc (.cells #[.int .i64 0, .slice none 0 0] 41)).heap[W0.heap.size]? = some (.cells #[.int .i64 0, .slice none 0 0] 41)) := heap_alloc_new W0 _
 have hg3 : g < W0.heap.size := heap_lt HX0.out
 clear hal
 generalize W0.heap.size = g3 at HG1 hg3 ⊢
 generalize W0.alloc (.cells #[.int .i64 0, .slice none 0 0] 41) = W1 at HB1 HX1 HG1 ⊢
 simp only [Act.put, List.setIfInBounds_toArray, List.set_cons_zero, List.set_cons_succ]
 refine wpAny_two 1 3 (by kernel_rfl) rfl rfl (by kernel_rfl) (by kernel_rfl) ?_ ?_
 refine wp_of_val (v := .int .i64 fmt) (ex_load 3 _ (.pointer (some ⟨g, 0, none⟩)) _ rfl (by kernel_rfl) (ldT_int (bx2 HX1.out).1)) ?_
 simp only [Act.put, List.setIfInBounds_toArray, List.set_cons_zero, List.set_cons_succ]
 refine wpAny_only 3 (by kernel_rfl) rfl (by kernel_rfl) ?_
 refine wp_of_call (ex_call1 (.tmp 13) _ (.agg #[.int .i64 fmt, .slice A ps.length c]) rfl (by kernel_rfl) (enters_of Tryz.func24 (by kernel_rfl) rfl _ _)) (CB.out W1 (RdE.below HP.out HB1.out (Nat.le_refl _))) ?_
 rintro e W2 ⟨rfl, hb⟩
 have HB2 := Lib.hid (HB1.out.trans (hb.mono HB1.out.size))
 have HX2 := Lib.hid (heap_step HX1.out hb)
 have HG2 := Lib.hid (heap_step HG1.out hb)
 clear hb
 refine ⟨.string data, rfl, ?_⟩
 simp only [Act.put, List.setIfInBounds_toArray, List.set_cons_zero, List.set_cons_succ]
 refine wpAny_only 4 (by kernel_rfl) rfl (by kernel_rfl) ?_
 refine wp_of_call (ex_call2 (.tmp 12) (.tmp 14) _ (.int .i64 fmt) (.string data) rfl (by kernel_rfl) (by kernel_rfl) (enters_of Tryz.func28 (by kernel_rfl) rfl _ _)) (CP.out W2 (below_cell0 HM.out HB2.out)) ?_
 rintro e W3 ⟨A2, c2, rfl, ho, hb⟩
 have HB3 := Lib.hid (HB2.out.trans (hb.mono HB2.out.size))
 have HX3 := Lib.hid (heap_step HX2.out hb)
 have HG3 := Lib.hid (heap_step HG2.out hb)
 have HO3 := Lib.hid (own_base ho HB2.out.size)
 clear ho hb
 refine ⟨.tuple #[.agg #[.int .i64 fmt, .slice A2 ps.length c2], .int .i64 0, .int .i64 0], rfl, ?_⟩
 simp only [Act.put, List.setIfInBounds_toArray, List.set_cons_zero, List.set_cons_succ]
 refine zzM 5 (.tuple #[.agg #[.int .i64 fmt, .slice A2 ps.length c2], .int .i64 0, .int .i64 0]) (some 10) rfl ?_
 refine zzA 6 (.agg #[.int .i64 fmt, .slice A2 ps.length c2]) (some 16) rfl (fun _ => ex_extract _ 0 #[.agg #[.int .i64 fmt, .slice A2 ps.length c2], .int .i64 0, .int .i64 0] (.agg #[.int .i64 fmt, .slice A2 ps.length c2]) rfl (by kernel_rfl) rfl) ?_
 refine zzA 7 (.int .i64 0) (some 17) rfl (fun _ => ex_extract _ 1 #[.agg #[.int .i64 fmt, .slice A2 ps.length c2], .int .i64 0, .int .i64 0] (.int .i64 0) rfl (by kernel_rfl) rfl) ?_
 refine zzA 8 (.int .i64 0) (some 18) rfl (fun _ => ex_extract _ 2 #[.agg #[.int .i64 fmt, .slice A2 ps.length c2], .int .i64 0, .int .i64 0] (.int .i64 0) rfl (by kernel_rfl) rfl) ?_
 simp only [Act.put, List.setIfInBounds_toArray, List.set_cons_zero, List.set_cons_succ]
 refine wpAny_only 10 (by kernel_rfl) rfl (by kernel_rfl) ?_
 refine wp_storeD (.tmp 3) (.tmp 16) rfl rfl g3 fmt A2 ps.length c2 (by kernel_rfl) (by kernel_rfl) HG3.out ?_
 have HB4 := Lib.hid ((HB3.out.setCell (p := ⟨g3, 0, none⟩) (Nat.le_trans hgw (Nat.le_of_lt hg3)) (.int .i64 fmt)).setCell (p := ⟨g3, 1, none⟩) (Nat.le_trans hgw (Nat.le_of_lt hg3)) (.slice A2 ps.length c2))
 have HX4 := Lib.hid ((storeD_out (u0 := .int .i64 fmt) (u1 := .slice A2 ps.length c2) (Nat.ne_of_lt hg3)).trans HX3.out)
 have HG4 := Lib.hid (storeD_at (u0 := .int .i64 fmt) (u1 := .slice A2 ps.length c2) HG3.out)
 have HO4 := Lib.hid (own_same (w' := (W3.setCell ⟨g3, 0, none⟩ (.int .i64 fmt)).setCell ⟨g3, 1, none⟩ (.slice A2 ps.length c2)) HO3.out fun j hj => storeD_out (fun e => own_apart HO3.out HG3.out (by decide) j hj e))
 generalize (W3.setCell ⟨g3, 0, none⟩ (.int .i64 fmt)).setCell ⟨g3, 1, none⟩ (.slice A2 ps.length c2) = W4 at HB4 HX4 HG4 HO4 ⊢
 simp only [Act.put, List.setIfInBounds_toArray, List.set_cons_zero, List.set_cons_succ]
 refine zzG 11 (.int .i64 0) (some 4) rfl ?_
 refine zzG 12 (.int .i64 0) (some 5) rfl ?_
 refine wpAny_done (by kernel_rfl) ?_ _
 simp only [Act.put, List.setIfInBounds_toArray, List.set_cons_zero, List.set_cons_succ]
 obtain ⟨x0, x1, _⟩ := bx2 HX4.out
 obtain ⟨z0, z1, _⟩ := bx2 HG4.out
 have HXB := HB4
 have HOB := Lib.hid (OwnE.rd ptC_three HO4.out)
 have CEE := Lib.hid (CE.out _ _ W4 HOB.out (RdE.below HP.out HB4.out (Nat.le_refl _)))
 rotate_left 1
 refine wp_of_call (ex_call1 (.tmp 13) _ (.agg #[.int .i64 fmt, .slice A ps.length c]) rfl (by kernel_rfl) (enters_of Tryz.func24 (by kernel_rfl) rfl _ _)) (CB.out W1 (RdE.below HP.out HB1.out (Nat.le_refl _))) ?_
 rintro e W2 ⟨rfl, hb⟩
 have HB2 := Lib.hid (HB1.out.trans (hb.mono HB1.out.size))
 have HX2 := Lib.hid (heap_step HX1.out hb)
 have HG2 := Lib.hid (heap_step HG1.out hb)
 clear hb
 refine ⟨.string data, rfl, ?_⟩
 simp only [Act.put, List.setIfInBounds_toArray, List.set_cons_zero, List.set_cons_succ]
 refine wpAny_only 1 (by kernel_rfl) rfl (by kernel_rfl) ?_
 refine wp_of_val (v := .int .i64 fmt) (ex_load 3 _ (.pointer (some ⟨g, 0, none⟩)) _ rfl (by kernel_rfl) (ldT_int (bx2 HX2.out).1)) ?_
 simp only [Act.put, List.setIfInBounds_toArray, List.set_cons_zero, List.set_cons_succ]
 refine wpAny_only 4 (by kernel_rfl) rfl (by kernel_rfl) ?_
 refine wp_of_call (ex_call2 (.tmp 12) (.tmp 14) _ (.int .i64 fmt) (.string data) rfl (by kernel_rfl) (by kernel_rfl) (enters_of Tryz.func28 (by kernel_rfl) rfl _ _)) (CP.out W2 (below_cell0 HM.out HB2.out)) ?_
 rintro e W3 ⟨A2, c2, rfl, ho, hb⟩
 have HB3 := Lib.hid (HB2.out.trans (hb.mono HB2.out.size))
 have HX3 := Lib.hid (heap_step HX2.out hb)
 have HG3 := Lib.hid (heap_step HG2.out hb)
 have HO3 := Lib.hid (own_base ho HB2.out.size)
 clear ho hb
 refine ⟨.tuple #[.agg #[.int .i64 fmt, .slice A2 ps.length c2], .int .i64 0, .int .i64 0], rfl, ?_⟩
 simp only [Act.put, List.setIfInBounds_toArray, List.set_cons_zero, List.set_cons_succ]
 refine zzM 5 (.tuple #[.agg #[.int .i64 fmt, .slice A2 ps.length c2], .int .i64 0, .int .i64 0]) (some 10) rfl ?_
 refine zzA 6 (.agg #[.int .i64 fmt, .slice A2 ps.length c2]) (some 16) rfl (fun _ => ex_extract _ 0 #[.agg #[.int .i64 fmt, .slice A2 ps.length c2], .int .i64 0, .int .i64 0] (.agg #[.int .i64 fmt, .slice A2 ps.length c2]) rfl (by kernel_rfl) rfl) ?_
 refine zzA 7 (.int .i64 0) (some 17) rfl (fun _ => ex_extract _ 1 #[.agg #[.int .i64 fmt, .slice A2 ps.length c2], .int .i64 0, .int .i64 0] (.int .i64 0) rfl (by kernel_rfl) rfl) ?_
 refine zzA 8 (.int .i64 0) (some 18) rfl (fun _ => ex_extract _ 2 #[.agg #[.int .i64 fmt, .slice A2 ps.length c2], .int .i64 0, .int .i64 0] (.int .i64 0) rfl (by kernel_rfl) rfl) ?_
 simp only [Act.put, List.setIfInBounds_toArray, List.set_cons_zero, List.set_cons_succ]
 refine wpAny_only 10 (by kernel_rfl) rfl (by kernel_rfl) ?_
 refine wp_storeD (.tmp 3) (.tmp 16) rfl rfl g3 fmt A2 ps.length c2 (by kernel_rfl) (by kernel_rfl) HG3.out ?_
 have HB4 := Lib.hid ((HB3.out.setCell (p := ⟨g3, 0, none⟩) (Nat.le_trans hgw (Nat.le_of_lt hg3)) (.int .i64 fmt)).setCell (p := ⟨g3, 1, none⟩) (Nat.le_trans hgw (Nat.le_of_lt hg3)) (.slice A2 ps.length c2))
 have HX4 := Lib.hid ((storeD_out (u0 := .int .i64 fmt) (u1 := .slice A2 ps.length c2) (Nat.ne_of_lt hg3)).trans HX3.out)
 have HG4 := Lib.hid (storeD_at (u0 := .int .i64 fmt) (u1 := .slice A2 ps.length c2) HG3.out)
 have HO4 := Lib.hid (own_same (w' := (W3.setCell ⟨g3, 0, none⟩ (.int .i64 fmt)).setCell ⟨g3, 1, none⟩ (.slice A2 ps.length c2)) HO3.out fun j hj => storeD_out (fun e => own_apart HO3.out HG3.out (by decide) j hj e))
 generalize (W3.setCell ⟨g3, 0, none⟩ (.int .i64 fmt)).setCell ⟨g3, 1, none⟩ (.slice A2 ps.length c2) = W4 at HB4 HX4 HG4 HO4 ⊢
 simp only [Act.put, List.setIfInBounds_toArray, List.set_cons_zero, List.set_cons_succ]
 refine zzG 11 (.int .i64 0) (some 4) rfl ?_
 refine zzG 12 (.int .i64 0) (some 5) rfl ?_
 refine wpAny_done (by kernel_rfl) ?_ _
 simp only [Act.put, List.setIfInBounds_toArray, List.set_cons_zero, List.set_cons_succ]
 obtain ⟨x0, x1, _⟩ := bx2 HX4.out
 obtain ⟨z0, z1, _⟩ := bx2 HG4.out
 have HXB := HB4
 have HOB := Lib.hid (OwnE.rd ptC_three HO4.out)
 have CEE := Lib.hid (CE.out _ _ W4 HOB.out (RdE.below HP.out HB4.out (Nat.le_refl _)))
 rotate_left 1
 refine wp_of_valw (ex_allocD rfl) ?_
 have hal := (Below.refl W0.heap.size W0).alloc (Nat.le_refl _) (.cells #[.int .i64 0, .slice none 0 0] 41)
 have HB1 := Lib.hid (HB0.out.trans (hal.mono HB0.out.size))
 have HX1 := Lib.hid (heap_step HX0.out hal)
 have HG1 : Hid ((W0.alloc (.cells #[.int .i64 0, .slice none 0 0] 41)).heap[W0.heap.size]? = some (.cells #[.int .i64 0, .slice none 0 0] 41)) := heap_alloc_new W0 _
 have hg3 : g < W0.heap.size := heap_lt HX0.out
 clear hal
 generalize W0.heap.size = g3 at HG1 hg3 ⊢
 generalize W0.alloc (.cells #[.int .i64 0, .slice none 0 0] 41) = W1 at HB1 HX1 HG1 ⊢
 simp only [Act.put, List.setIfInBounds_toArray, List.set_cons_zero, List.set_cons_succ]
 refine wpAny_two 1 2 (by kernel_rfl) rfl rfl (by kernel_rfl) (by kernel_rfl) ?_ ?_
 refine wp_of_val (v := .int .i64 fmt) (ex_load 3 _ (.pointer (some ⟨g, 0, none⟩)) _ rfl (by kernel_rfl) (ldT_int (bx2 HX1.out).1)) ?_
 simp only [Act.put, List.setIfInBounds_toArray, List.set_cons_zero, List.set_cons_succ]
 refine wpAny_only 2 (by kernel_rfl) rfl (by kernel_rfl) ?_
 refine wp_of_val (v := .agg #[.int .i64 fmt, .slice A ps.length c]) (ex_load 41 _ (.pointer (some ⟨g, 0, none⟩)) _ rfl (by kernel_rfl) (ldT_doc (bx2 HX1.out).1 (bx2 HX1.out).2.1)) ?_
 simp only [Act.put, List.setIfInBounds_toArray, List.set_cons_zero, List.set_cons_succ]
 refine wpAny_only 3 (by kernel_rfl) rfl (by kernel_rfl) ?_
 refine wp_of_call (ex_call1 (.tmp 13) _ (.agg #[.int .i64 fmt, .slice A ps.length c]) rfl (by kernel_rfl) (enters_of Tryz.func24 (by kernel_rfl) rfl _ _)) (CB.out W1 (RdE.below HP.out HB1.out (Nat.le_refl _))) ?_
 rintro e W2 ⟨rfl, hb⟩
 have HB2 := Lib.hid (HB1.out.trans (hb.mono HB1.out.size))
 have HX2 := Lib.hid (heap_step HX1.out hb)
 have HG2 := Lib.hid (heap_step HG1.out hb)
 clear hb
 refine ⟨.string data, rfl, ?_⟩
 simp only [Act.put, List.setIfInBounds_toArray, List.set_cons_zero, List.set_cons_succ]
 refine wpAny_only 4 (by kernel_rfl) rfl (by kernel_rfl) ?_
 refine wp_of_call (ex_call2 (.tmp 12) (.tmp 14) _ (.int .i64 fmt) (.string data) rfl (by kernel_rfl) (by kernel_rfl) (enters_of Tryz.func28 (by kernel_rfl) rfl _ _)) (CP.out W2 (below_cell0 HM.out HB2.out)) ?_
 rintro e W3 ⟨A2, c2, rfl, ho, hb⟩
 have HB3 := Lib.hid (HB2.out.trans (hb.mono HB2.out.size))
 have HX3 := Lib.hid (heap_step HX2.out hb)
 have HG3 := Lib.hid (heap_step HG2.out hb)
 have HO3 := Lib.hid (own_base ho HB2.out.size)
 clear ho hb
 refine ⟨.tuple #[.agg #[.int .i64 fmt, .slice A2 ps.length c2], .int .i64 0, .int .i64 0], rfl, ?_⟩
 simp only [Act.put, List.setIfInBounds_toArray, List.set_cons_zero, List.set_cons_succ]
 refine zzM 5 (.tuple #[.agg #[.int .i64 fmt, .slice A2 ps.length c2], .int .i64 0, .int .i64 0]) (some 10) rfl ?_
 refine zzA 6 (.agg #[.int .i64 fmt, .slice A2 ps.length c2]) (some 16) rfl (fun _ => ex_extract _ 0 #[.agg #[.int .i64 fmt, .slice A2 ps.length c2], .int .i64 0, .int .i64 0] (.agg #[.int .i64 fmt, .slice A2 ps.length c2]) rfl (by kernel_rfl) rfl) ?_
 refine zzA 7 (.int .i64 0) (some 17) rfl (fun _ => ex_extract _ 1 #[.agg #[.int .i64 fmt, .slice A2 ps.length c2], .int .i64 0, .int .i64 0] (.int .i64 0) rfl (by kernel_rfl) rfl) ?_
 refine zzA 8 (.int .i64 0) (some 18) rfl (fun _ => ex_extract _ 2 #[.agg #[.int .i64 fmt, .slice A2 ps.length c2], .int .i64 0, .int .i64 0] (.int .i64 0) rfl (by kernel_rfl) rfl) ?_
 simp only [Act.put, List.setIfInBounds_toArray, List.set_cons_zero, List.set_cons_succ]
 refine wpAny_only 10 (by kernel_rfl) rfl (by kernel_rfl) ?_
 refine wp_storeD (.tmp 3) (.tmp 16) rfl rfl g3 fmt A2 ps.length c2 (by kernel_rfl) (by kernel_rfl) HG3.out ?_
 have HB4 := Lib.hid ((HB3.out.setCell (p := ⟨g3, 0, none⟩) (Nat.le_trans hgw (Nat.le_of_lt hg3)) (.int .i64 fmt)).setCell (p := ⟨g3, 1, none⟩) (Nat.le_trans hgw (Nat.le_of_lt hg3)) (.slice A2 ps.length c2))
 have HX4 := Lib.hid ((storeD_out (u0 := .int .i64 fmt) (u1 := .slice A2 ps.length c2) (Nat.ne_of_lt hg3)).trans HX3.out)
 have HG4 := Lib.hid (storeD_at (u0 := .int .i64 fmt) (u1 := .slice A2 ps.length c2) HG3.out)
 have HO4 := Lib.hid (own_same (w' := (W3.setCell ⟨g3, 0, none⟩ (.int .i64 fmt)).setCell ⟨g3, 1, none⟩ (.slice A2 ps.length c2)) HO3.out fun j hj => storeD_out (fun e => own_apart HO3.out HG3.out (by decide) j hj e))
 generalize (W3.setCell ⟨g3, 0, none⟩ (.int .i64 fmt)).setCell ⟨g3, 1, none⟩ (.slice A2 ps.length c2) = W4 at HB4 HX4 HG4 HO4 ⊢
 simp only [Act.put, List.setIfInBounds_toArray, List.set_cons_zero, List.set_cons_succ]
 refine zzG 11 (.int .i64 0) (some 4) rfl ?_
 refine zzG 12 (.int .i64 0) (some 5) rfl ?_
 refine wpAny_done (by kernel_rfl) ?_ _
 simp only [Act.put, List.setIfInBounds_toArray, List.set_cons_zero, List.set_cons_succ]
 obtain ⟨x0, x1, _⟩ := bx2 HX4.out
 obtain ⟨z0, z1, _⟩ := bx2 HG4.out
 have HXB := HB4
 have HOB := Lib.hid (OwnE.rd ptC_three HO4.out)
 have CEE := Lib.hid (CE.out _ _ W4 HOB.out (RdE.below HP.out HB4.out (Nat.le_refl _)))
 rotate_left 1
 refine wp_of_val (v := .agg #[.int .i64 fmt, .slice A ps.length c]) (ex_load 41 _ (.pointer (some ⟨g, 0, none⟩)) _ rfl (by kernel_rfl) (ldT_doc (bx2 HX1.out).1 (bx2 HX1.out).2.1)) ?_
 simp only [Act.put, List.setIfInBounds_toArray, List.set_cons_zero, List.set_cons_succ]
 refine wpAny_two 1 3 (by kernel_rfl) rfl rfl (by kernel_rfl) (by kernel_rfl) ?_ ?_
 refine wp_of_val (v := .int .i64 fmt) (ex_load 3 _ (.pointer (some ⟨g, 0, none⟩)) _ rfl (by kernel_rfl) (ldT_int (bx2 HX1.out).1)) ?_
 simp only [Act.put, List.setIfInBounds_toArray, List.set_cons_zero, List.set_cons_succ]
 refine wpAny_only 3 (by kernel_rfl) rfl (by kernel_rfl) ?_
 refine wp_of_call (ex_call1 (.tmp 13) _ (.agg #[.int .i64 fmt, .slice A ps.length c]) rfl (by kernel_rfl) (enters_of Tryz.func24 (by kernel_rfl) rfl _ _)) (CB.out W1 (RdE.below HP.out HB1.out (Nat.le_refl _))) ?_
 rintro e W2 ⟨rfl, hb⟩
 have HB2 := Lib.hid (HB1.out.trans (hb.mono HB1.out.size))
 have HX2 := Lib.hid (heap_step HX1.out hb)
 have HG2 := Lib.hid (heap_step HG1.out hb)
 clear hb
 refine ⟨.string data, rfl, ?_⟩
 simp only [Act.put, List.setIfInBounds_toArray, List.set_cons_zero, List.set_cons_succ]
 refine wpAny_only 4 (by kernel_rfl) rfl (by kernel_rfl) ?_
 refine wp_of_call (ex_call2 (.tmp 12) (.tmp 14) _ (.int .i64 fmt) (.string data) rfl (by kernel_rfl) (by kernel_rfl) (enters_of Tryz.func28 (by kernel_rfl) rfl _ _)) (CP.out W2 (below_cell0 HM.out HB2.out)) ?_
 rintro e W3 ⟨A2, c2, rfl, ho, hb⟩
 have HB3 := Lib.hid (HB2.out.trans (hb.mono HB2.out.size))
 have HX3 := Lib.hid (heap_step HX2.out hb)
 have HG3 := Lib.hid (heap_step HG2.out hb)
 have HO3 := Lib.hid (own_base ho HB2.out.size)
 clear ho hb
 refine ⟨.tuple #[.agg #[.int .i64 fmt, .slice A2 ps.length c2], .int .i64 0, .int .i64 0], rfl, ?_⟩
 simp only [Act.put, List.setIfInBounds_toArray, List.set_cons_zero, List.set_cons_succ]
 refine zzM 5 (.tuple #[.agg #[.int .i64 fmt, .slice A2 ps.length c2], .int .i64 0, .int .i64 0]) (some 10) rfl ?_
 refine zzA 6 (.agg #[.int .i64 fmt, .slice A2 ps.length c2]) (some 16) rfl (fun _ => ex_extract _ 0 #[.agg #[.int .i64 fmt, .slice A2 ps.length c2], .int .i64 0, .int .i64 0] (.agg #[.int .i64 fmt, .slice A2 ps.length c2]) rfl (by kernel_rfl) rfl) ?_
 refine zzA 7 (.int .i64 0) (some 17) rfl (fun _ => ex_extract _ 1 #[.agg #[.int .i64 fmt, .slice A2 ps.length c2], .int .i64 0, .int .i64 0] (.int .i64 0) rfl (by kernel_rfl) rfl) ?_
 refine zzA 8 (.int .i64 0) (some 18) rfl (fun _ => ex_extract _ 2 #[.agg #[.int .i64 fmt, .slice A2 ps.length c2], .int .i64 0, .int .i64 0] (.int .i64 0) rfl (by kernel_rfl) rfl) ?_
 simp only [Act.put, List.setIfInBounds_toArray, List.set_cons_zero, List.set_cons_succ]
 refine wpAny_only 10 (by kernel_rfl) rfl (by kernel_rfl) ?_
 refine wp_storeD (.tmp 3) (.tmp 16) rfl rfl g3 fmt A2 ps.length c2 (by kernel_rfl) (by kernel_rfl) HG3.out ?_
 have HB4 := Lib.hid ((HB3.out.setCell (p := ⟨g3, 0, none⟩) (Nat.le_trans hgw (Nat.le_of_lt hg3)) (.int .i64 fmt)).setCell (p := ⟨g3, 1, none⟩) (Nat.le_trans hgw (Nat.le_of_lt hg3)) (.slice A2 ps.length c2))
 have HX4 := Lib.hid ((storeD_out (u0 := .int .i64 fmt) (u1 := .slice A2 ps.length c2) (Nat.ne_of_lt hg3)).trans HX3.out)
 have HG4 := Lib.hid (storeD_at (u0 := .int .i64 fmt) (u1 := .slice A2 ps.length c2) HG3.out)
 have HO4 := Lib.hid (own_same (w' := (W3.setCell ⟨g3, 0, none⟩ (.int .i64 fmt)).setCell ⟨g3, 1, none⟩ (.slice A2 ps.length c2)) HO3.out fun j hj => storeD_out (fun e => own_apart HO3.out HG3.out (by decide) j hj e))
 generalize (W3.setCell ⟨g3, 0, none⟩ (.int .i64 fmt)).setCell ⟨g3, 1, none⟩ (.slice A2 ps.length c2) = W4 at HB4 HX4 HG4 HO4 ⊢
 simp only [Act.put, List.setIfInBounds_toArray, List.set_cons_zero, List.set_cons_succ]
 refine zzG 11 (.int .i64 0) (some 4) rfl ?_
 refine zzG 12 (.int .i64 0) (some 5) rfl ?_
 refine wpAny_done (by kernel_rfl) ?_ _
 simp only [Act.put, List.setIfInBounds_toArray, List.set_cons_zero, List.set_cons_succ]
 obtain ⟨x0, x1, _⟩ := bx2 HX4.out
 obtain ⟨z0, z1, _⟩ := bx2 HG4.out
 have HXB := HB4
 have HOB := Lib.hid (OwnE.rd ptC_three HO4.out)
 have CEE := Lib.hid (CE.out _ _ W4 HOB.out (RdE.below HP.out HB4.out (Nat.le_refl _)))
 rotate_left 1
 refine wp_of_call (ex_call1 (.tmp 13) _ (.agg #[.int .i64 fmt, .slice A ps.length c]) rfl (by kernel_rfl) (enters_of Tryz.func24 (by kernel_rfl) rfl _ _)) (CB.out W1 (RdE.below HP.out HB1.out (Nat.le_refl _))) ?_
 rintro e W2 ⟨rfl, hb⟩
 have HB2 := Lib.hid (HB1.out.trans (hb.mono HB1.out.size))
 have HX2 := Lib.hid (heap_step HX1.out hb)
 have HG2 := Lib.hid (heap_step HG1.out hb)
 clear hb
 refine ⟨.string data, rfl, ?_⟩
 simp only [Act.put, List.setIfInBounds_toArray, List.set_cons_zero, List.set_cons_succ]
 refine wpAny_only 1 (by kernel_rfl) rfl (by kernel_rfl) ?_
 refine wp_of_val (v := .int .i64 fmt) (ex_load 3 _ (.pointer (some ⟨g, 0, none⟩)) _ rfl (by kernel_rfl) (ldT_int (bx2 HX2.out).1)) ?_
 simp only [Act.put, List.setIfInBounds_toArray, List.set_cons_zero, List.set_cons_succ]
 refine wpAny_only 4 (by kernel_rfl) rfl (by kernel_rfl) ?_
 refine wp_of_call (ex_call2 (.tmp 12) (.tmp 14) _ (.int .i64 fmt) (.string data) rfl (by kernel_rfl) (by kernel_rfl) (enters_of Tryz.func28 (by kernel_rfl) rfl _ _)) (CP.out W2 (below_cell0 HM.out HB2.out)) ?_
 rintro e W3 ⟨A2, c2, rfl, ho, hb⟩
 have HB3 := Lib.hid (HB2.out.trans (hb.mono HB2.out.size))
 have HX3 := Lib.hid (heap_step HX2.out hb)
 have HG3 := Lib.hid (heap_step HG2.out hb)
 have HO3 := Lib.hid (own_base ho HB2.out.size)
 clear ho hb
 refine ⟨.tuple #[.agg #[.int .i64 fmt, .slice A2 ps.length c2], .int .i64 0, .int .i64 0], rfl, ?_⟩
 simp only [Act.put, List.setIfInBounds_toArray, List.set_cons_zero, List.set_cons_succ]
 refine zzM 5 (.tuple #[.agg #[.int .i64 fmt, .slice A2 ps.length c2], .int .i64 0, .int .i64 0]) (some 10) rfl ?_
 refine zzA 6 (.agg #[.int .i64 fmt, .slice A2 ps.length c2]) (some 16) rfl (fun _ => ex_extract _ 0 #[.agg #[.int .i64 fmt, .slice A2 ps.length c2], .int .i64 0, .int .i64 0] (.agg #[.int .i64 fmt, .slice A2 ps.length c2]) rfl (by kernel_rfl) rfl) ?_
 refine zzA 7 (.int .i64 0) (some 17) rfl (fun _ => ex_extract _ 1 #[.agg #[.int .i64 fmt, .slice A2 ps.length c2], .int .i64 0, .int .i64 0] (.int .i64 0) rfl (by kernel_rfl) rfl) ?_
 refine zzA 8 (.int .i64 0) (some 18) rfl (fun _ => ex_extract _ 2 #[.agg #[.int .i64 fmt, .slice A2 ps.length c2], .int .i64 0, .int .i64 0] (.int .i64 0) rfl (by kernel_rfl) rfl) ?_
 simp only [Act.put, List.setIfInBounds_toArray, List.set_cons_zero, List.set_cons_succ]
 refine wpAny_only 10 (by kernel_rfl) rfl (by kernel_rfl) ?_
 refine wp_storeD (.tmp 3) (.tmp 16) rfl rfl g3 fmt A2 ps.length c2 (by kernel_rfl) (by kernel_rfl) HG3.out ?_
 have HB4 := Lib.hid ((HB3.out.setCell (p := ⟨g3, 0, none⟩) (Nat.le_trans hgw (Nat.le_of_lt hg3)) (.int .i64 fmt)).setCell (p := ⟨g3, 1, none⟩) (Nat.le_trans hgw (Nat.le_of_lt hg3)) (.slice A2 ps.length c2))
 have HX4 := Lib.hid ((storeD_out (u0 := .int .i64 fmt) (u1 := .slice A2 ps.length c2) (Nat.ne_of_lt hg3)).trans HX3.out)
 have HG4 := Lib.hid (storeD_at (u0 := .int .i64 fmt) (u1 := .slice A2 ps.length c2) HG3.out)
 have HO4 := Lib.hid (own_same (w' := (W3.setCell ⟨g3, 0, none⟩ (.int .i64 fmt)).setCell ⟨g3, 1, none⟩ (.slice A2 ps.length c2)) HO3.out fun j hj => storeD_out (fun e => own_apart HO3.out HG3.out (by decide) j hj e))
 generalize (W3.setCell ⟨g3, 0, none⟩ (.int .i64 fmt)).setCell ⟨g3, 1, none⟩ (.slice A2 ps.length c2) = W4 at HB4 HX4 HG4 HO4 ⊢
 simp only [Act.put, List.setIfInBounds_toArray, List.set_cons_zero, List.set_cons_succ]
 refine zzG 11 (.int .i64 0) (some 4) rfl ?_
 refine zzG 12 (.int .i64 0) (some 5) rfl ?_
 refine wpAny_done (by kernel_rfl) ?_ _
 simp only [Act.put, List.setIfInBounds_toArray, List.set_cons_zero, List.set_cons_succ]
 obtain ⟨x0, x1, _⟩ := bx2 HX4.out
 obtain ⟨z0, z1, _⟩ := bx2 HG4.out
 have HXB := HB4
 have HOB := Lib.hid (OwnE.rd ptC_three HO4.out)
 have CEE := Lib.hid (CE.out _ _ W4 HOB.out (RdE.below HP.out HB4.out (Nat.le_refl _)))
 all_goals (
  go_wp2_with (go_at_call 105; refine (CEE.out).mono ?_; rintro e w9 ⟨rfl, n9, rfl⟩)
  go_ret
  exact ⟨rfl, below_drewN HXB.out _⟩)
end Go.Proofs.YtfkojnofbpdjdaaGreatDoor

namespace Go.Proofs.YtfkojnofbpdjdaaGreatDoor
set_option maxRecDepth 100000
open Go.RowKit
def ascL : Nat → List (Nat × Nat) → Nat → Prop
 | _, [], _ => True
 | at_, r :: rl, n => at_ ≤ r.1 ∧ r.1 ≤ r.2 ∧ r.2 ≤ n ∧ ascL r.2 rl n
theorem rdR_at {w : World} {A : Option Addr} {n c : Nat} {l : List (Nat × Nat)} (h : RdE rangeC 2 w (.slice A n c) l) (k : Nat) (hk : k < l.length) : ∃ b o, A = some ⟨b, o, none⟩ ∧ b < w.heap.size ∧ w.cell? ⟨b, o + k * 2, none⟩ = some (.int .i64 l[k].1) ∧ w.cell? ⟨b, o + k * 2 + 1, none⟩ = some (.int .i64 l[k].2) := by
 obtain ⟨b, o, hA, hb, hx⟩ := RdE.cells h (by omega)
 exact ⟨b, o, hA, hb, hx k _ 0 _ (List.getElem?_eq_getElem hk) rfl, hx k _ 1 _ (List.getElem?_eq_getElem hk) rfl⟩
theorem asc_any (rl : List (Nat × Nat)) (n : Nat) (v : Value) (w : World) (h : RdE rangeC 2 w v rl) (hl : rl.length ≤ 100000) (hn : n ≤ 1000000) (ha : ascL 0 rl n) :
 Calls Tryz.prog 66 #[v, .int .i64 n] w (fun e w' => e = .returned (.bool true) ∧ Below w.heap.size w w') := by
 obtain ⟨R, HRR⟩ : ∃ R : Ending → World → Prop, Hid (R = fun e w' => e = .returned (.bool true) ∧ Below w.heap.size w w') := ⟨_, rfl⟩
 rw [← HRR.out]
 obtain ⟨A, c, rfl, _, _⟩ := h.shape
 have HF := Lib.hid h
 have HA := Lib.hid ha
 clear h ha
 go_enter Tryz.func66, Tryz.ntmps66
 go_wp2_with fail
 go_loopg [5, 10] rl.length (fun gk av iv wr => ∃ k a : Nat, av = .int .i64 a ∧ iv = .int .i64 k ∧ k ≤ rl.length ∧ a ≤ 1000000 ∧ Hid (ascL a (rl.drop k) n) ∧ Hid (Below w.heap.size w wr) ∧ rl.length - k ≤ gk)
 case atStart => exact ⟨0, 0, rfl, rfl, Nat.zero_le _, Nat.zero_le _, HA.out, Below.refl _ _, Nat.le_refl _⟩
 case round =>
  obtain ⟨k, a, rfl, rfl, hk, haa, HS, HB, hgk⟩ := hrel
  by_cases hlt : k < rl.length
  ·obtain ⟨b, o, rfl, hb, c0, c1⟩ := rdR_at (HF.out.below HB.out (Nat.le_refl _)) k hlt
   have hs := HS.out
   rw [List.drop_eq_getElem_cons hlt] at hs
   generalize rl[k] = x at *
   obtain ⟨x1, x2⟩ := x
   obtain ⟨s1, s2, s3, s4⟩ := hs
   simp only at c0 c1 s1 s2 s3 s4
   have HS4 := Lib.hid s4
   have t1 : ¬ ((x1 : Int) < (a : Int)) := by omega
   have t2 : ¬ ((x2 : Int) < (x1 : Int)) := by omega
   have t3 : ¬ ((n : Int) < (x2 : Int)) := by omega
   have HB2 := Lib.hid (HB.out.alloc HB.out.size (.cells #[.int .i64 x1, .int .i64 x2] 54))
   clear s4
   go_wp2_with fail
   go_roundg (rl.length - (k + 1))
   case measure => omega
   case rel => exact ⟨k + 1, x2, rfl, rfl, hlt, by omega, HS4.out, HB2.out, Nat.le_refl _⟩
  ·obtain rfl : k = rl.length := by omega
   go_wp2_with fail
   first | go_ret | skip
   rw [HRR.out]
   exact ⟨rfl, HB.out⟩
end Go.Proofs.YtfkojnofbpdjdaaGreatDoor

namespace Go.Proofs.YtfkojnofbpdjdaaGreatDoor
set_option maxRecDepth 100000
open Go.RowKit
theorem norm_app_norm (a b : List Tk) : normL (normL a ++ b) = normL (expF a ++ expF b) := by rw [normL_app_exp, expF_norm]
theorem lenI_norm (a : List Tk) : lenI (normL a) = lenI a := by rw [← expF_len, expF_norm, expF_len]
theorem len_norm (a : List Tk) : (normL a).length ≤ lenI a := by
 have := len_wd (normL a) (normal_wd _ (normL_normal a))
 rwa [lenI_norm] at this
theorem lenI_appD (a b : List Tk) : lenI (a ++ b) = lenI a + lenI b := by rw [← expF_len, expF_app, List.length_append, expF_len, expF_len]
theorem lenI_exp (a : List Tk) (h : expF a = a) : lenI a = a.length := by rw [← expF_len, h]
theorem exp_part (f : List Tk) (l : List Tk) (h : ∀ y ∈ l, y ∈ expF f) : expF l = l := expF_id l fun y hy => expF_ones f y (h y hy)
theorem repU_nil (u : List Tk) (a : Nat) (tg : List (List Tk)) : repU u a [] tg = u.drop a := by cases tg <;> rfl
theorem mem_td {u : List Tk} {p q : Nat} {y : Tk} (h : y ∈ (u.take p).drop q) : y ∈ u := List.mem_of_mem_take (List.mem_of_mem_drop h)
theorem replaced_any (f : List Tk) (rl : List (Nat × Nat)) (tg : List (List Tk)) (v vr vt : Value) (w : World) (h1 : RdT w v f) (h2 : RdE rangeC 2 w vr rl) (h3 : RdTT w vt tg) (hl : rl.length = tg.length) (hlr : rl.length ≤ 100000) (hfl : f.length ≤ 100000) (hlf : lenI f ≤ 1000000)
 (ha : ascL 0 rl (lenI f)) (htot : (repU (expF f) 0 rl tg).length ≤ 100000) (htk : ∀ t ∈ tg, Normal t) :
 Calls Tryz.prog 71 #[v, vr, vt] w (RetOwn 31 tkC 3 w (normL (repU (expF f) 0 rl tg))) := by
 obtain ⟨R, HRR⟩ : ∃ R, Hid (R = RetOwn 31 tkC 3 w (normL (repU (expF f) 0 rl tg))) := ⟨_, rfl⟩
 rw [← HRR.out]
 obtain ⟨A, c, rfl, _, _⟩ := h1.shape
 obtain ⟨A2, c2, rfl, _, _⟩ := h2.shape
 obtain ⟨A3, tc, rfl, h30⟩ := h3
 have H3 : Hid (RdTT w (.slice A3 tg.length tc) tg) := ⟨A3, tc, rfl, h30⟩
 have H1 := Lib.hid h1
 have H2 := Lib.hid h2
 have HA := Lib.hid ha
 have HTOT := Lib.hid htot
 have HTK := Lib.hid htk
 have HLL := Lib.hid hl
 have HLF := Lib.hid hlf
 have CS := Lib.hid (fun (p q : Nat) (w' : World) (h : RdT w' (.slice A f.length c) f) (hpq : p ≤ q) (hq : q ≤ lenI f) => islice_any f _ p q w' h (by omega) (by omega) hpq hq)
 have CL := Lib.hid (fun (w' : World) (h : RdT w' (.slice A f.length c) f) => ilength_any f _ w' h (by omega) (by omega))
 clear h1 h2 h30 ha htot htk hl hlf
 go_enter Tryz.func71, Tryz.ntmps71
 go_wp2_with fail
 go_loopg [7, 8, 17] rl.length (fun gk ov av iv wr => ∃ (k a : Nat) (E : List Tk), av = .int .i64 a ∧ iv = .int .i64 k ∧ k ≤ rl.length ∧ a ≤ lenI f ∧ Hid (ascL a (rl.drop k) (lenI f)) ∧ Hid (expF E = E) ∧ Hid (E ++ repU (expF f) a (rl.drop k) (tg.drop k) = repU (expF f) 0 rl tg) ∧ Hid (OwnT 31 wr w.heap.size ov (normL E)) ∧ Hid (Below w.heap.size w wr) ∧ rl.length - k ≤ gk)
 case atStart => exact ⟨0, 0, [], rfl, rfl, Nat.zero_le _, Nat.zero_le _, HA.out, rfl, rfl, OwnE.nil, Below.refl _ _, Nat.le_refl _⟩
 case round =>
  obtain ⟨k, a, E, rfl, rfl, hk, haa, HS, HEE, HE, HO, HB, hgk⟩ := hrel
  have htl : E.length ≤ 100000 := by
   have := congrArg List.length HE.out
   rw [List.length_append] at this
   have := HTOT.out
   omega
  have hlE : lenI E = E.length := lenI_exp E HEE.out
  obtain ⟨Ao, co, rfl⟩ := own_shape HO.out
  have HRO := Lib.hid (OwnE.rd tkC_three HO.out)
  have hnE := len_norm E
  by_cases hlt : k < rl.length
  ·obtain ⟨b, o, rfl, hb, c0, c1⟩ := rdR_at (H2.out.below HB.out (Nat.le_refl _)) k hlt
   have hltt : k < tg.length := by rw [← HLL.out]; exact hlt
   obtain ⟨tb, tof, At, ct, hA3, htb0, t00, ht00⟩ := RdTT.at_ H3.out k hltt
   subst hA3
   have hs := HS.out
   have he := HE.out
   rw [List.drop_eq_getElem_cons hlt] at hs he
   rw [List.drop_eq_getElem_cons hltt, repU] at he
   have htkn := HTK.out _ (List.getElem_mem hltt)
   generalize rl[k] = x at *
   generalize tg[k] = tk at *
   obtain ⟨x1, x2⟩ := x
   obtain ⟨s1, s2, s3, s4⟩ := hs
   simp only at c0 c1 s1 s2 s3 s4 he
   have HS4 := Lib.hid s4
   have hx1 : x1 ≤ lenI f := Nat.le_trans s2 s3
   have hx1i : (x1 : Int) ≤ 1000000 := by have := HLF.out; omega
   have hx2i : (x2 : Int) ≤ 1000000 := by have := HLF.out; omega
   obtain ⟨pc, hpc⟩ : ∃ pc, Hid (slI f 0 a x1 = pc) := ⟨_, rfl⟩
   have hpe : expF pc = ((expF f).take x1).drop a := by rw [← hpc.out, expF_sl, Nat.sub_zero, Nat.sub_zero]
   have hpw : pc.length ≤ lenI pc := by rw [← hpc.out]; exact len_wd _ (slI_wd a x1 f 0)
   have hpl : lenI pc = (((expF f).take x1).drop a).length := by rw [← expF_len, hpe]
   have hTL := congrArg List.length he
   simp only [List.length_append] at hTL
   have htt := HTOT.out
   have htw : lenI tk = (expF tk).length := (expF_len tk).symm
   have htw2 := len_wd tk (normal_wd _ htkn)
   obtain ⟨E1, hE1⟩ : ∃ E1, Hid (E1 = E ++ ((expF f).take x1).drop a) := ⟨_, rfl⟩
   obtain ⟨E2, hE2⟩ : ∃ E2, Hid (E2 = E1 ++ expF tk) := ⟨_, rfl⟩
   have hE1e : expF E1 = E1 := by rw [hE1.out, expF_app, HEE.out, exp_part f _ fun y hy => mem_td hy]
   have HE2e : Hid (expF E2 = E2) := by show _ = _; rw [hE2.out, expF_app, hE1e, expF_id (expF tk) (expF_ones tk)]
   have hN1 : normL (normL E ++ pc) = normL E1 := by rw [norm_app_norm, HEE.out, hpe, hE1.out]
   have hN2 : normL (normL E1 ++ tk) = normL E2 := by rw [norm_app_norm, hE1e, hE2.out]
   have hl1 : lenI E1 = E.length + (((expF f).take x1).drop a).length := by rw [lenI_exp E1 hE1e, hE1.out, List.length_append]
   have hnE1 := len_norm E1
   have HEN : Hid (E2 ++ repU (expF f) x2 (rl.drop (k + 1)) (tg.drop (k + 1)) = repU (expF f) 0 rl tg) := by
    show _ = _
    rw [← he, hE2.out, hE1.out]
    simp
   have HC1a := Lib.hid (fun (W : World) (ha : RdT W (.slice Ao (normL E).length co) (normL E)) (Ap : Option Addr) (cp : Nat) (hb : RdT W (.slice Ap pc.length cp) pc) => concat_any (normL E) pc Ao Ap co cp W ha hb (by omega) (by rw [lenI_appD, lenI_norm]; omega))
   have HC2 := Lib.hid (fun (A5 : Option Addr) (c5 : Nat) (W : World) (ha : RdT W (.slice A5 (normL E1).length c5) (normL E1)) (hb : RdT W (.slice At tk.length ct) tk) => concat_any (normL E1) tk A5 At c5 ct W ha hb (by omega) (by rw [lenI_appD, lenI_norm]; omega))
   rw [hN1] at HC1a
   rw [hN2] at HC2
   have HBA := Lib.hid (HB.out.alloc HB.out.size (.cells #[.int .i64 x1, .int .i64 x2] 54))
   have hkt : (k : Int) < (tg.length : Int) := by omega
   have CS1 := Lib.hid (fun (w' : World) (h : RdT w' (.slice A f.length c) f) => CS.out a x1 w' h s1 hx1)
   rw [hpc.out] at CS1
   have ht0 := Lib.hid (fun (W : World) (hW : Below w.heap.size w W) => (hW.cell (p := ⟨tb, tof + k, none⟩) htb0).trans t00)
   have hal := (Below.refl wr.heap.size wr).alloc (Nat.le_refl _) (.cells #[.int .i64 x1, .int .i64 x2] 54)
   have HROA := Lib.hid (RdE.below HRO.out hal (Nat.le_refl _))
   have HTKW := Lib.hid (fun (W : World) (hW : Below w.heap.size w W) => RdE.below ht00 hW (Nat.le_refl _))
   clear he s4 hpe hpw hpl hTL htt htw htw2 hE1e hN1 hN2 hl1 hnE1 htkn t00 ht00 hE1 hE2 hnE hlE htl hal
   go_wp2_with (go_at_call 47; refine (CS1.out _ (by exact RdE.below H1.out HBA.out (Nat.le_refl _))).mono ?_; rintro e w1 ⟨vp, rfl, hop, hbp⟩; obtain ⟨Ap, cp, rfl⟩ := own_shape hop; have HPC := Lib.hid (OwnE.rd tkC_three hop); have HBS := Lib.hid (HBA.out.trans (hbp.mono HBA.out.size)); have HRO1 := Lib.hid (RdE.below HROA.out hbp (Nat.le_refl _)); have r0 : w1.cell? ⟨wr.heap.size, 0, none⟩ = some (.int .i64 x1) := (hbp.cell (by simp)).trans (by go_simp); have r1 : w1.cell? ⟨wr.heap.size, 1, none⟩ = some (.int .i64 x2) := (hbp.cell (by simp)).trans (by go_simp); have hq1 : wr.heap.size < w1.heap.size := Nat.lt_of_lt_of_le (by simp) hbp.size; clear hop hbp)
   refine wp_region_at 9 #[false, false, false, false, false, false, false, false, false] rfl rfl (by kernel_rfl) ?_
   have HBW : Hid (Below w.heap.size w w1.drew) := HBS.out.drew
   have HC1 := Lib.hid (HC1a.out w1.drew HRO1.out Ap cp HPC.out)
   have HTK := Lib.hid (HTKW.out w1.drew HBW.out)
   have t0 := ht0.out w1.drew HBW.out
   have htb : tb < w1.drew.heap.size := Nat.lt_of_lt_of_le htb0 HBW.out.size
   have R0 : Hid (∀ W, Below w1.drew.heap.size w1.drew W → W.cell? ⟨wr.heap.size, 1, none⟩ = some (.int .i64 x2)) := fun W hW => (hW.cell (p := ⟨wr.heap.size, 1, none⟩) hq1).trans r1
   clear HC1a ht0 HTKW
   generalize w1.drew = W0 at *
   refine zzM 0 (.slice Ao (normL E).length co) (some 30) rfl ?_
   refine zzM 1 (.slice Ap pc.length cp) (some 31) rfl ?_
   refine zzM 3 (.slice (some ⟨tb, tof, none⟩) tg.length tc) (some 33) rfl ?_
   refine zzM 4 (.int .i64 (k : Int)) (some 34) rfl ?_
   refine zzA 5 (.pointer (some ⟨tb, tof + k, none⟩)) (some 35) rfl (fun _ => ex_indexAddr 48 _ _ (.slice (some ⟨tb, tof, none⟩) tg.length tc) (.int .i64 (k : Int)) _ rfl (by kernel_rfl) (by kernel_rfl) (by go_simp)) ?_
   simp only [Act.put, List.setIfInBounds_toArray, List.set_cons_zero, List.set_cons_succ]
   refine wpAny_two 2 6 (by kernel_rfl) rfl rfl (by kernel_rfl) (by kernel_rfl) ?_ ?_
   refine wp_of_call (ex_call2 (.tmp 30) (.tmp 31) _ (.slice Ao (normL E).length co) (.slice Ap pc.length cp) rfl (by kernel_rfl) (by kernel_rfl) (enters_of Tryz.func113 (by kernel_rfl) rfl _ _)) (HC1.out) ?_
   rintro e W1 ⟨v, rfl, ho, hb⟩
   obtain ⟨A5, c5, rfl⟩ := own_shape ho
   have HO5 := Lib.hid (OwnE.rd tkC_three ho)
   have HB5 := Lib.hid (HBW.out.trans (hb.mono HBW.out.size))
   have HT5 := Lib.hid (RdE.below HTK.out hb (Nat.le_refl _))
   have t1 := (hb.cell (p := ⟨tb, tof + k, none⟩) htb).trans t0
   have HBC5 := Lib.hid hb
   clear ho hb
   refine ⟨.slice A5 (normL E1).length c5, rfl, ?_⟩
   simp only [Act.put, List.setIfInBounds_toArray, List.set_cons_zero, List.set_cons_succ]
   refine wpAny_only 6 (by kernel_rfl) rfl (by kernel_rfl) ?_
   refine wp_of_val (v := .slice At tk.length ct) (ex_load 24 _ (.pointer (some ⟨tb, tof + k, none⟩)) _ rfl (by kernel_rfl) (ldT_items t1)) ?_
   simp only [Act.put, List.setIfInBounds_toArray, List.set_cons_zero, List.set_cons_succ]
   refine wpAny_only 7 (by kernel_rfl) rfl (by kernel_rfl) ?_
   refine wp_of_call (ex_call2 (.tmp 32) (.tmp 36) _ (.slice A5 (normL E1).length c5) (.slice At tk.length ct) rfl (by kernel_rfl) (by kernel_rfl) (enters_of Tryz.func113 (by kernel_rfl) rfl _ _)) (HC2.out A5 c5 W1 HO5.out HT5.out) ?_
   rintro e W2 ⟨v, rfl, ho, hb⟩
   obtain ⟨A6, c6, rfl⟩ := own_shape ho
   have HO6 := Lib.hid (own_base ho HB5.out.size)
   have HB6 := Lib.hid (HB5.out.trans (hb.mono HB5.out.size))
   have y1 := R0.out W2 (HBC5.out.trans (hb.mono HBC5.out.size))
   clear ho hb
   refine ⟨.slice A6 (normL E2).length c6, rfl, ?_⟩
   simp only [Act.put, List.setIfInBounds_toArray, List.set_cons_zero, List.set_cons_succ]
   refine zzG 8 (.slice A6 (normL E2).length c6) (some 7) rfl ?_
   refine wpAny_done (by kernel_rfl) ?_ _
   simp only [Act.put, List.setIfInBounds_toArray, List.set_cons_zero, List.set_cons_succ]
   rotate_left 1
   refine wp_of_val (v := .slice At tk.length ct) (ex_load 24 _ (.pointer (some ⟨tb, tof + k, none⟩)) _ rfl (by kernel_rfl) (ldT_items t0)) ?_
   simp only [Act.put, List.setIfInBounds_toArray, List.set_cons_zero, List.set_cons_succ]
   refine wpAny_only 2 (by kernel_rfl) rfl (by kernel_rfl) ?_
   refine wp_of_call (ex_call2 (.tmp 30) (.tmp 31) _ (.slice Ao (normL E).length co) (.slice Ap pc.length cp) rfl (by kernel_rfl) (by kernel_rfl) (enters_of Tryz.func113 (by kernel_rfl) rfl _ _)) (HC1.out) ?_
   rintro e W1 ⟨v, rfl, ho, hb⟩
   obtain ⟨A5, c5, rfl⟩ := own_shape ho
   have HO5 := Lib.hid (OwnE.rd tkC_three ho)
   have HB5 := Lib.hid (HBW.out.trans (hb.mono HBW.out.size))
   have HT5 := Lib.hid (RdE.below HTK.out hb (Nat.le_refl _))
   have t1 := (hb.cell (p := ⟨tb, tof + k, none⟩) htb).trans t0
   have HBC5 := Lib.hid hb
   clear ho hb
   refine ⟨.slice A5 (normL E1).length c5, rfl, ?_⟩
   simp only [Act.put, List.setIfInBounds_toArray, List.set_cons_zero, List.set_cons_succ]
   refine wpAny_only 7 (by kernel_rfl) rfl (by kernel_rfl) ?_
   refine wp_of_call (ex_call2 (.tmp 32) (.tmp 36) _ (.slice A5 (normL E1).length c5) (.slice At tk.length ct) rfl (by kernel_rfl) (by kernel_rfl) (enters_of Tryz.func113 (by kernel_rfl) rfl _ _)) (HC2.out A5 c5 W1 HO5.out HT5.out) ?_
   rintro e W2 ⟨v, rfl, ho, hb⟩
   obtain ⟨A6, c6, rfl⟩ := own_shape ho
   have HO6 := Lib.hid (own_base ho HB5.out.size)
   have HB6 := Lib.hid (HB5.out.trans (hb.mono HB5.out.size))
   have y1 := R0.out W2 (HBC5.out.trans (hb.mono HBC5.out.size))
   clear ho hb
   refine ⟨.slice A6 (normL E2).length c6, rfl, ?_⟩
   simp only [Act.put, List.setIfInBounds_toArray, List.set_cons_zero, List.set_cons_succ]
   refine zzG 8 (.slice A6 (normL E2).length c6) (some 7) rfl ?_
   refine wpAny_done (by kernel_rfl) ?_ _
   simp only [Act.put, List.setIfInBounds_toArray, List.set_cons_zero, List.set_cons_succ]
   all_goals (
    go_wp2_with fail
    go_roundg (rl.length - (k + 1))
    case measure => omega
    case rel => exact ⟨k + 1, x2, E2, rfl, rfl, hlt, s3, HS4.out, HE2e.out, HEN.out, HO6.out, HB6.out, Nat.le_refl _⟩)
  ·obtain rfl : k = rl.length := by omega
   have he := HE.out
   rw [List.drop_length, show tg.drop rl.length = [] by rw [HLL.out, List.drop_length], repU_nil] at he
   obtain ⟨pc, hpc⟩ : ∃ pc, Hid (slI f 0 a (lenI f) = pc) := ⟨_, rfl⟩
   have hpe : expF pc = (expF f).drop a := by rw [← hpc.out, expF_sl, Nat.sub_zero, Nat.sub_zero, List.take_of_length_le (by rw [expF_len]; exact Nat.le_refl _)]
   have hpw : pc.length ≤ lenI pc := by rw [← hpc.out]; exact len_wd _ (slI_wd a (lenI f) f 0)
   have hpl : lenI pc = ((expF f).drop a).length := by rw [← expF_len, hpe]
   have hTL := congrArg List.length he
   rw [List.length_append] at hTL
   have htt := HTOT.out
   have hN1 : normL (normL E ++ pc) = normL (repU (expF f) 0 rl tg) := by rw [norm_app_norm, HEE.out, hpe, he]
   have HC1 := Lib.hid (fun (W : World) (ha : RdT W (.slice Ao (normL E).length co) (normL E)) (Ap : Option Addr) (cp : Nat) (hb : RdT W (.slice Ap pc.length cp) pc) => concat_any (normL E) pc Ao Ap co cp W ha hb (by omega) (by rw [lenI_appD, lenI_norm]; omega))
   rw [hN1] at HC1
   have CS1 := Lib.hid (fun (w' : World) (h : RdT w' (.slice A f.length c) f) => CS.out a (lenI f) w' h haa (Nat.le_refl _))
   rw [hpc.out] at CS1
   clear he hpe hpw hpl hTL htt hN1 hnE hlE htl
   generalize lenI f = lf at CL CS1 haa HLF ⊢
   go_wp2_with (first
    | (go_at_call 62; refine (CL.out _ (by exact RdE.below H1.out HB.out (Nat.le_refl _))).mono ?_; rintro e w1 ⟨rfl, hb1⟩; have HB1 := Lib.hid (HB.out.trans (hb1.mono HB.out.size)); have HRO1 := Lib.hid (RdE.below HRO.out hb1 (Nat.le_refl _)); clear hb1)
    | (go_at_call 47; refine (CS1.out _ (by exact RdE.below H1.out HB1.out (Nat.le_refl _))).mono ?_; rintro e w2 ⟨vp, rfl, hop, hbp⟩; obtain ⟨Ap, cp, rfl⟩ := own_shape hop; have HPC := Lib.hid (OwnE.rd tkC_three hop); have HB2 := Lib.hid (HB1.out.trans (hbp.mono HB1.out.size)); have HRO2 := Lib.hid (RdE.below HRO1.out hbp (Nat.le_refl _)); clear hop hbp)
    | (go_at_call 113; refine (HC1.out _ (by exact HRO2.out) Ap cp (by exact HPC.out)).mono ?_; rintro e w3 ⟨v3, rfl, ho3, hb3⟩; obtain ⟨A9, c9, rfl⟩ := own_shape ho3; have HO3 := Lib.hid (own_base ho3 HB2.out.size); have HB3 := Lib.hid (HB2.out.trans (hb3.mono HB2.out.size)); clear ho3 hb3))
   first | go_ret | skip
   rw [HRR.out]
   exact ⟨_, rfl, HO3.out, HB3.out⟩
end Go.Proofs.YtfkojnofbpdjdaaGreatDoor
