/-
  Contracts and plain laws that this claim leans on, part 7.
-/
import Derived.Test.YtfkojnofbpdjdaaGreatDoorPackC6
import Derived.Test.YtfkojnofbpdjdaaGreatDoorPackC3
import Derived.Test.YtfkojnofbpdjdaaGreatDoorPackC4
import Derived.Test.YtfkojnofbpdjdaaGreatDoorPackC1
import Derived.Test.YtfkojnofbpdjdaaGreatDoorRows
import Derived.ProofKit
import Derived.LaidMore
import Derived.Lay
import Derived.SizedLaws
import Derived.Shelf.Vars
import Derived.Stop.Joined
import Derived.WalkSpells
set_option linter.unusedVariables false
set_option linter.unusedSimpArgs false
set_option maxHeartbeats 16000000
set_option maxRecDepth 100000
namespace Go.Proofs.YtfkojnofbpdjdaaGreatDoor
set_option maxRecDepth 100000
open Go.RowKit
section
variable {B g b n : Nat} {data : ByteArray} {fr : Nat} {lv : Value} {ps : List Pt} {w w' : World} {ns : List (List UInt8)}
theorem PsB.map (h : PsB B g data fr lv ps w) (hn : NameSet w b n ns) (hg : w.grownBy w' (some b)) : PsB B g data fr lv ps w' :=
 ⟨(hg.block g h.gsz (fun e => hn.apartC h.box (by injection e))).trans h.box, own_same h.own fun k hk => hg.block k (h.own.lt k hk).2 (fun e => hn.apart h.own (by rw [hk]; exact e)), h.lt⟩
theorem NameSet.keep (hn : NameSet w b n ns) (h : PsB B g data fr lv ps w) (hk : ∀ k, k < w.heap.size → k ≠ g → lv.ownBlock ≠ some k → w'.heap[k]? = w.heap[k]?) : NameSet w' b n ns :=
 hn.same (hk b hn.lt (fun e => hn.apartC h.box e.symm) (hn.apart h.own))
theorem NameSet.below (hn : NameSet w b n ns) (hb : Below w.heap.size w w') : NameSet w' b n ns := hn.same (hb.block b hn.lt)
end
theorem rl_cut (dn td : List RL) (x : RL) (data : ByteArray) (hd : data.data.toList = rawR (dn ++ x :: td)) : data.data.toList = rawR dn ++ (rawRL x ++ rawR td) := by
 rw [hd, rawR_app]
 rfl
theorem rsSplit_any (data : ByteArray) (ls : List RL) (m : Int) (w : World) (hm : w.cell? ⟨0, 0, none⟩ = some (.int .i64 m)) (hd : data.data.toList = rawR ls) (hok : ∀ x ∈ ls, RLok x) (hk : (keysRL ls).Nodup) (hkl : (keysRL ls).length ≤ 1000) (hsz : data.size ≤ 65536) :
 Calls Tryz.prog 95 #[.string data] w (PtsRet (ptsD (unsRL ls).1 (unsRL ls).2) w) := by
 obtain ⟨R, HRR⟩ : ∃ R : Ending → World → Prop, Hid (R = PtsRet (ptsD (unsRL ls).1 (unsRL ls).2) w) := ⟨_, rfl⟩
 rw [← HRR.out]
 have CP := Lib.hid (fun w => newParts_any data w)
 have HD := Lib.hid hd
 have HOK := Lib.hid hok
 have HK := Lib.hid hk
 have HKL := Lib.hid hkl
 have HM := Lib.hid hm
 have hmm : ∀ w : World, (Instr.makeMap 212 none).run Tryz.prog w = .ok (.map (some w.heap.size)) (w.alloc (.map #[] 0)) := fun _ => rfl
 clear hd hok hk hkl hm
 go_enter Tryz.func95, Tryz.ntmps95
 go_upto_region 4 with (go_at_call 142; refine (CP.out _).mono ?_; rintro e w0 ⟨g, rfl, hp0, hb0⟩; have HP0 := Lib.hid hp0; have HB0 := Lib.hid hb0; clear hp0 hb0)
 have hz0 := HB0.out.size
 have HP1 := Lib.hid (HP0.out.below ((Below.refl w0.heap.size w0).alloc (Nat.le_refl _) (.map #[] 0)))
 have HS1 := Lib.hid (NameSet.made w0)
 have HB1 := Lib.hid (HB0.out.alloc hz0 (.map #[] 0))
 have hmw := hmm w0
 clear hmm
 go_upto_region 5 with fail
 generalize w0.alloc (.map #[] 0) = w1 at HP1 HS1 HB1 ⊢
 obtain ⟨bm, hbm⟩ : ∃ bm, Hid (bm = w0.heap.size) := ⟨_, rfl⟩
 have hbmw : w.heap.size ≤ bm := by rw [hbm.out]; exact hz0
 rw [← hbm.out] at HS1 ⊢
 clear HP0 HB0 hz0 hmw
 go_loopg [3] ls.length (fun gk av wr => ∃ dn td, Hid (ls = dn ++ td) ∧ av = .int .i64 ((rawR dn).length : Nat) ∧ (∃ lv, Hid (PsB w.heap.size g data (rawD (unsRL dn).1).length lv (prsD (unsRL dn).1) wr)) ∧ Hid (NameSet wr bm (keysRL dn).length (keysRL dn)) ∧ Hid (Below w.heap.size w wr) ∧ td.length ≤ gk)
 case atStart => exact ⟨[], ls, rfl, rfl, ⟨_, HP1.out⟩, HS1.out, HB1.out, Nat.le_refl _⟩
 case round =>
  obtain ⟨dn, td, HE, rfl, ⟨lv, HP⟩, HS, HB, hgk⟩ := hrel
  clear HP1 HB1 HS1
  cases td with
  | nil =>
    have he : ls = dn := by have := HE.out; rwa [List.append_nil] at this
    subst he
    have hds : (rawR ls).length = data.size := by rw [Lib.size_eq, HD.out]
    have hpl := prsD_len (unsRL ls).1
    have hfr : (rawD (unsRL ls).1).length ≤ data.size := by
     rw [← hds, rawR_split, List.length_append]; omega
    rw [unsRL_len] at hpl
    have hkl := HKL.out
    have hex : data.extract (rawD (unsRL ls).1).length data.size = ofL (unsRL ls).2 := ext_rest _ _ _ (by rw [HD.out, rawR_split])
    have HC := Lib.hid (list_any HP.out hfr (by omega) (by omega))
    rw [hex, show (⟨#[]⟩ : ByteArray) = ofL [] from rfl, ← ptsD_eq] at HC
    clear hex hfr hpl hkl
    rw [hds]
    clear hds
    go_wp2_with (go_at_call 147; refine (HC.out).mono ?_; rintro e w1 ⟨v, rfl, ho, hb1⟩; have HO := Lib.hid ho; have HB1 := Lib.hid (HB.out.trans hb1); obtain ⟨A, c, rfl⟩ := own_shape ho; clear ho hb1)
    go_ret3
    rw [HRR.out]
    exact ⟨_, rfl, HO.out, HB1.out⟩
  | cons x td =>
    have hx := HOK.out x (by rw [HE.out]; simp)
    have hdd := rl_cut dn td x data (by rw [HD.out, HE.out])
    have hp : (rawR dn).length + (rawRL x).length + (rawR td).length = data.size := by rw [Lib.size_eq, hdd]; simp; omega
    have hr0 : 0 < (rawRL x).length := by cases x <;> simp [rawRL] <;> omega
    have HSUM : Hid ((rawR (dn ++ [x])).length = (rawR dn).length + (rawRL x).length) := by show _ = _; rw [rawR_app]; simp [rawR]
    have HME : Hid (ls = dn ++ [x] ++ td) := by show _ = _; rw [HE.out]; simp
    have hgk2 : td.length + 1 ≤ gk := hgk
    have hps : ((rawR dn).length : Int) < (data.size : Int) := by omega
    cases x with
    | skip l =>
      have hll : lnR (rawRL (.skip l) ++ rawR td) = l := by
       rw [show rawRL (.skip l) ++ rawR td = l ++ 10 :: rawR td by simp [rawRL]]
       exact lnR_at l _ hx.1
      have hrl : (rawRL (.skip l)).length = l.length + 1 := by simp [rawRL]
      have CS := Lib.hid (fun W hW => skipped_any data (rawR dn) (rawRL (.skip l) ++ rawR td) m true W hW hdd (by rw [hll]; omega) hsz (by rw [hll]; exact hx.2))
      rw [hll, show (rawR dn).length + l.length + 1 = (rawR (dn ++ [.skip l])).length by rw [HSUM.out, hrl]; rfl] at CS
      have HST : Hid (unsRL (dn ++ [.skip l]) = ((unsRL dn).1, (unsRL dn).2 ++ (l ++ [10]))) := by show _ = _; rw [unsRL_snoc]; rfl
      have HKS := Lib.hid (keys_snocS dn l)
      clear hll hrl hdd hx hp hr0
      go_wp2_with (go_at_call 148; refine (CS.out _ (by exact below_cell0 HM.out HB.out)).mono ?_; rintro e w1 ⟨rfl, hb1⟩; have HP1 := Lib.hid (HP.out.below hb1); have HS1 := Lib.hid (HS.out.below hb1); have HB1 := Lib.hid (HB.out.trans (hb1.mono HB.out.size)); clear hb1)
      go_roundg td.length
      case measure => omega
      case rel =>
       refine ⟨dn ++ [RL.skip l], td, HME.out, rfl, ⟨lv, ?_⟩, ?_, HB1.out, Nat.le_refl _⟩
       ·rw [HST.out]; exact HP1.out
       ·rw [HKS.out]; exact HS1.out
    | unit key ts =>
      obtain ⟨hk1, hk64, hkb, hraw⟩ := hx
      have hR : rawRL (.unit key ts) = key ++ (61 :: (rawE ts ++ [10])) := rfl
      have hrl : (rawRL (.unit key ts)).length = key.length + 1 + (rawE ts).length + 1 := by rw [hR]; simp; omega
      have hidle : idleL (lnR (rawRL (.unit key ts) ++ rawR td)) = false := by
       rw [hR]
       cases key with
       | nil => simp at hk1
       | cons c q => exact idle_key c _ (hkb c (by simp))
      have hln : (lnR (rawRL (.unit key ts) ++ rawR td)).length + 1 ≤ (rawRL (.unit key ts)).length := by
       have h1 := lnR_le (key ++ (61 :: rawE ts)) (rawR td)
       rw [show rawRL (.unit key ts) ++ rawR td = key ++ (61 :: rawE ts) ++ 10 :: rawR td by rw [hR]; simp, hrl]
       simp at h1 ⊢
       omega
      have CS := Lib.hid (fun W hW => skipped_any data (rawR dn) (rawRL (.unit key ts) ++ rawR td) m false W hW hdd (by omega) hsz hidle)
      generalize (rawR dn).length + (lnR (rawRL (.unit key ts) ++ rawR td)).length + 1 = nx at CS
      have hd1 : data.data.toList = rawR dn ++ (key ++ 61 :: (rawE ts ++ 10 :: rawR td)) := by rw [hdd, hR]; simp
      have hX1 : data.extract (rawR dn).length data.size = ofL (key ++ 61 :: (rawE ts ++ 10 :: rawR td)) := ext_rest data (rawR dn) _ hd1
      have hul : (ofL (key ++ 61 :: (rawE ts ++ 10 :: rawR td))).size ≤ 65536 := by rw [size_ofL]; simp; omega
      have CKy := Lib.hid (fun W => rkey_anyR (ofL (key ++ 61 :: (rawE ts ++ 10 :: rawR td))) W hul)
      rw [show (ofL (key ++ 61 :: (rawE ts ++ 10 :: rawR td))).data.toList = key ++ 61 :: (rawE ts ++ 10 :: rawR td) by simp [ofL], keyN_at 65 key _ (by omega) hkb] at CKy
      have hpk : (rawR dn).length + key.length < data.size := by omega
      have h61 : data[(rawR dn).length + key.length] = 61 := by
       have h3 : (rawR dn ++ (key ++ 61 :: (rawE ts ++ 10 :: rawR td)))[(rawR dn).length + key.length]'(by simp) = 61 := by
        rw [List.getElem_append_right (by omega), List.getElem_append_right (by omega)]; simp
       have h4 : data.data.toList[(rawR dn).length + key.length]'(by rw [hd1]; simp) = 61 := by simp only [hd1]; exact h3
       exact h4
      have t61 : ((data[(rawR dn).length + key.length].toNat : Int) != 61) = false := by rw [h61]; rfl
      have hX2 : data.extract (rawR dn).length ((rawR dn).length + key.length) = ofL key := ext_mid data (rawR dn) key (61 :: (rawE ts ++ 10 :: rawR td)) _ (by rw [hd1]; simp) rfl
      have hnew := keys_new dn key ts td (by rw [← HE.out]; exact HK.out)
      have hklen : (keysRL dn).length ≤ 1000 := by
       have h1 := HKL.out
       rw [HE.out, keysRL_app, List.length_append] at h1
       omega
      have hpl2 : (rawR dn ++ (key ++ [61])).length = (rawR dn).length + key.length + 1 := by simp; omega
      have hd2 : data.data.toList = (rawR dn ++ (key ++ [61])) ++ (rawE ts ++ 10 :: rawR td) := by rw [hd1]; simp
      have heR : endR (rawE ts ++ 10 :: rawR td) = (rawE ts).length := endR_raw _ ts hraw.els
      have CE := Lib.hid (fun W => rend_any data (rawR dn ++ (key ++ [61])) (rawE ts ++ 10 :: rawR td) W hd2 (by rw [heR]; simp) hsz)
      rw [heR, hpl2] at CE
      have hX3 : data.extract ((rawR dn).length + key.length + 1) ((rawR dn).length + key.length + 1 + (rawE ts).length) = ofL (rawE ts) := by
       have := ext_mid data (rawR dn ++ (key ++ [61])) (rawE ts) (10 :: rawR td) ((rawR dn).length + key.length + 1 + (rawE ts).length) (by rw [hd2]; simp) (by rw [hpl2])
       rw [hpl2] at this
       exact this
      have HDC := Lib.hid (fun W => rsDecode_any (ofL (rawE ts)) ts W ⟨by simp [ofL], hraw.els, hraw.len, by rw [size_ofL]; omega⟩ hraw.cont)
      have hsp := rawR_split dn
      have hX4 : data.extract (rawD (unsRL dn).1).length ((rawR dn).length + key.length + 1) = ofL ((unsRL dn).2 ++ (key ++ [61])) :=
       ext_mid data (rawD (unsRL dn).1) ((unsRL dn).2 ++ (key ++ [61])) (rawE ts ++ 10 :: rawR td) _ (by rw [hd2, hsp]; simp) (by rw [hsp]; simp; omega)
      have hfr : (rawD (unsRL dn).1).length ≤ (rawR dn).length + key.length + 1 := by rw [hsp, List.length_append]; omega
      have hpl := prsD_len (unsRL dn).1
      rw [unsRL_len] at hpl
      have HU := Lib.hid (fun (lv : Value) (w' : World) (h : PsB w.heap.size g data (rawD (unsRL dn).1).length lv (prsD (unsRL dn).1) w') => unit_anyK ((rawR dn).length + key.length + 1) ((rawR dn).length + key.length + 1 + (rawE ts).length) (ofL key) h hfr (by omega) (by omega) (by omega) (by omega))
      rw [hX4, hX3, show (⟨#[]⟩ : ByteArray) = ofL [] from rfl, ← prsD_snoc (unsRL dn).1 ⟨(unsRL dn).2 ++ (key ++ [61]), key, ts⟩, show (((rawR dn).length + key.length + 1 + (rawE ts).length : Nat) : Int) = ((rawR dn).length : Int) + (key.length : Int) + 1 + ((rawE ts).length : Int) by omega, show (((rawR dn).length + key.length + 1 : Nat) : Int) = ((rawR dn).length : Int) + (key.length : Int) + 1 by omega] at HU
      have HST : Hid (unsRL (dn ++ [.unit key ts]) = ((unsRL dn).1 ++ [⟨(unsRL dn).2 ++ (key ++ [61]), key, ts⟩], [10])) := by show _ = _; rw [unsRL_snoc]; rfl
      have HKS := Lib.hid (keys_snocU dn key ts)
      have HFR : Hid ((rawD (unsRL (dn ++ [.unit key ts])).1).length = (rawR dn).length + key.length + 1 + (rawE ts).length) := by
       show _ = _
       rw [HST.out, rawD_snoc, hsp]
       simp
       omega
      have HSM : Hid (((rawR dn).length : Int) + (key.length : Int) + 1 + ((rawE ts).length : Int) + 1 = ((rawR (dn ++ [.unit key ts])).length : Nat)) := by show _ = _; rw [HSUM.out, hrl]; omega
      have hmin : min (((rawR dn).length : Int) + (key.length : Int) + 1 + ((rawE ts).length : Int) + 1) (data.size : Int) = ((rawR dn).length : Int) + (key.length : Int) + 1 + ((rawE ts).length : Int) + 1 := by omega
      have hml : (ofL key).size ≤ maxLen := by rw [size_ofL]; unfold maxLen; omega
      have hkt : (ofL key).data.toList = key := by simp [ofL]
      have c1 : ¬ ((key.length : Int) < 1) := by omega
      have c2 : ¬ ((64 : Int) < (key.length : Int)) := by omega
      have c3 : ¬ ((data.size : Int) ≤ ((rawR dn).length : Int) + (key.length : Int)) := by omega
      have hto : (rawR dn).length + key.length + 1 + (rawE ts).length < data.size := by omega
      clear hR hidle hln hd1 hul h61 hd2 heR hsp hpl hrl hr0 hdd
      generalize ofL (key ++ 61 :: (rawE ts ++ 10 :: rawR td)) = u1 at hX1 CKy
      go_upto_region 9 with (go_at_call 148; refine (CS.out _ (by exact below_cell0 HM.out HB.out)).mono ?_; rintro e w1 ⟨rfl, hb1⟩; have HP1 := Lib.hid (HP.out.below hb1); have HS1 := Lib.hid (HS.out.below hb1); have HB1 := Lib.hid (HB.out.trans (hb1.mono HB.out.size)); clear hb1)
      have hlk := HS1.out.look (ofL key) hml
      rw [hkt, hnew] at hlk
      obtain ⟨w2, hup, hns2, hgr2⟩ := HS1.out.put (ofL key) hml (Nat.lt_of_le_of_lt hklen (by decide))
      rw [hkt, ← HKS.out] at hns2
      have HP2 := Lib.hid (HP1.out.map HS1.out hgr2)
      have HS2 := Lib.hid hns2
      have HB2 := Lib.hid (HB1.out.grown hgr2 HB1.out.size (fun j hj => by injection hj with hj; omega))
      clear hns2 hgr2 hkt hnew hml hklen
      go_upto_region 17 with (go_at_call 149; refine (CKy.out _).mono ?_; rintro e w' ⟨rfl, rfl⟩)
      rw [hX2]
      clear hlk hup hX1 t61 hX2
      go_upto_region 18 with (go_at_call 150; refine (CE.out _).mono ?_; rintro e w' ⟨rfl, rfl⟩)
      generalize ofL (rawE ts) = u3 at hX3 HDC
      go_wp2_with (first
       | (go_at_call 14; refine (HDC.out _).mono ?_; rintro e w3 ⟨v3, rfl, ho3, hb3⟩; obtain ⟨A3, c3, rfl⟩ := own_shape ho3; have HP3 := Lib.hid (HP2.out.below hb3); have HS3 := Lib.hid (HS2.out.below hb3); have HB3 := Lib.hid (HB2.out.trans (hb3.mono HB2.out.size)); clear ho3 hb3)
       | (go_at_call 145; refine (HU.out _ _ (by exact HP3.out)).mono ?_; rintro e w4 ⟨⟨v4, rfl⟩, lv4, hp4, hb4, hk4⟩; have HP4 := Lib.hid hp4; have HS4 := Lib.hid (HS3.out.keep HP3.out hk4); have HB4 := Lib.hid (HB3.out.trans hb4); clear hp4 hb4 hk4))
      rw [HSM.out]
      go_roundg td.length
      case measure => omega
      case rel =>
       refine ⟨dn ++ [RL.unit key ts], td, HME.out, rfl, ⟨lv4, ?_⟩, ?_, HB4.out, Nat.le_refl _⟩
       ·rw [HFR.out, HST.out]; exact HP4.out
       ·rw [show (keysRL (dn ++ [RL.unit key ts])).length = (keysRL dn).length + 1 by rw [HKS.out]; simp]; exact HS4.out
end Go.Proofs.YtfkojnofbpdjdaaGreatDoor

namespace Go.Proofs.YtfkojnofbpdjdaaGreatDoor
set_option maxRecDepth 100000
def FdEnd (s : List UInt8) : Prop := s = [] ∨ ∃ c r, s = c :: r ∧ (c = 44 ∨ c = 10)
theorem FdEnd.no34 {s : List UInt8} (h : FdEnd s) : s.head? ≠ some 34 := by
 rcases h with rfl | ⟨c, r, rfl, hc⟩
 ·simp
 ·rcases hc with rfl | rfl <;> simp
structure Fd where
 raw : List UInt8
 quo : Bool
def FdOk (f : Fd) : Prop :=
 if f.quo = true then ∃ q, f.raw = 34 :: (q ++ [34]) ∧ ∀ s : List UInt8, s.head? ≠ some 34 → endQ (q ++ 34 :: s) = q.length
 else ∀ c ∈ f.raw, c ≠ 34 ∧ c ≠ 44 ∧ c ≠ 10
def fdOf : Fl → Fd
 | .bare l => ⟨l, false⟩
 | .quo l => ⟨34 :: (l ++ [34]), true⟩
theorem fdOf_raw (f : Fl) : (fdOf f).raw = rawFl f := by cases f <;> rfl
theorem fdOf_ok (f : Fl) (h : FlOk f) : FdOk (fdOf f) := by
 cases f with
 | bare l => exact h
 | quo l =>
   show ∃ q, 34 :: (l ++ [34]) = 34 :: (q ++ [34]) ∧ _
   refine ⟨l, rfl, fun s hs => ?_⟩
   rw [endQ_all l _ h, endQ_stop s hs]
   rfl
def fdTs (ts : Els) : Fd := ⟨34 :: (rawE ts ++ [34]), true⟩
theorem fdTs_ok (ts : Els) (h : ∀ e ∈ ts, ElOk 3 e.1 e.2) : FdOk (fdTs ts) := by
 show ∃ q, 34 :: (rawE ts ++ [34]) = 34 :: (q ++ [34]) ∧ _
 exact ⟨rawE ts, rfl, fun s hs => endQ_raw s hs ts h⟩
def fdText : Fd := ⟨wText, false⟩
theorem fdText_ok : FdOk fdText := by
 show ∀ c ∈ wText, _
 decide
def joinC : List Fd → List UInt8
 | [] => []
 | [f] => f.raw
 | f :: g :: l => f.raw ++ 44 :: joinC (g :: l)
theorem joinC_cons (f : Fd) (l : List Fd) (h : l ≠ []) : joinC (f :: l) = f.raw ++ 44 :: joinC l := by
 cases l with
 | nil => exact absurd rfl h
 | cons g l => rfl
theorem joinC_pre : ∀ (a : List Fl) (m : List Fd), m ≠ [] → joinC (a.map fdOf ++ m) = rawPre a ++ joinC m
 | [], m, _ => by simp [rawPre]
 | f :: a, m, h => by
   rw [List.map_cons, List.cons_append, joinC_cons _ _ (by simp [h]), joinC_pre a m h, fdOf_raw]
   simp [rawPre]
theorem joinC_post : ∀ (f : Fd) (b : List Fl), joinC (f :: b.map fdOf) = f.raw ++ rawPost b
 | f, [] => by simp [joinC, rawPost]
 | f, g :: b => by
   rw [List.map_cons, joinC_cons _ _ (by simp), joinC_post (fdOf g) b, fdOf_raw]
   simp [rawPost]
def hdFs (a b : List Fl) : List Fd := a.map fdOf ++ fdText :: b.map fdOf
def rcFs (r : Rc) : List Fd := r.pre.map fdOf ++ fdTs r.ts :: r.post.map fdOf
theorem hdFs_raw (a b : List Fl) : joinC (hdFs a b) = rawHd a b := by
 unfold hdFs rawHd
 rw [joinC_pre _ _ (by simp), joinC_post]
 rfl
theorem rcFs_raw (r : Rc) : joinC (rcFs r) = rawRc r := by
 unfold rcFs rawRc
 rw [joinC_pre _ _ (by simp), joinC_post]
 show _ ++ ((34 :: (rawE r.ts ++ [34])) ++ rawPost r.post) = _
 simp
theorem hdFs_len (a b : List Fl) : (hdFs a b).length = a.length + 1 + b.length := by simp [hdFs]; omega
theorem rcFs_len (r : Rc) : (rcFs r).length = r.pre.length + 1 + r.post.length := by simp [rcFs]; omega
theorem hdFs_ok (a b : List Fl) (ha : ∀ f ∈ a, FlOk f) (hb : ∀ f ∈ b, FlOk f) : ∀ f ∈ hdFs a b, FdOk f := by
 intro f hf
 unfold hdFs at hf
 rcases List.mem_append.1 hf with hf | hf
 ·obtain ⟨g, hg, rfl⟩ := List.mem_map.1 hf
  exact fdOf_ok g (ha g hg)
 ·rcases List.mem_cons.1 hf with rfl | hf
  ·exact fdText_ok
  ·obtain ⟨g, hg, rfl⟩ := List.mem_map.1 hf
   exact fdOf_ok g (hb g hg)
theorem rcFs_ok (r : Rc) (ha : ∀ f ∈ r.pre, FlOk f) (hb : ∀ f ∈ r.post, FlOk f) (hr : ∀ e ∈ r.ts, ElOk 3 e.1 e.2) : ∀ f ∈ rcFs r, FdOk f := by
 intro f hf
 unfold rcFs at hf
 rcases List.mem_append.1 hf with hf | hf
 ·obtain ⟨g, hg, rfl⟩ := List.mem_map.1 hf
  exact fdOf_ok g (ha g hg)
 ·rcases List.mem_cons.1 hf with rfl | hf
  ·exact fdTs_ok _ hr
  ·obtain ⟨g, hg, rfl⟩ := List.mem_map.1 hf
   exact fdOf_ok g (hb g hg)
theorem hdFs_at (a b : List Fl) : (hdFs a b)[a.length]? = some fdText := by
 unfold hdFs
 rw [List.getElem?_append_right (by simp)]
 simp
theorem rcFs_at (r : Rc) : (rcFs r)[r.pre.length]? = some (fdTs r.ts) := by
 unfold rcFs
 rw [List.getElem?_append_right (by simp)]
 simp
theorem hdFs_other (a b : List Fl) (ha : ∀ f ∈ a, rawFl f ≠ wText) (hb : ∀ f ∈ b, rawFl f ≠ wText) (i : Nat) (f : Fd) (h : (hdFs a b)[i]? = some f) (hi : i ≠ a.length) : f.raw ≠ wText := by
 unfold hdFs at h
 by_cases h1 : i < a.length
 ·rw [List.getElem?_append_left (by simpa using h1), List.getElem?_map] at h
  obtain ⟨g, hg, rfl⟩ := Option.map_eq_some_iff.1 h
  rw [fdOf_raw]
  exact ha g (List.mem_of_getElem? hg)
 ·rw [List.getElem?_append_right (by simp; omega)] at h
  simp only [List.length_map] at h
  obtain ⟨j, hj⟩ : ∃ j, i - a.length = j + 1 := ⟨i - a.length - 1, by omega⟩
  rw [hj, List.getElem?_cons_succ, List.getElem?_map] at h
  obtain ⟨g, hg, rfl⟩ := Option.map_eq_some_iff.1 h
  rw [fdOf_raw]
  exact hb g (List.mem_of_getElem? hg)
end Go.Proofs.YtfkojnofbpdjdaaGreatDoor

namespace Go.Proofs.YtfkojnofbpdjdaaGreatDoor
set_option maxRecDepth 100000
open Go.RowKit
theorem u8_back (c : UInt8) : ((c.toNat : Nat) : Int).toNat.toUInt8 = c := by
 rw [Int.toNat_natCast]
 exact UInt8.ofNat_toNat
theorem idx3_no (c : UInt8) (h : c ≠ 34 ∧ c ≠ 44 ∧ c ≠ 10) : Lib.indexByte [34, 44, 10] c = -1 := by
 have e : ∀ d : UInt8, c ≠ d → (d == c) = false := fun d hd => by simpa using fun e : d = c => hd e.symm
 simp [Lib.indexByte, e 34 h.1, e 44 h.2.1, e 10 h.2.2]
theorem idx3_yes (c : UInt8) (h : c = 44 ∨ c = 10) : ∃ z : Int, Lib.indexByte [34, 44, 10] c = z ∧ ¬ z < 0 := by
 rcases h with rfl | rfl
 ·exact ⟨1, by decide, by decide⟩
 ·exact ⟨2, by decide, by decide⟩
theorem at_pre (data : ByteArray) (pre l : List UInt8) (hd : data.data.toList = pre ++ l) (k p : Nat) (h : k < l.length) (hp : p = pre.length + k) (h2 : p < data.size) : data[p] = l[k] := by
 subst hp
 have h3 : (pre ++ l)[pre.length + k]'(by simp; omega) = l[k] := by rw [List.getElem_append_right (by omega)]; simp
 have h4 : data.data.toList[pre.length + k]'(by rw [hd]; simp; omega) = l[k] := by simp only [hd]; exact h3
 exact h4
theorem u8_eqF (c d : UInt8) (h : c ≠ d) : ((c.toNat : Int) == (d.toNat : Int)) = false := by
 rw [beq_eq_false_iff_ne]; intro e; exact h (UInt8.toNat_inj.1 (by exact_mod_cast e))
def FdRet (n : Nat) (b : Bool) (w : World) (e : Ending) (w' : World) : Prop := e = .returned (.tuple #[.int .i64 (n : Nat), .bool b, .bool true]) ∧ Below w.heap.size w w'
theorem fd_bare (data : ByteArray) (pre r s : List UInt8) (w : World) (hd : data.data.toList = pre ++ (r ++ s)) (hr : ∀ c ∈ r, c ≠ 34 ∧ c ≠ 44 ∧ c ≠ 10) (hs : FdEnd s) (hsz : data.size ≤ 65536) :
 Calls Tryz.prog 177 #[.string data, .int .i64 (pre.length : Nat)] w (FdRet (pre.length + r.length) false w) := by
 obtain ⟨R, HRR⟩ : ∃ R : Ending → World → Prop, Hid (R = FdRet (pre.length + r.length) false w) := ⟨_, rfl⟩
 rw [← HRR.out]
 have hlen : data.size = pre.length + (r.length + s.length) := by rw [Lib.size_eq, hd]; simp
 have HAT := Lib.hid (at_pre data pre (r ++ s) hd)
 have HR := Lib.hid hr
 have HS := Lib.hid hs
 have H0 : Hid (∀ h : pre.length < data.size, ((data[pre.length].toNat : Int) == 34) = false) := fun h => by
  have h1 := HAT.out 0 pre.length (by simp; omega) rfl h
  rw [h1]
  refine u8_eqF _ 34 ?_
  cases r with
  | cons c r => exact (hr c (by simp)).1
  | nil =>
    rcases hs with rfl | ⟨c, q, rfl, hc⟩
    ·simp at hlen; omega
    ·rcases hc with rfl | rfl
     ·show (44 : UInt8) ≠ 34; decide
     ·show (10 : UInt8) ≠ 34; decide
 have hle : pre.length + r.length ≤ data.size := by omega
 clear hd hr hs
 generalize hP : pre.length = P at *
 have HP := Lib.hid hP
 clear hP
 obtain ⟨wo, HWO⟩ : ∃ wo, Hid (wo = w) := ⟨w, rfl⟩
 have hcase : (P < data.size ∧ (P : Int) < (data.size : Int)) ∨ (¬ P < data.size ∧ ¬ (P : Int) < (data.size : Int)) := by omega
 have HL := Lib.hid hlen
 clear hlen
 rcases hcase with ⟨hps, hpsi⟩ | ⟨hps, hpsi⟩
 ·have t0 := H0.out hps
  go_enter Tryz.func177, Tryz.ntmps177
  go_wp2_with fail
  go_loopg [4] (r.length + 1) (fun gk iv wr => ∃ k : Nat, iv = .int .i64 (P + k : Nat) ∧ k ≤ r.length ∧ Hid (wr = wo) ∧ r.length + 1 - k ≤ gk)
  case atStart => exact ⟨0, rfl, Nat.zero_le _, HWO.out.symm, Nat.le_refl _⟩
  case round =>
   obtain ⟨k, rfl, hk, HW, hgk⟩ := hrel
   obtain ⟨p, hpp⟩ : ∃ p, p = P + k := ⟨_, rfl⟩
   rw [← hpp]
   try clear hpsi
   try clear hps
   try clear t0
   by_cases hkl : k < r.length
   ·have hp : p < data.size := by omega
    have hpi : (p : Int) < (data.size : Int) := by omega
    have hc : data[p] = r[k] := (HAT.out k p (by simp; omega) hpp hp).trans (List.getElem_append_left hkl)
    have hn := HR.out r[k] (List.getElem_mem hkl)
    rw [← hc] at hn
    have CI := Lib.hid (fun W => idx_call ⟨#[34, 44, 10]⟩ data[p].toNat (-1) (by rw [u8_back]; exact idx3_no _ hn) W)
    have HS2 : Hid ((p : Int) + 1 = ((P + (k + 1) : Nat) : Int)) := by show _ = _; omega
    clear hc hn hpp
    go_wp2_with (go_at_call 126; refine (CI.out _).mono ?_; rintro e w' ⟨rfl, rfl⟩)
    rw [HS2.out]
    go_roundg (r.length - k)
    case measure => omega
    case rel => exact ⟨k + 1, rfl, hkl, HW.out, by omega⟩
   ·obtain rfl : k = r.length := by omega
    have hfin : Hid ((p : Nat) = P + r.length) := hpp
    have hsl := HL.out
    rcases HS.out with rfl | ⟨c, q, rfl, hcc⟩
    ·have hpz : (p : Int) = (data.size : Int) := by simp at hsl; omega
     have hnl : ¬ (p : Int) < (data.size : Int) := by omega
     have heq : ((p : Int) == (data.size : Int)) = true := by rw [beq_iff_eq]; exact hpz
     clear hpp hpz hsl
     go_wp2_with fail
     go_quiet (fail)
     go_wp2_with fail
     go_ret3
     rw [HRR.out]
     refine ⟨?_, by rw [(HW.out.trans HWO.out)]; exact below_drewN (Below.refl _ _) _⟩
     show Ending.returned (.tuple #[.int .i64 (p : Nat), .bool false, .bool true]) = _
     rw [hfin.out]
    ·simp at hsl
     have hp : p < data.size := by omega
     have hpi : (p : Int) < (data.size : Int) := by omega
     have heq : ((p : Int) == (data.size : Int)) = false := by rw [beq_eq_false_iff_ne]; omega
     have hc : data[p] = c := (HAT.out r.length p (by simp) hpp hp).trans (by rw [List.getElem_append_right (Nat.le_refl _)]; simp)
     obtain ⟨z, hz, hzn⟩ := idx3_yes c hcc
     have CI := Lib.hid (fun W => idx_call ⟨#[34, 44, 10]⟩ data[p].toNat z (by rw [u8_back, hc]; exact hz) W)
     rcases hcc with rfl | rfl
     ·have e44 : ((data[p].toNat : Int) == 44) = true := by rw [hc]; rfl
      clear hc hpp hsl hz
      go_wp2_with (go_at_call 126; refine (CI.out _).mono ?_; rintro e w' ⟨rfl, rfl⟩)
      go_quiet (fail)
      go_wp2_with fail
      go_ret3
      rw [HRR.out]
      refine ⟨?_, by rw [(HW.out.trans HWO.out)]; exact below_drewN (Below.refl _ _) _⟩
      show Ending.returned (.tuple #[.int .i64 (p : Nat), .bool false, .bool true]) = _
      rw [hfin.out]
     ·have e44 : ((data[p].toNat : Int) == 44) = false := by rw [hc]; rfl
      have e10 : ((data[p].toNat : Int) == 10) = true := by rw [hc]; rfl
      clear hc hpp hsl hz
      go_wp2_with (go_at_call 126; refine (CI.out _).mono ?_; rintro e w' ⟨rfl, rfl⟩)
      go_quiet (fail)
      go_wp2_with fail
      go_ret3
      rw [HRR.out]
      refine ⟨?_, by rw [(HW.out.trans HWO.out)]; exact below_drewN (Below.refl _ _) _⟩
      show Ending.returned (.tuple #[.int .i64 (p : Nat), .bool false, .bool true]) = _
      rw [hfin.out]
 ·go_enter Tryz.func177, Tryz.ntmps177
  go_wp2_with fail
  go_loopg [4] (r.length + 1) (fun gk iv wr => ∃ k : Nat, iv = .int .i64 (P + k : Nat) ∧ k ≤ r.length ∧ Hid (wr = wo) ∧ r.length + 1 - k ≤ gk)
  case atStart => exact ⟨0, rfl, Nat.zero_le _, HWO.out.symm, Nat.le_refl _⟩
  case round =>
   obtain ⟨k, rfl, hk, HW, hgk⟩ := hrel
   obtain ⟨p, hpp⟩ : ∃ p, p = P + k := ⟨_, rfl⟩
   rw [← hpp]
   try clear hpsi
   try clear hps
   try clear t0
   by_cases hkl : k < r.length
   ·have hp : p < data.size := by omega
    have hpi : (p : Int) < (data.size : Int) := by omega
    have hc : data[p] = r[k] := (HAT.out k p (by simp; omega) hpp hp).trans (List.getElem_append_left hkl)
    have hn := HR.out r[k] (List.getElem_mem hkl)
    rw [← hc] at hn
    have CI := Lib.hid (fun W => idx_call ⟨#[34, 44, 10]⟩ data[p].toNat (-1) (by rw [u8_back]; exact idx3_no _ hn) W)
    have HS2 : Hid ((p : Int) + 1 = ((P + (k + 1) : Nat) : Int)) := by show _ = _; omega
    clear hc hn hpp
    go_wp2_with (go_at_call 126; refine (CI.out _).mono ?_; rintro e w' ⟨rfl, rfl⟩)
    rw [HS2.out]
    go_roundg (r.length - k)
    case measure => omega
    case rel => exact ⟨k + 1, rfl, hkl, HW.out, by omega⟩
   ·obtain rfl : k = r.length := by omega
    have hfin : Hid ((p : Nat) = P + r.length) := hpp
    have hsl := HL.out
    rcases HS.out with rfl | ⟨c, q, rfl, hcc⟩
    ·have hpz : (p : Int) = (data.size : Int) := by simp at hsl; omega
     have hnl : ¬ (p : Int) < (data.size : Int) := by omega
     have heq : ((p : Int) == (data.size : Int)) = true := by rw [beq_iff_eq]; exact hpz
     clear hpp hpz hsl
     go_wp2_with fail
     go_quiet (fail)
     go_wp2_with fail
     go_ret3
     rw [HRR.out]
     refine ⟨?_, by rw [(HW.out.trans HWO.out)]; exact below_drewN (Below.refl _ _) _⟩
     show Ending.returned (.tuple #[.int .i64 (p : Nat), .bool false, .bool true]) = _
     rw [hfin.out]
    ·simp at hsl
     have hp : p < data.size := by omega
     have hpi : (p : Int) < (data.size : Int) := by omega
     have heq : ((p : Int) == (data.size : Int)) = false := by rw [beq_eq_false_iff_ne]; omega
     have hc : data[p] = c := (HAT.out r.length p (by simp) hpp hp).trans (by rw [List.getElem_append_right (Nat.le_refl _)]; simp)
     obtain ⟨z, hz, hzn⟩ := idx3_yes c hcc
     have CI := Lib.hid (fun W => idx_call ⟨#[34, 44, 10]⟩ data[p].toNat z (by rw [u8_back, hc]; exact hz) W)
     rcases hcc with rfl | rfl
     ·have e44 : ((data[p].toNat : Int) == 44) = true := by rw [hc]; rfl
      clear hc hpp hsl hz
      go_wp2_with (go_at_call 126; refine (CI.out _).mono ?_; rintro e w' ⟨rfl, rfl⟩)
      go_quiet (fail)
      go_wp2_with fail
      go_ret3
      rw [HRR.out]
      refine ⟨?_, by rw [(HW.out.trans HWO.out)]; exact below_drewN (Below.refl _ _) _⟩
      show Ending.returned (.tuple #[.int .i64 (p : Nat), .bool false, .bool true]) = _
      rw [hfin.out]
     ·have e44 : ((data[p].toNat : Int) == 44) = false := by rw [hc]; rfl
      have e10 : ((data[p].toNat : Int) == 10) = true := by rw [hc]; rfl
      clear hc hpp hsl hz
      go_wp2_with (go_at_call 126; refine (CI.out _).mono ?_; rintro e w' ⟨rfl, rfl⟩)
      go_quiet (fail)
      go_wp2_with fail
      go_ret3
      rw [HRR.out]
      refine ⟨?_, by rw [(HW.out.trans HWO.out)]; exact below_drewN (Below.refl _ _) _⟩
      show Ending.returned (.tuple #[.int .i64 (p : Nat), .bool false, .bool true]) = _
      rw [hfin.out]
theorem endQ_34 (l : List UInt8) (k : Nat) (h : k < l.length) (hc : l[k] = 34) : (∃ h1 : k + 1 < l.length, l[k + 1] = 34 ∧ endQ (l.drop k) = 2 + endQ (l.drop (k + 2))) ∨ ((∀ h1 : k + 1 < l.length, l[k + 1] ≠ 34) ∧ endQ (l.drop k) = 0) := by
 rw [List.drop_eq_getElem_cons h, hc]
 by_cases h1 : k + 1 < l.length
 ·rw [List.drop_eq_getElem_cons h1]
  by_cases h2 : l[k + 1] = 34
  ·left
   refine ⟨h1, h2, ?_⟩
   rw [h2, endQ_two]
  ·right
   exact ⟨fun _ => h2, endQ_stop _ (fun e => h2 (Option.some.inj e))⟩
 ·right
  rw [List.drop_of_length_le (by omega)]
  exact ⟨fun h => absurd h h1, by decide⟩
theorem endQ_step (l : List UInt8) (k : Nat) (h : k < l.length) (hc : l[k] ≠ 34) : endQ (l.drop k) = 1 + endQ (l.drop (k + 1)) := by
 rw [List.drop_eq_getElem_cons h, endQ_one _ _ hc]
theorem fd_quo (data : ByteArray) (pre q s : List UInt8) (w : World) (hd : data.data.toList = pre ++ (34 :: (q ++ 34 :: s))) (hq : endQ (q ++ 34 :: s) = q.length) (hs : FdEnd s) (hsz : data.size ≤ 65536) :
 Calls Tryz.prog 177 #[.string data, .int .i64 (pre.length : Nat)] w (FdRet (pre.length + q.length + 2) true w) := by
 obtain ⟨R, HRR⟩ : ∃ R : Ending → World → Prop, Hid (R = FdRet (pre.length + q.length + 2) true w) := ⟨_, rfl⟩
 rw [← HRR.out]
 have hlen : data.size = pre.length + 1 + (q.length + 1 + s.length) := by rw [Lib.size_eq, hd]; simp; omega
 have HA0 := Lib.hid (fun h => show ((data[pre.length].toNat : Int) == 34) = true by rw [at_pre data pre (34 :: (q ++ 34 :: s)) hd 0 pre.length (by simp) rfl h]; rfl)
 have HAT := Lib.hid (at_pre data (pre ++ [34]) (q ++ 34 :: s) (by rw [hd]; simp))
 have hpl : (pre ++ [(34 : UInt8)]).length = pre.length + 1 := by simp
 rw [hpl] at HAT
 clear hpl
 have hLl : (q ++ 34 :: s).length = q.length + 1 + s.length := by simp; omega
 have H0 : Hid (0 + endQ ((q ++ 34 :: s).drop 0) = q.length) := by show _ = _; rw [List.drop_zero, Nat.zero_add]; exact hq
 have HEND : Hid (∀ h : q.length < (q ++ 34 :: s).length, s = [] → (q ++ 34 :: s).length = q.length + 1) := fun _ e => by rw [hLl, e]; rfl
 have HEN2 : Hid (∀ c r, s = c :: r → ∀ h : q.length + 1 < (q ++ 34 :: s).length, (q ++ 34 :: s)[q.length + 1] = c) := fun c r e h => by
  subst e
  rw [List.getElem_append_right (by omega)]
  simp
 have HS := Lib.hid hs
 clear hd hq hs
 generalize hP : pre.length = P at *
 clear hP
 generalize hL : q ++ 34 :: s = L at *
 clear hL
 generalize hE : q.length = E at *
 clear hE
 have hpsi : (P : Int) < (data.size : Int) := by omega
 have hps : P < data.size := by omega
 have t0 := HA0.out hps
 have HLN := Lib.hid hlen
 have HLL := Lib.hid hLl
 clear hlen hLl
 obtain ⟨wo, HWO⟩ : ∃ wo, Hid (wo = w) := ⟨w, rfl⟩
 go_enter Tryz.func177, Tryz.ntmps177
 go_wp2_with fail
 rw [show (P : Int) + 1 = ((P + 1 + 0 : Nat) : Int) by omega]
 go_loopg [4] (E + 1) (fun gk iv wr => ∃ k : Nat, iv = .int .i64 (P + 1 + k : Nat) ∧ k ≤ E ∧ Hid (k + endQ (L.drop k) = E) ∧ Hid (wr = wo) ∧ E + 1 - k ≤ gk)
 case atStart => exact ⟨0, rfl, Nat.zero_le _, H0.out, HWO.out.symm, Nat.le_refl _⟩
 case round =>
  obtain ⟨k, rfl, hk, HK, HW, hgk⟩ := hrel
  clear H0
  obtain ⟨p, hpp⟩ : ∃ p, p = P + 1 + k := ⟨_, rfl⟩
  rw [← hpp]
  have hkl : k < L.length := by have := HLL.out; omega
  have hp : p < data.size := by have := HLL.out; have := HLN.out; omega
  have hpi : (p : Int) < (data.size : Int) := by omega
  have hc := HAT.out k p hkl hpp hp
  by_cases h34 : L[k] = 34
  ·have t1 : ((data[p].toNat : Int) != 34) = false := by rw [hc, h34]; rfl
   rcases endQ_34 L k hkl h34 with ⟨h1, h2, h3⟩ | ⟨h2, h3⟩
   ·have hp1 : p + 1 < data.size := by have := HLL.out; have := HLN.out; omega
    have hp1i : (p : Int) + 1 < (data.size : Int) := by omega
    have hc1 := HAT.out (k + 1) (p + 1) h1 (by omega) hp1
    have t2 : ((data[p + 1].toNat : Int) == 34) = true := by rw [hc1, h2]; rfl
    have HK2 : Hid (k + 2 + endQ (L.drop (k + 2)) = E) := by show _ = _; have := HK.out; omega
    have hk2 : k + 2 ≤ E := by have := HK2.out; omega
    have HS2 : Hid ((p : Int) + 2 = ((P + 1 + (k + 2) : Nat) : Int)) := by show _ = _; omega
    clear hc hc1 hpp h34 h2
    go_wp2_with fail
    rw [HS2.out]
    go_roundg (E + 1 - (k + 2))
    case measure => omega
    case rel => exact ⟨k + 2, rfl, hk2, HK2.out, HW.out, Nat.le_refl _⟩
   ·have hke : k = E := by have := HK.out; omega
    subst hke
    have hfin : Hid ((p : Int) + 1 = ((P + k + 2 : Nat) : Int)) := by show _ = _; omega
    rcases HS.out with rfl | ⟨c, r, rfl, hcc⟩
    ·have hz : p + 1 = data.size := by have := HEND.out hkl rfl; have := HLN.out; simp at this; omega
     have hzi : (data.size : Int) ≤ (p : Int) + 1 := by omega
     have hge : ¬ (data.size : Int) ≤ (p : Int) := by omega
     have heq : ((p : Int) + 1 == (data.size : Int)) = true := by rw [beq_iff_eq]; omega
     have hzh := Lib.hid hz
     clear hc hpp h34 h2 hz
     go_wp2_with fail
     go_quiet (fail)
     go_wp2_with fail
     go_ret3
     rw [HRR.out]
     refine ⟨?_, by rw [(HW.out.trans HWO.out)]; exact below_drewN (Below.refl _ _) _⟩
     show Ending.returned (.tuple #[.int .i64 ((p : Int) + 1), .bool true, .bool true]) = _
     rw [hfin.out]
    ·have h1 : k + 1 < L.length := by have := HLL.out; simp at this; omega
     have hp1 : p + 1 < data.size := by have := HLL.out; have := HLN.out; omega
     have hp1i : (p : Int) + 1 < (data.size : Int) := by omega
     have hc1 := (HAT.out (k + 1) (p + 1) h1 (by omega) hp1).trans (HEN2.out c r rfl h1)
     have hge : ¬ (data.size : Int) ≤ (p : Int) := by omega
     have heq : ((p : Int) + 1 == (data.size : Int)) = false := by rw [beq_eq_false_iff_ne]; omega
     rcases hcc with rfl | rfl
     ·have t2 : ((data[p + 1].toNat : Int) == 34) = false := by rw [hc1]; rfl
      have e44 : ((data[p + 1].toNat : Int) == 44) = true := by rw [hc1]; rfl
      clear hc hc1 hpp h34 h2
      go_wp2_with fail
      go_quiet (fail)
      go_wp2_with fail
      go_ret3
      rw [HRR.out]
      refine ⟨?_, by rw [(HW.out.trans HWO.out)]; exact below_drewN (Below.refl _ _) _⟩
      show Ending.returned (.tuple #[.int .i64 ((p : Int) + 1), .bool true, .bool true]) = _
      rw [hfin.out]
     ·have t2 : ((data[p + 1].toNat : Int) == 34) = false := by rw [hc1]; rfl
      have e44 : ((data[p + 1].toNat : Int) == 44) = false := by rw [hc1]; rfl
      have e10 : ((data[p + 1].toNat : Int) == 10) = true := by rw [hc1]; rfl
      clear hc hc1 hpp h34 h2
      go_wp2_with fail
      go_quiet (fail)
      go_wp2_with fail
      go_ret3
      rw [HRR.out]
      refine ⟨?_, by rw [(HW.out.trans HWO.out)]; exact below_drewN (Below.refl _ _) _⟩
      show Ending.returned (.tuple #[.int .i64 ((p : Int) + 1), .bool true, .bool true]) = _
      rw [hfin.out]
  ·have t1 : ((data[p].toNat : Int) != 34) = true := by
    rw [hc, bne_iff_ne]; intro e; exact h34 (UInt8.toNat_inj.1 (by exact_mod_cast e))
   have HK2 : Hid (k + 1 + endQ (L.drop (k + 1)) = E) := by show _ = _; have := HK.out; have := endQ_step L k hkl h34; omega
   have hk2 : k + 1 ≤ E := by have := HK2.out; omega
   have HS2 : Hid ((p : Int) + 1 = ((P + 1 + (k + 1) : Nat) : Int)) := by show _ = _; omega
   clear hc hpp h34
   go_wp2_with fail
   rw [HS2.out]
   go_roundg (E + 1 - (k + 1))
   case measure => omega
   case rel => exact ⟨k + 1, rfl, hk2, HK2.out, HW.out, Nat.le_refl _⟩
theorem fd_any (data : ByteArray) (pre s : List UInt8) (f : Fd) (w : World) (hd : data.data.toList = pre ++ (f.raw ++ s)) (hf : FdOk f) (hs : FdEnd s) (hsz : data.size ≤ 65536) :
 Calls Tryz.prog 177 #[.string data, .int .i64 (pre.length : Nat)] w (FdRet (pre.length + f.raw.length) f.quo w) := by
 obtain ⟨raw, quo⟩ := f
 unfold FdOk at hf
 cases quo with
 | false => exact fd_bare data pre raw s w hd hf hs hsz
 | true =>
   obtain ⟨q, h1, h2⟩ := hf
   simp only at h1 hd ⊢
   subst h1
   have := fd_quo data pre q s w (by rw [hd]; simp) (h2 s hs.no34) hs hsz
   rw [show pre.length + (34 :: (q ++ [34])).length = pre.length + q.length + 2 by simp; omega]
   exact this
end Go.Proofs.YtfkojnofbpdjdaaGreatDoor

namespace Go.Proofs.YtfkojnofbpdjdaaGreatDoor
set_option maxRecDepth 100000
open Go.RowKit
def TbX (gt g : Nat) (data : ByteArray) (rec cols col tx : Nat) (w : World) : Prop :=
 w.heap[gt]? = some (.cells #[.string data, .pointer (some ⟨g, 0, none⟩), .int .i64 rec, .int .i64 cols, .int .i64 col, .int .i64 tx] 219)
section
variable {gt g : Nat} {data : ByteArray} {rec cols col tx : Nat} {w w' : World}
theorem TbX.cells (h : TbX gt g data rec cols col tx w) : w.cell? ⟨gt, 0, none⟩ = some (.string data) ∧ w.cell? ⟨gt, 1, none⟩ = some (.pointer (some ⟨g, 0, none⟩)) ∧ w.cell? ⟨gt, 2, none⟩ = some (.int .i64 rec) ∧ w.cell? ⟨gt, 3, none⟩ = some (.int .i64 cols) ∧ w.cell? ⟨gt, 4, none⟩ = some (.int .i64 col) ∧ w.cell? ⟨gt, 5, none⟩ = some (.int .i64 tx) :=
 ⟨box_cell (l := [_, _, _, _, _, _]) h 0 rfl, box_cell (l := [_, _, _, _, _, _]) h 1 rfl, box_cell (l := [_, _, _, _, _, _]) h 2 rfl, box_cell (l := [_, _, _, _, _, _]) h 3 rfl, box_cell (l := [_, _, _, _, _, _]) h 4 rfl, box_cell (l := [_, _, _, _, _, _]) h 5 rfl⟩
theorem TbX.frozen (h : TbX gt g data rec cols col tx w) (j : Nat) : w.frozen? ⟨gt, j, none⟩ = false := frozen_rowM h j
theorem TbX.gsz (h : TbX gt g data rec cols col tx w) : gt < w.heap.size := (Array.getElem?_eq_some_iff.1 h).1
theorem TbX.below (h : TbX gt g data rec cols col tx w) (hb : Below w.heap.size w w') : TbX gt g data rec cols col tx w' := (hb.block gt h.gsz).trans h
theorem TbX.set2 (h : TbX gt g data rec cols col tx w) (n : Nat) : TbX gt g data n cols col tx (w.setCell ⟨gt, 2, none⟩ (.int .i64 n)) := by
 unfold TbX at h ⊢
 rw [set_row h]; rfl
theorem TbX.set3 (h : TbX gt g data rec cols col tx w) (n : Nat) : TbX gt g data rec n col tx (w.setCell ⟨gt, 3, none⟩ (.int .i64 n)) := by
 unfold TbX at h ⊢
 rw [set_row h]; rfl
theorem TbX.set4 (h : TbX gt g data rec cols col tx w) (n : Nat) : TbX gt g data rec cols n tx (w.setCell ⟨gt, 4, none⟩ (.int .i64 n)) := by
 unfold TbX at h ⊢
 rw [set_row h]; rfl
theorem TbX.set5 (h : TbX gt g data rec cols col tx w) (n : Nat) : TbX gt g data rec cols col n (w.setCell ⟨gt, 5, none⟩ (.int .i64 n)) := by
 unfold TbX at h ⊢
 rw [set_row h]; rfl
end
theorem hdr_other {gt g : Nat} {data : ByteArray} {cols col tx : Nat} {w : World} (h : TbX gt g data 0 cols col tx w) (a b k : Nat) (hab : a ≤ b) (hb : b ≤ data.size) (hsz : data.size ≤ 65536) (hk : k ≤ 65536) (hu : (data.extract a b).toList ≠ wText) :
 Calls Tryz.prog 178 #[.pointer (some ⟨gt, 0, none⟩), .int .i64 a, .int .i64 b, .int .i64 k] w (fun e w' => (∃ v, e = .returned v) ∧ TbX gt g data 0 (k + 1) col tx w' ∧ Mod (fun i => i = gt) w w') := by
 obtain ⟨q0, q1, q2, q3, q4, q5⟩ := h.cells
 have y3 := h.frozen 3
 have hne : ((data.extract a b).toList == [116, 101, 120, 116]) = false := by
  rw [beq_eq_false_iff_ne]; exact hu
 have HS := Lib.hid (h.set3 (k + 1))
 have HM := Lib.hid (Mod.set w gt 3 (.int .i64 ((k + 1 : Nat) : Int)))
 rw [show ((k + 1 : Nat) : Int) = (k : Int) + 1 by omega] at HS HM
 have hba : b ≤ data.size := hb
 clear h hu
 go_enter Tryz.func178, Tryz.ntmps178
 go_wp2_with fail
 refine bodyPost_end (results_none rfl _ _ _) rfl ?_
 exact ⟨⟨_, rfl⟩, HS.out, HM.out⟩
theorem hdr_text {gt g : Nat} {data : ByteArray} {cols col tx : Nat} {w : World} (h : TbX gt g data 0 cols col tx w) (a b k : Nat) (hab : a ≤ b) (hb : b ≤ data.size) (hsz : data.size ≤ 65536) (hk : k ≤ 65536) (htx : tx ≤ 65536) (hu : (data.extract a b).toList = wText) :
 Calls Tryz.prog 178 #[.pointer (some ⟨gt, 0, none⟩), .int .i64 a, .int .i64 b, .int .i64 k] w (fun e w' => (∃ v, e = .returned v) ∧ TbX gt g data 0 (k + 1) k (tx + 1) w' ∧ Mod (fun i => i = gt) w w') := by
 obtain ⟨q0, q1, q2, q3, q4, q5⟩ := h.cells
 have y3 := h.frozen 3
 have y4 := h.frozen 4
 have y5 := h.frozen 5
 have hne : ((data.extract a b).toList == [116, 101, 120, 116]) = true := by
  rw [beq_iff_eq]; exact hu
 have h5 := h.set5 (tx + 1)
 have h4 := h5.set4 k
 have HS := Lib.hid (h4.set3 (k + 1))
 have HM := Lib.hid (((Mod.set w gt 5 (.int .i64 ((tx + 1 : Nat) : Int))).trans (Mod.set _ gt 4 (.int .i64 (k : Int))) (fun i hi _ => hi)).trans (Mod.set _ gt 3 (.int .i64 ((k + 1 : Nat) : Int))) (fun i hi _ => hi))
 rw [show ((k + 1 : Nat) : Int) = (k : Int) + 1 by omega, show ((tx + 1 : Nat) : Int) = (tx : Int) + 1 by omega] at HS HM
 rw [show ((tx + 1 : Nat) : Int) = (tx : Int) + 1 by omega] at h5 h4
 obtain ⟨_, _, _, z3, z4, z5⟩ := h5.cells
 obtain ⟨_, _, _, x3, x4, x5⟩ := h4.cells
 clear h hu h5 h4
 go_enter Tryz.func178, Tryz.ntmps178
 go_wp2_with fail
 refine bodyPost_end (results_none rfl _ _ _) rfl ?_
 exact ⟨⟨_, rfl⟩, HS.out, HM.out⟩
end Go.Proofs.YtfkojnofbpdjdaaGreatDoor

namespace Go.Proofs.YtfkojnofbpdjdaaGreatDoor
set_option maxRecDepth 100000
open Go.RowKit
theorem ldS_ptr {w : World} {b o g : Nat} (h : w.cell? ⟨b, o, none⟩ = some (.pointer (some ⟨g, 0, none⟩))) : (Instr.loadAt 205 (.pointer (some ⟨b, o, none⟩))).run Tryz.prog w = .ok (.pointer (some ⟨g, 0, none⟩)) w := by
 go_simp
theorem tf_other {gt g : Nat} {data : ByteArray} {rec cols col tx : Nat} {w : World} (h : TbX gt g data rec cols col tx w) (a b k : Nat) (q : Bool) (hk : k < cols) (hc : k ≠ col) :
 Calls Tryz.prog 179 #[.pointer (some ⟨gt, 0, none⟩), .int .i64 a, .int .i64 b, .int .i64 k, .bool q] w (fun e w' => e = .returned (.tuple #[.int .i64 0, .int .i64 0]) ∧ w = w') := by
 obtain ⟨q0, q1, q2, q3, q4, q5⟩ := h.cells
 have t1 : ¬ ((cols : Int) ≤ (k : Int)) := by omega
 have t2 : ((k : Int) == (col : Int)) = false := by rw [beq_eq_false_iff_ne]; omega
 have t3 : ((k : Int) != (col : Int)) = true := by rw [bne_iff_ne]; omega
 clear h
 go_enter Tryz.func179, Tryz.ntmps179
 go_wp2_with fail
 go_ret2
 exact ⟨rfl, rfl⟩
theorem tf_text {B gt g : Nat} {data : ByteArray} {rec cols col tx fr : Nat} {lv : Value} {ps : List Pt} {w : World} (h : TbX gt g data rec cols col tx w) (hp : PsB B g data fr lv ps w) (hgg : gt ≠ g) (a b b1 : Nat) (ts : Els)
 (hb1 : b = b1 + 1) (hts : data.extract (a + 1) b1 = ofL (rawE ts)) (hraw : RawOk 3 ts) (hfr : fr ≤ a + 1) (hab : a + 1 ≤ b1) (hb : b ≤ data.size) (hsz : data.size ≤ 65536) (hrec : rec < 100) (hcol : col < cols) (hps : ps.length ≤ 100000) :
 Calls Tryz.prog 179 #[.pointer (some ⟨gt, 0, none⟩), .int .i64 a, .int .i64 b, .int .i64 col, .bool true] w (fun e w' => e = .returned (.tuple #[.int .i64 0, .int .i64 0]) ∧ (∃ lv', PsB B g data b1 lv' (ps ++ [⟨false, ofL [], data.extract fr (a + 1)⟩, ⟨true, ofL (Lib.decDigits rec), ofL (rawE ts)⟩]) w') ∧ TbX gt g data rec cols col tx w' ∧ Below B w w') := by
 obtain ⟨q0, q1, q2, q3, q4, q5⟩ := h.cells
 have HDC := Lib.hid (fun W => shDecode_any (ofL (rawE ts)) ts W ⟨by simp [ofL], hraw.els, hraw.len, by rw [← hts, ByteArray.size_extract]; omega⟩)
 have HU := Lib.hid (fun (w' : World) (h : PsB B g data fr lv ps w') => unit_anyK (a + 1) b1 (ofL (Lib.decDigits rec)) h hfr hab (by omega) (by omega) (by omega))
 rw [hts, show (⟨#[]⟩ : ByteArray) = ofL [] from rfl, show ((a + 1 : Nat) : Int) = (a : Int) + 1 by omega] at HU
 have HIT := Lib.hid (fun w => Tryz.strconv_Itoa_small rec hrec w)
 rw [show (⟨(Lib.decDigits rec).toArray⟩ : ByteArray) = ofL (Lib.decDigits rec) from rfl] at HIT
 have HT := Lib.hid h
 have HP := Lib.hid hp
 have HNA := Lib.hid (own_apart hp.own h (by decide))
 have t1 : ¬ ((cols : Int) ≤ (col : Int)) := by omega
 have t2 : ((col : Int) == (col : Int)) = true := by simp
 have t3 : ((col : Int) != (col : Int)) = false := by simp
 have e1 : (b : Int) - 1 = (b1 : Int) := by omega
 have hb1s : b1 ≤ data.size := by omega
 have hbi : (b : Int) ≤ 65536 := by omega
 clear h hp hraw hb1
 generalize ofL (rawE ts) = u3 at hts HDC HU
 go_enter Tryz.func179, Tryz.ntmps179
 go_upto_region 8 with (go_at_call 15; refine (HDC.out _).mono ?_; rintro e w3 ⟨v3, rfl, ho3, hb3⟩; obtain ⟨A3, c3, rfl⟩ := own_shape ho3; have HT3 := Lib.hid (HT.out.below hb3); have HP3 := Lib.hid (HP.out.below hb3); have HB3 := Lib.hid (hb3.mono (Nat.le_trans HP.out.lt (Nat.le_of_lt HP.out.gsz))); clear ho3 hb3)
 have ew1 : IntKind.i64.wrap ((a : Int) + 1) = (a : Int) + 1 := by rw [IntKind.wrap_i64]; omega
 have ew2 : IntKind.i64.wrap ((b : Int) - 1) = (b1 : Int) := by rw [IntKind.wrap_i64]; omega
 have ew3 : IntKind.i64.wrap (b1 : Int) = (b1 : Int) := by rw [IntKind.wrap_i64]; omega
 obtain ⟨_, z1, z2, _, _, _⟩ := HT3.out.cells
 -- REGION
 refine wp_region_at 14 #[false, false, false, false, false, false, false, false, false, false, false, false, false, false] rfl rfl (by kernel_rfl) ?_
 refine zzM 0 (.pointer (some ⟨gt, 0, none⟩)) (some 61) rfl ?_
 refine zzA 1 (.pointer (some ⟨gt, 0, none⟩)) (some 62) rfl (fun _ => ex_nilCheck _ _ rfl (by kernel_rfl)) ?_
 refine zzA 2 (.pointer (some ⟨gt, 1, none⟩)) (some 63) rfl (fun _ => ex_fieldAddr 219 _ 1 (.pointer (some ⟨gt, 0, none⟩)) _ rfl (by kernel_rfl) (by go_simp)) ?_
 refine zzM 4 (.int .i64 (a : Int)) (some 65) rfl ?_
 refine zzA 5 (.int .i64 ((a : Int) + 1)) (some 66) rfl (fun _ => ex_binOp .add 3 3 _ _ (.int .i64 (a : Int)) (.int .i64 1) _ rfl (by kernel_rfl) (by kernel_rfl) (by go_simp)) ?_
 refine zzM 6 (.int .i64 (b : Int)) (some 67) rfl ?_
 refine zzA 7 (.int .i64 (b1 : Int)) (some 68) rfl (fun _ => ex_binOp .sub 3 3 _ _ (.int .i64 (b : Int)) (.int .i64 1) _ rfl (by kernel_rfl) (by kernel_rfl) (by go_simp)) ?_
 refine zzM 8 (.pointer (some ⟨gt, 0, none⟩)) (some 69) rfl ?_
 refine zzA 9 (.pointer (some ⟨gt, 0, none⟩)) (some 70) rfl (fun _ => ex_nilCheck _ _ rfl (by kernel_rfl)) ?_
 refine zzA 10 (.pointer (some ⟨gt, 2, none⟩)) (some 71) rfl (fun _ => ex_fieldAddr 219 _ 2 (.pointer (some ⟨gt, 0, none⟩)) _ rfl (by kernel_rfl) (by go_simp)) ?_
 simp only [Act.put, List.setIfInBounds_toArray, List.set_cons_zero, List.set_cons_succ]
 refine wpAny_two 3 11 (by kernel_rfl) rfl rfl (by kernel_rfl) (by kernel_rfl) ?_ ?_
 ·refine wp_of_val (v := .pointer (some ⟨g, 0, none⟩)) (ex_load 205 _ (.pointer (some ⟨gt, 1, none⟩)) _ rfl (by kernel_rfl) (ldS_ptr (w := w3.drew) z1)) ?_
  simp only [Act.put, List.setIfInBounds_toArray, List.set_cons_zero, List.set_cons_succ]
  refine wpAny_only 11 (by kernel_rfl) rfl (by kernel_rfl) ?_
  refine wp_of_val (v := .int .i64 (rec : Int)) (ex_load 3 _ (.pointer (some ⟨gt, 2, none⟩)) _ rfl (by kernel_rfl) (ldT_int (w := w3.drew) z2)) ?_
  simp only [Act.put, List.setIfInBounds_toArray, List.set_cons_zero, List.set_cons_succ]
  refine wpAny_only 12 (by kernel_rfl) rfl (by kernel_rfl) ?_
  refine wp_of_call (ex_call1 (.tmp 72) _ (.int .i64 (rec : Int)) rfl (by kernel_rfl) (enters_of Tryz.func146 (by kernel_rfl) rfl _ _)) (HIT.out _) ?_
  rintro e w' ⟨rfl, rfl⟩
  refine ⟨.string (ofL (Lib.decDigits rec)), rfl, ?_⟩
  simp only [Act.put, List.setIfInBounds_toArray, List.set_cons_zero, List.set_cons_succ]
  refine wpAny_only 13 (by kernel_rfl) rfl (by kernel_rfl) ?_
  refine wp_of_call (ex_call4 (.tmp 64) (.tmp 66) (.tmp 68) (.tmp 73) _ (.pointer (some ⟨g, 0, none⟩)) (.int .i64 ((a : Int) + 1)) (.int .i64 (b1 : Int)) (.string (ofL (Lib.decDigits rec))) rfl (by kernel_rfl) (by kernel_rfl) (by kernel_rfl) (by kernel_rfl) (enters_of Tryz.func145 (by kernel_rfl) rfl _ _)) (HU.out _ HP3.out.drew) ?_
  rintro e w4 ⟨⟨v4, rfl⟩, lv4, hp4, hb4, hk4⟩
  refine ⟨v4, rfl, ?_⟩
  simp only [Act.put, List.setIfInBounds_toArray, List.set_cons_zero, List.set_cons_succ]
  refine wpAny_done (by kernel_rfl) ?_ _
  have HP4 := Lib.hid hp4
  have HT4 : Hid (TbX gt g data rec cols col tx w4) := (hk4 gt HT3.out.gsz hgg (fun e => HNA.out gt e rfl)).trans HT3.out
  have HB4 := Lib.hid ((HB3.out.drew).trans hb4)
  clear hp4 hb4 hk4
  go_wp2_with fail
  go_ret2
  exact ⟨rfl, ⟨lv4, HP4.out⟩, HT4.out, HB4.out⟩
 ·refine wp_of_val (v := .int .i64 (rec : Int)) (ex_load 3 _ (.pointer (some ⟨gt, 2, none⟩)) _ rfl (by kernel_rfl) (ldT_int (w := w3.drew) z2)) ?_
  simp only [Act.put, List.setIfInBounds_toArray, List.set_cons_zero, List.set_cons_succ]
  refine wpAny_two 3 12 (by kernel_rfl) rfl rfl (by kernel_rfl) (by kernel_rfl) ?_ ?_
  ·refine wp_of_val (v := .pointer (some ⟨g, 0, none⟩)) (ex_load 205 _ (.pointer (some ⟨gt, 1, none⟩)) _ rfl (by kernel_rfl) (ldS_ptr (w := w3.drew) z1)) ?_
   simp only [Act.put, List.setIfInBounds_toArray, List.set_cons_zero, List.set_cons_succ]
   refine wpAny_only 12 (by kernel_rfl) rfl (by kernel_rfl) ?_
   refine wp_of_call (ex_call1 (.tmp 72) _ (.int .i64 (rec : Int)) rfl (by kernel_rfl) (enters_of Tryz.func146 (by kernel_rfl) rfl _ _)) (HIT.out _) ?_
   rintro e w' ⟨rfl, rfl⟩
   refine ⟨.string (ofL (Lib.decDigits rec)), rfl, ?_⟩
   simp only [Act.put, List.setIfInBounds_toArray, List.set_cons_zero, List.set_cons_succ]
   refine wpAny_only 13 (by kernel_rfl) rfl (by kernel_rfl) ?_
   refine wp_of_call (ex_call4 (.tmp 64) (.tmp 66) (.tmp 68) (.tmp 73) _ (.pointer (some ⟨g, 0, none⟩)) (.int .i64 ((a : Int) + 1)) (.int .i64 (b1 : Int)) (.string (ofL (Lib.decDigits rec))) rfl (by kernel_rfl) (by kernel_rfl) (by kernel_rfl) (by kernel_rfl) (enters_of Tryz.func145 (by kernel_rfl) rfl _ _)) (HU.out _ HP3.out.drew) ?_
   rintro e w4 ⟨⟨v4, rfl⟩, lv4, hp4, hb4, hk4⟩
   refine ⟨v4, rfl, ?_⟩
   simp only [Act.put, List.setIfInBounds_toArray, List.set_cons_zero, List.set_cons_succ]
   refine wpAny_done (by kernel_rfl) ?_ _
   have HP4 := Lib.hid hp4
   have HT4 : Hid (TbX gt g data rec cols col tx w4) := (hk4 gt HT3.out.gsz hgg (fun e => HNA.out gt e rfl)).trans HT3.out
   have HB4 := Lib.hid ((HB3.out.drew).trans hb4)
   clear hp4 hb4 hk4
   go_wp2_with fail
   go_ret2
   exact ⟨rfl, ⟨lv4, HP4.out⟩, HT4.out, HB4.out⟩
  ·refine wp_of_call (ex_call1 (.tmp 72) _ (.int .i64 (rec : Int)) rfl (by kernel_rfl) (enters_of Tryz.func146 (by kernel_rfl) rfl _ _)) (HIT.out _) ?_
   rintro e w' ⟨rfl, rfl⟩
   refine ⟨.string (ofL (Lib.decDigits rec)), rfl, ?_⟩
   simp only [Act.put, List.setIfInBounds_toArray, List.set_cons_zero, List.set_cons_succ]
   refine wpAny_only 3 (by kernel_rfl) rfl (by kernel_rfl) ?_
   refine wp_of_val (v := .pointer (some ⟨g, 0, none⟩)) (ex_load 205 _ (.pointer (some ⟨gt, 1, none⟩)) _ rfl (by kernel_rfl) (ldS_ptr (w := w3.drew) z1)) ?_
   simp only [Act.put, List.setIfInBounds_toArray, List.set_cons_zero, List.set_cons_succ]
   refine wpAny_only 13 (by kernel_rfl) rfl (by kernel_rfl) ?_
   refine wp_of_call (ex_call4 (.tmp 64) (.tmp 66) (.tmp 68) (.tmp 73) _ (.pointer (some ⟨g, 0, none⟩)) (.int .i64 ((a : Int) + 1)) (.int .i64 (b1 : Int)) (.string (ofL (Lib.decDigits rec))) rfl (by kernel_rfl) (by kernel_rfl) (by kernel_rfl) (by kernel_rfl) (enters_of Tryz.func145 (by kernel_rfl) rfl _ _)) (HU.out _ HP3.out.drew) ?_
   rintro e w4 ⟨⟨v4, rfl⟩, lv4, hp4, hb4, hk4⟩
   refine ⟨v4, rfl, ?_⟩
   simp only [Act.put, List.setIfInBounds_toArray, List.set_cons_zero, List.set_cons_succ]
   refine wpAny_done (by kernel_rfl) ?_ _
   have HP4 := Lib.hid hp4
   have HT4 : Hid (TbX gt g data rec cols col tx w4) := (hk4 gt HT3.out.gsz hgg (fun e => HNA.out gt e rfl)).trans HT3.out
   have HB4 := Lib.hid ((HB3.out.drew).trans hb4)
   clear hp4 hb4 hk4
   go_wp2_with fail
   go_ret2
   exact ⟨rfl, ⟨lv4, HP4.out⟩, HT4.out, HB4.out⟩
 -- END
end Go.Proofs.YtfkojnofbpdjdaaGreatDoor

namespace Go.Proofs.YtfkojnofbpdjdaaGreatDoor
set_option maxRecDepth 100000
open Go.RowKit
def pjC (l : List Fd) : List UInt8 := l.flatMap fun f => f.raw ++ [44]
theorem pjC_snoc (l : List Fd) (f : Fd) : pjC (l ++ [f]) = pjC l ++ (f.raw ++ [44]) := by simp [pjC]
theorem joinC_app : ∀ (a b : List Fd), b ≠ [] → joinC (a ++ b) = pjC a ++ joinC b
 | [], b, _ => rfl
 | f :: a, b, h => by
   rw [List.cons_append, joinC_cons f _ (by simp [h]), joinC_app a b h]
   simp [pjC]
theorem pjC_pre (a : List Fl) : pjC (a.map fdOf) = rawPre a := by
 unfold pjC rawPre
 rw [List.flatMap_map]
 congr 1
 funext f
 rw [fdOf_raw]
def folC (td : List Fd) (rest : List UInt8) : List UInt8 := if td = [] then rest else 44 :: (joinC td ++ rest)
theorem folC_nil (rest : List UInt8) : folC [] rest = rest := rfl
theorem folC_cons (g : Fd) (td : List Fd) (rest : List UInt8) : folC (g :: td) rest = 44 :: (joinC (g :: td) ++ rest) := rfl
theorem join_fol (f : Fd) (td : List Fd) (rest : List UInt8) : joinC (f :: td) ++ rest = f.raw ++ folC td rest := by
 cases td with
 | nil => rfl
 | cons g td => rw [joinC_cons f _ (by simp), folC_cons]; simp
def RecEnd (rest : List UInt8) : Prop := rest = [] ∨ ∃ r, rest = 10 :: r
theorem folC_end (td : List Fd) (rest : List UInt8) (h : RecEnd rest) : FdEnd (folC td rest) := by
 cases td with
 | nil =>
   rcases h with rfl | ⟨r, rfl⟩
   ·exact .inl rfl
   ·exact .inr ⟨10, r, rfl, .inr rfl⟩
 | cons g td => exact .inr ⟨44, _, rfl, .inl rfl⟩
theorem hdr_any {gt g : Nat} {data : ByteArray} {cols col tx : Nat} {w : World} (h : TbX gt g data 0 cols col tx w) (a b k c' t' : Nat) (raw : List UInt8) (hab : a ≤ b) (hb : b ≤ data.size) (hsz : data.size ≤ 65536) (hk : k ≤ 65536) (htx : tx ≤ 65536) (hx : data.extract a b = ofL raw)
 (hu : (raw = wText ∧ c' = k ∧ t' = tx + 1) ∨ (raw ≠ wText ∧ c' = col ∧ t' = tx)) :
 Calls Tryz.prog 178 #[.pointer (some ⟨gt, 0, none⟩), .int .i64 a, .int .i64 b, .int .i64 k] w (fun e w' => (∃ v, e = .returned v) ∧ TbX gt g data 0 (k + 1) c' t' w' ∧ Mod (fun i => i = gt) w w') := by
 rcases hu with ⟨h1, rfl, rfl⟩ | ⟨h1, rfl, rfl⟩
 ·exact hdr_text h a b c' hab hb hsz hk htx (by rw [hx, toList_ofL]; exact h1)
 ·exact hdr_other h a b k hab hb hsz hk (by rw [hx, toList_ofL]; exact h1)
def hcN (tcol k : Nat) : Nat := if tcol < k then tcol else 0
def htN (tcol k : Nat) : Nat := if tcol < k then 1 else 0
theorem hst_step (fs : List Fd) (tcol k : Nat) (f : Fd) (h : fs[k]? = some f) (ht : fs[tcol]? = some fdText) (ho : ∀ i f, fs[i]? = some f → i ≠ tcol → f.raw ≠ wText) :
 (f.raw = wText ∧ hcN tcol (k + 1) = k ∧ htN tcol (k + 1) = htN tcol k + 1) ∨ (f.raw ≠ wText ∧ hcN tcol (k + 1) = hcN tcol k ∧ htN tcol (k + 1) = htN tcol k) := by
 unfold hcN htN
 by_cases hk : k = tcol
 ·subst hk
  rw [ht] at h
  injection h with h
  left
  subst h
  exact ⟨rfl, by rw [if_pos (by omega)], by rw [if_pos (by omega), if_neg (by omega)]⟩
 ·right
  refine ⟨ho k f h hk, ?_, ?_⟩
  ·by_cases h1 : tcol < k
   ·rw [if_pos h1, if_pos (by omega)]
   ·rw [if_neg h1, if_neg (by omega)]
  ·by_cases h1 : tcol < k
   ·rw [if_pos h1, if_pos (by omega)]
   ·rw [if_neg h1, if_neg (by omega)]
theorem hnext_any {gt g : Nat} (data : ByteArray) (fs : List Fd) (rest : List UInt8) (tcol : Nat) (w : World) (h : TbX gt g data 0 0 0 0 w) (hd : data.data.toList = joinC fs ++ rest) (hne : fs ≠ []) (hr : RecEnd rest) (hf : ∀ f ∈ fs, FdOk f) (ht : fs[tcol]? = some fdText) (ho : ∀ i f, fs[i]? = some f → i ≠ tcol → f.raw ≠ wText) (hsz : data.size ≤ 65536) (hfl : fs.length ≤ 100) :
 Calls Tryz.prog 151 #[.pointer (some ⟨gt, 0, none⟩), .int .i64 0] w (fun e w' => e = .returned (.tuple #[.int .i64 (min (((joinC fs).length : Int) + 1) (data.size : Int)), .int .i64 0]) ∧ TbX gt g data 0 fs.length tcol 1 w' ∧ Mod (fun i => i = gt) w w') := by
 obtain ⟨R, HRR⟩ : ∃ R : Ending → World → Prop, Hid (R = fun e w' => e = .returned (.tuple #[.int .i64 (min (((joinC fs).length : Int) + 1) (data.size : Int)), .int .i64 0]) ∧ TbX gt g data 0 fs.length tcol 1 w' ∧ Mod (fun i => i = gt) w w') := ⟨_, rfl⟩
 rw [← HRR.out]
 have HT := Lib.hid h
 have HD := Lib.hid hd
 have HRE := Lib.hid hr
 have HF := Lib.hid hf
 have HTC := Lib.hid ht
 have HO := Lib.hid ho
 have htl : tcol < fs.length := (List.getElem?_eq_some_iff.1 ht).1
 clear h hd hr hf ht ho
 go_enter Tryz.func151, Tryz.ntmps151
 go_wp2_with fail
 go_loopg [6, 7] (fs.length + 1) (fun gk av cv wr => ∃ dn td, Hid (fs = dn ++ td) ∧ td ≠ [] ∧ av = .int .i64 ((pjC dn).length : Nat) ∧ cv = .int .i64 (dn.length : Nat) ∧ Hid (TbX gt g data 0 dn.length (hcN tcol dn.length) (htN tcol dn.length) wr) ∧ Hid (Mod (fun i => i = gt) w wr) ∧ td.length ≤ gk)
 case atStart => exact ⟨[], fs, rfl, hne, rfl, rfl, HT.out, Mod.refl _ _, Nat.le_succ _⟩
 case round =>
  obtain ⟨dn, td, HE, htd, rfl, rfl, HTb, HM, hgk⟩ := hrel
  clear HT
  cases td with
  | nil => exact absurd rfl htd
  | cons f td =>
    have hfs : fs[dn.length]? = some f := by rw [HE.out, List.getElem?_append_right (Nat.le_refl _), Nat.sub_self]; rfl
    have hfl2 : dn.length + 1 + td.length = fs.length := by rw [HE.out]; simp; omega
    have hdd : data.data.toList = pjC dn ++ (f.raw ++ folC td rest) := by rw [HD.out, HE.out, joinC_app _ _ (by simp), List.append_assoc, join_fol]
    have hsl : data.size = (pjC dn).length + (f.raw.length + (folC td rest).length) := by rw [Lib.size_eq, hdd]; simp
    have hfm : f ∈ fs := by rw [HE.out]; simp
    have CF := Lib.hid (fun W => fd_any data (pjC dn) (folC td rest) f W hdd (HF.out f hfm) (folC_end td rest HRE.out) hsz)
    have hext : data.extract (pjC dn).length ((pjC dn).length + f.raw.length) = ofL f.raw := ext_mid data (pjC dn) f.raw (folC td rest) _ (by rw [hdd]; simp) rfl
    have hstep := hst_step fs tcol dn.length f hfs HTC.out HO.out
    have htn : htN tcol dn.length ≤ 65536 := by unfold htN; split <;> omega
    have CH := Lib.hid (fun W (hW : TbX gt g data 0 dn.length (hcN tcol dn.length) (htN tcol dn.length) W) => hdr_any hW (pjC dn).length ((pjC dn).length + f.raw.length) dn.length (hcN tcol (dn.length + 1)) (htN tcol (dn.length + 1)) f.raw (by omega) (by omega) hsz (by omega) htn hext hstep)
    obtain ⟨q0, q1, q2, q3, q4, q5⟩ := HTb.out.cells
    obtain ⟨N, hN⟩ : ∃ N, N = (pjC dn).length + f.raw.length := ⟨_, rfl⟩
    rw [← hN] at CF CH
    have HNN := Lib.hid hN
    have hNl : N ≤ data.size := by omega
    have HFIN : Hid ((joinC fs).length = (pjC dn).length + (joinC (f :: td)).length) := by show _ = _; rw [HE.out, joinC_app _ _ (by simp), List.length_append]
    have HATT := Lib.hid (at_pre data (pjC dn ++ f.raw) (folC td rest) (by rw [hdd]; simp))
    have HHSL := Lib.hid hsl
    clear hstep hext hdd hsl hfs hN htn hfm
    go_upto_region 4 with (go_at_call 177; refine (CF.out _).mono ?_; rintro e w1 ⟨rfl, hb1⟩; have HT1 := Lib.hid (HTb.out.below hb1); have HM1 := Lib.hid (HM.out.trans (Mod.of_below hb1) (fun _ h => h.elim)); clear hb1)
    obtain ⟨z0, z1, z2, z3, z4, z5⟩ := HT1.out.cells
    clear q0 q1 q2 q3 q4 q5
    go_upto_region 11 with (go_at_call 178; refine (CH.out _ (by exact HT1.out)).mono ?_; rintro e w2 ⟨⟨v2, rfl⟩, ht2, hm2⟩; have HT2 := Lib.hid ht2; have HM2 := Lib.hid (HM1.out.trans hm2 (fun i h _ => h)); clear ht2 hm2)
    cases td with
    | nil =>
      have hJ : Hid ((joinC fs).length = N) := by show _ = _; rw [HFIN.out, HNN.out]; rfl
      have hsl := HHSL.out
      rw [folC_nil] at hsl HATT
      rcases HRE.out with hr | ⟨r, hr⟩
      ·have heq : ((N : Int) == (data.size : Int)) = true := by rw [hr] at hsl; simp at hsl; rw [beq_iff_eq]; have := HNN.out; omega
       clear hsl
       have ef : dn.length + 1 = fs.length := by simp at hfl2; omega
       rw [ef] at HT2
       rw [show hcN tcol fs.length = tcol from if_pos htl, show htN tcol fs.length = 1 from if_pos htl] at HT2
       obtain ⟨x0, x1, x2, x3, x4, x5⟩ := HT2.out.cells
       clear z0 z1 z2 z3 z4 z5 CH CF
       go_wp2_with fail
       first | go_ret2 | skip
       rw [HRR.out]
       refine ⟨?_, HT2.out, HM2.out⟩
       rw [hJ.out]
       rfl
      ·have hNs : N < data.size := by rw [hr] at hsl; simp at hsl; have := HNN.out; omega
       have heq : ((N : Int) == (data.size : Int)) = false := by rw [beq_eq_false_iff_ne]; omega
       have hc := HATT.out 0 N (by rw [hr]; simp) (by rw [HNN.out]; simp) hNs
       have e10 : ((data[N].toNat : Int) == 10) = true := by rw [hc]; simp only [hr]; rfl
       clear hsl hc
       have ef : dn.length + 1 = fs.length := by simp at hfl2; omega
       rw [ef] at HT2
       rw [show hcN tcol fs.length = tcol from if_pos htl, show htN tcol fs.length = 1 from if_pos htl] at HT2
       obtain ⟨x0, x1, x2, x3, x4, x5⟩ := HT2.out.cells
       clear z0 z1 z2 z3 z4 z5 CH CF
       go_wp2_with fail
       first | go_ret2 | skip
       rw [HRR.out]
       refine ⟨?_, HT2.out, HM2.out⟩
       rw [hJ.out]
       rfl
    | cons g2 td =>
      have hsl := HHSL.out
      rw [folC_cons] at hsl HATT
      have hNs : N < data.size := by simp at hsl; have := HNN.out; omega
      have heq : ((N : Int) == (data.size : Int)) = false := by rw [beq_eq_false_iff_ne]; omega
      have hc := HATT.out 0 N (by simp) (by rw [HNN.out]; simp) hNs
      have e10 : ((data[N].toNat : Int) == 10) = false := by rw [hc]; rfl
      obtain ⟨x0, x1, x2, x3, x4, x5⟩ := HT2.out.cells
      have HS1 : Hid ((N : Int) + 1 = ((pjC (dn ++ [f])).length : Nat)) := by show _ = _; rw [pjC_snoc, List.length_append, List.length_append, HNN.out]; simp; omega
      have HS2 : Hid ((dn.length : Int) + 1 = ((dn ++ [f]).length : Nat)) := by show _ = _; simp
      have HE2 : Hid (fs = dn ++ [f] ++ (g2 :: td)) := by show _ = _; rw [HE.out]; simp
      have hgk2 : td.length + 2 ≤ gk := by simpa using hgk
      clear z0 z1 z2 z3 z4 z5 CH CF hsl hc
      go_wp2_with fail
      rw [HS1.out, HS2.out]
      go_roundg (td.length + 1)
      case measure => omega
      case rel =>
       refine ⟨dn ++ [f], g2 :: td, HE2.out, by simp, rfl, rfl, ?_, HM2.out, by simp⟩
       rw [show (dn ++ [f]).length = dn.length + 1 by simp]
       exact HT2.out
end Go.Proofs.YtfkojnofbpdjdaaGreatDoor

namespace Go.Proofs.YtfkojnofbpdjdaaGreatDoor
set_option maxRecDepth 100000
open Go.RowKit
def selC {α : Type} (tcol k : Nat) (x y : α) : α := if tcol < k then x else y
theorem selC_at {α : Type} (k : Nat) (x y : α) : selC k k x y = y ∧ selC k (k + 1) x y = x := ⟨if_neg (by omega), if_pos (by omega)⟩
theorem selC_ne {α : Type} (tcol k : Nat) (x y : α) (h : k ≠ tcol) : selC tcol (k + 1) x y = selC tcol k x y := by
 unfold selC
 by_cases h1 : tcol < k
 ·rw [if_pos h1, if_pos (by omega)]
 ·rw [if_neg h1, if_neg (by omega)]
theorem selC_zero {α : Type} (tcol : Nat) (x y : α) : selC tcol 0 x y = y := if_neg (by omega)
theorem selC_end {α : Type} (tcol n : Nat) (x y : α) (h : tcol < n) : selC tcol n x y = x := if_pos h
theorem tf_any {B gt g : Nat} {data : ByteArray} {rec cols tx fr0 : Nat} {lv : Value} {ps0 : List Pt} {w : World} (tcol k p : Nat) (f : Fd) (ts : Els) (fr1 : Nat) (ps1 : List Pt)
 (h : TbX gt g data rec cols tcol tx w) (hp : PsB B g data (selC tcol k fr1 fr0) lv (selC tcol k ps1 ps0) w) (hgg : gt ≠ g)
 (hf : k = tcol → f = fdTs ts) (hk : k < cols) (pre s : List UInt8) (hd : data.data.toList = pre ++ (f.raw ++ s)) (hp0 : p = pre.length) (hraw : RawOk 3 ts) (hfr : fr0 ≤ p + 1)
 (h1 : k = tcol → fr1 = p + 1 + (rawE ts).length ∧ ps1 = ps0 ++ [⟨false, ofL [], data.extract fr0 (p + 1)⟩, ⟨true, ofL (Lib.decDigits rec), ofL (rawE ts)⟩])
 (hsz : data.size ≤ 65536) (hrec : rec < 100) (hps : ps0.length ≤ 100000) :
 Calls Tryz.prog 179 #[.pointer (some ⟨gt, 0, none⟩), .int .i64 p, .int .i64 ((p + f.raw.length : Nat) : Int), .int .i64 k, .bool f.quo] w (fun e w' => e = .returned (.tuple #[.int .i64 0, .int .i64 0]) ∧ (∃ lv', PsB B g data (selC tcol (k + 1) fr1 fr0) lv' (selC tcol (k + 1) ps1 ps0) w') ∧ TbX gt g data rec cols tcol tx w' ∧ Below B w w') := by
 by_cases e : k = tcol
 ·subst e
  obtain ⟨h1, h2⟩ := h1 rfl
  have hf := hf rfl
  subst hf
  rw [(selC_at k fr1 fr0).1, (selC_at k ps1 ps0).1] at hp
  rw [(selC_at k fr1 fr0).2, (selC_at k ps1 ps0).2]
  have hl : (fdTs ts).raw.length = (rawE ts).length + 2 := by simp [fdTs]
  have hd2 : data.data.toList = pre ++ [34] ++ rawE ts ++ (34 :: s) := by rw [hd]; simp [fdTs]
  have hts : data.extract (p + 1) (p + 1 + (rawE ts).length) = ofL (rawE ts) := by
   have := ext_mid data (pre ++ [34]) (rawE ts) (34 :: s) (p + 1 + (rawE ts).length) hd2 (by rw [List.length_append, hp0]; rfl)
   rwa [List.length_append, ← hp0] at this
  have hpl : p + ((rawE ts).length + 2) ≤ data.size := by rw [Lib.size_eq, hd2, hp0]; simp
  have ht := tf_text h hp hgg p (p + ((rawE ts).length + 2)) (p + 1 + (rawE ts).length) ts (by omega) hts hraw hfr (by omega) hpl hsz hrec hk hps
  rw [← hl] at ht
  refine ht.mono ?_
  rintro e w' ⟨h3, h4, h5, h6⟩
  rw [h1, h2]
  exact ⟨h3, h4, h5, h6⟩
 ·refine (tf_other h p (p + f.raw.length) k f.quo hk e).mono ?_
  rintro e' w' ⟨h3, rfl⟩
  rw [selC_ne _ _ _ _ e, selC_ne _ _ _ _ e]
  exact ⟨h3, ⟨lv, hp⟩, h, Below.refl _ _⟩
theorem rnext_any {B gt g : Nat} (data : ByteArray) (pre0 : List UInt8) (fs : List Fd) (rest : List UInt8) (tcol : Nat) (ts : Els) (rec fr0 : Nat) (lv0 : Value) (ps0 : List Pt) (w : World) (h : TbX gt g data rec fs.length tcol 1 w) (hp : PsB B g data fr0 lv0 ps0 w) (hgg : gt ≠ g)
 (hd : data.data.toList = pre0 ++ (joinC fs ++ rest)) (hne : fs ≠ []) (hr : RecEnd rest) (hf : ∀ f ∈ fs, FdOk f) (ht : fs[tcol]? = some (fdTs ts)) (hraw : RawOk 3 ts) (hfr : fr0 ≤ pre0.length) (hrec1 : 1 ≤ rec) (hrec : rec < 100) (hsz : data.size ≤ 65536) (hfl : fs.length ≤ 100) (hps : ps0.length ≤ 100000) :
 Calls Tryz.prog 151 #[.pointer (some ⟨gt, 0, none⟩), .int .i64 (pre0.length : Nat)] w (fun e w' => e = .returned (.tuple #[.int .i64 (min (((pre0 ++ joinC fs).length : Int) + 1) (data.size : Int)), .int .i64 0]) ∧ TbX gt g data rec fs.length tcol 1 w' ∧ (∃ lv', PsB B g data (pre0.length + (pjC (fs.take tcol)).length + 1 + (rawE ts).length) lv' (ps0 ++ [⟨false, ofL [], data.extract fr0 (pre0.length + (pjC (fs.take tcol)).length + 1)⟩, ⟨true, ofL (Lib.decDigits rec), ofL (rawE ts)⟩]) w') ∧ Below B w w') := by
 generalize hfr1 : pre0.length + (pjC (fs.take tcol)).length + 1 + (rawE ts).length = fr1
 generalize hps1 : ps0 ++ [(⟨false, ofL [], data.extract fr0 (pre0.length + (pjC (fs.take tcol)).length + 1)⟩ : Pt), ⟨true, ofL (Lib.decDigits rec), ofL (rawE ts)⟩] = ps1
 obtain ⟨R, HRR⟩ : ∃ R : Ending → World → Prop, Hid (R = fun e w' => e = .returned (.tuple #[.int .i64 (min (((pre0 ++ joinC fs).length : Int) + 1) (data.size : Int)), .int .i64 0]) ∧ TbX gt g data rec fs.length tcol 1 w' ∧ (∃ lv', PsB B g data fr1 lv' ps1 w') ∧ Below B w w') := ⟨_, rfl⟩
 rw [← HRR.out]
 have HT := Lib.hid h
 have HP := Lib.hid hp
 have HD := Lib.hid hd
 have HRE := Lib.hid hr
 have HF := Lib.hid hf
 have HTC := Lib.hid ht
 have HF1 := Lib.hid hfr1
 have HP1 := Lib.hid hps1
 have HRW := Lib.hid hraw
 have htl : tcol < fs.length := (List.getElem?_eq_some_iff.1 ht).1
 have hBw : B ≤ w.heap.size := Nat.le_trans hp.lt (Nat.le_of_lt hp.gsz)
 have hrz : ¬ ((rec : Int) ≤ 0) := by omega
 have hrg : (0 : Int) < (rec : Int) := by omega
 have hreq : ((rec : Int) == 0) = false := by rw [beq_eq_false_iff_ne]; omega
 clear h hd hr hf ht hp hfr1 hps1 hraw
 go_enter Tryz.func151, Tryz.ntmps151
 go_wp2_with fail
 go_loopg [6, 7] (fs.length + 1) (fun gk av cv wr => ∃ dn td p, Hid (fs = dn ++ td) ∧ td ≠ [] ∧ av = .int .i64 (p : Nat) ∧ Hid (p = (pre0 ++ pjC dn).length) ∧ cv = .int .i64 (dn.length : Nat) ∧ Hid (TbX gt g data rec fs.length tcol 1 wr) ∧ (∃ lv, Hid (PsB B g data (selC tcol dn.length fr1 fr0) lv (selC tcol dn.length ps1 ps0) wr)) ∧ Hid (Below B w wr) ∧ td.length ≤ gk)
 case atStart => exact ⟨[], fs, pre0.length, rfl, hne, rfl, by (show _ = _); simp [pjC], rfl, HT.out, ⟨lv0, by rw [List.length_nil, selC_zero, selC_zero]; exact HP.out⟩, Below.refl _ _, Nat.le_succ _⟩
 case round =>
  obtain ⟨dn, td, p, HE, htd, rfl, HPP, rfl, HTb, ⟨lv, HPb⟩, HB, hgk⟩ := hrel
  clear HT HP
  cases td with
  | nil => exact absurd rfl htd
  | cons f td =>
    have hfs : fs[dn.length]? = some f := by rw [HE.out, List.getElem?_append_right (Nat.le_refl _), Nat.sub_self]; rfl
    have hfl2 : dn.length + 1 + td.length = fs.length := by rw [HE.out]; simp; omega
    have hdd : data.data.toList = (pre0 ++ pjC dn) ++ (f.raw ++ folC td rest) := by rw [HD.out, HE.out, joinC_app _ _ (by simp), List.append_assoc, join_fol, List.append_assoc]
    have hsl : data.size = (pre0 ++ pjC dn).length + (f.raw.length + (folC td rest).length) := by rw [Lib.size_eq, hdd]; simp; omega
    have hfm : f ∈ fs := by rw [HE.out]; simp
    have CF := Lib.hid (fun W => fd_any data (pre0 ++ pjC dn) (folC td rest) f W hdd (HF.out f hfm) (folC_end td rest HRE.out) hsz)
    have htk : dn.length = tcol → dn = fs.take tcol := fun e => by rw [HE.out, ← e, List.take_left]
    have CH := Lib.hid (fun lv W (hW : TbX gt g data rec fs.length tcol 1 W) (hP : PsB B g data (selC tcol dn.length fr1 fr0) lv (selC tcol dn.length ps1 ps0) W) => tf_any tcol dn.length (pre0 ++ pjC dn).length f ts fr1 ps1 hW hP hgg (fun e => by rw [e] at hfs; exact Option.some.inj (hfs.symm.trans HTC.out)) (by omega) (pre0 ++ pjC dn) (folC td rest) hdd rfl HRW.out (by rw [List.length_append]; omega) (fun e => by
     rw [← HF1.out, ← HP1.out, ← htk e, List.length_append]
     exact ⟨rfl, rfl⟩) hsz hrec hps)
    obtain ⟨q0, q1, q2, q3, q4, q5⟩ := HTb.out.cells
    rw [← HPP.out] at CF CH
    obtain ⟨N, hN⟩ : ∃ N, N = p + f.raw.length := ⟨_, rfl⟩
    rw [← hN] at CF CH
    rw [HPP.out] at hN
    have HNN := Lib.hid hN
    have hNl : N ≤ data.size := by omega
    have HFIN : Hid ((pre0 ++ joinC fs).length = (pre0 ++ pjC dn).length + (joinC (f :: td)).length) := by show _ = _; rw [HE.out, joinC_app _ _ (by simp), List.length_append, List.length_append, List.length_append, Nat.add_assoc]
    have HATT := Lib.hid (at_pre data (pre0 ++ pjC dn ++ f.raw) (folC td rest) (by rw [hdd]; simp))
    have HHSL := Lib.hid hsl
    clear hdd hsl hfs hN hfm htk
    go_upto_region 4 with (go_at_call 177; refine (CF.out _).mono ?_; rintro e w1 ⟨rfl, hb1⟩; have HT1 := Lib.hid (HTb.out.below hb1); have HP1b := Lib.hid (HPb.out.below hb1); have HB1 := Lib.hid (HB.out.trans (hb1.mono (Nat.le_trans hBw HB.out.size))); clear hb1)
    obtain ⟨z0, z1, z2, z3, z4, z5⟩ := HT1.out.cells
    clear q0 q1 q2 q3 q4 q5
    go_upto_region 11 with (go_at_call 179; refine (CH.out _ _ (by exact HT1.out) (by exact HP1b.out)).mono ?_; rintro e w2 ⟨rfl, ⟨lv2, hp2⟩, ht2, hb2⟩; have HT2 := Lib.hid ht2; have HP2 := Lib.hid hp2; have HB2 := Lib.hid (HB1.out.trans hb2); clear ht2 hp2 hb2)
    cases td with
    | nil =>
      have hJ : Hid ((pre0 ++ joinC fs).length = N) := by show _ = _; rw [HFIN.out, HNN.out]; rfl
      have hsl := HHSL.out
      rw [folC_nil] at hsl HATT
      rcases HRE.out with hr | ⟨r, hr⟩
      ·have heq : ((N : Int) == (data.size : Int)) = true := by rw [hr] at hsl; simp only [List.length_nil] at hsl; rw [beq_iff_eq]; have := HNN.out; omega
       clear hsl
       have ef : dn.length + 1 = fs.length := by simp at hfl2; omega
       rw [ef, selC_end _ _ _ _ htl, selC_end _ _ _ _ htl] at HP2
       obtain ⟨x0, x1, x2, x3, x4, x5⟩ := HT2.out.cells
       have hcl : ¬ ((dn.length : Int) + 1 < (fs.length : Int)) := by omega
       clear z0 z1 z2 z3 z4 z5 CH CF
       go_wp2_with fail
       first | go_ret2 | skip
       rw [HRR.out]
       refine ⟨?_, HT2.out, ⟨lv2, HP2.out⟩, HB2.out⟩
       rw [hJ.out]
       try rfl
      ·have hNs : N < data.size := by rw [hr] at hsl; simp only [List.length_cons] at hsl; have := HNN.out; omega
       have heq : ((N : Int) == (data.size : Int)) = false := by rw [beq_eq_false_iff_ne]; omega
       have hc := HATT.out 0 N (by rw [hr]; simp) (by have := HNN.out; simp only [List.length_append] at this ⊢; omega) hNs
       have e10 : ((data[N].toNat : Int) == 10) = true := by rw [hc]; simp only [hr]; rfl
       clear hsl hc
       have ef : dn.length + 1 = fs.length := by simp at hfl2; omega
       rw [ef, selC_end _ _ _ _ htl, selC_end _ _ _ _ htl] at HP2
       obtain ⟨x0, x1, x2, x3, x4, x5⟩ := HT2.out.cells
       have hcl : ¬ ((dn.length : Int) + 1 < (fs.length : Int)) := by omega
       clear z0 z1 z2 z3 z4 z5 CH CF
       go_wp2_with fail
       first | go_ret2 | skip
       rw [HRR.out]
       refine ⟨?_, HT2.out, ⟨lv2, HP2.out⟩, HB2.out⟩
       rw [hJ.out]
       try rfl
    | cons g2 td =>
      have hsl := HHSL.out
      rw [folC_cons] at hsl HATT
      have hNs : N < data.size := by simp only [List.length_cons] at hsl; have := HNN.out; omega
      have heq : ((N : Int) == (data.size : Int)) = false := by rw [beq_eq_false_iff_ne]; omega
      have hc := HATT.out 0 N (by simp) (by have := HNN.out; simp only [List.length_append] at this ⊢; omega) hNs
      have e10 : ((data[N].toNat : Int) == 10) = false := by rw [hc]; rfl
      obtain ⟨x0, x1, x2, x3, x4, x5⟩ := HT2.out.cells
      have HS1 : Hid (N + 1 = (pre0 ++ pjC (dn ++ [f])).length) := by show _ = _; have := HNN.out; rw [pjC_snoc]; simp only [List.length_append, List.length_singleton] at this ⊢; omega
      have HS2 : Hid ((dn.length : Int) + 1 = ((dn ++ [f]).length : Nat)) := by show _ = _; simp
      have HE2 : Hid (fs = dn ++ [f] ++ (g2 :: td)) := by show _ = _; rw [HE.out]; simp
      have hgk2 : td.length + 2 ≤ gk := by simpa using hgk
      clear z0 z1 z2 z3 z4 z5 CH CF hsl hc
      go_wp2_with fail
      rw [HS2.out, show (N : Int) + 1 = ((N + 1 : Nat) : Int) from rfl]
      go_roundg (td.length + 1)
      case measure => omega
      case rel =>
       refine ⟨dn ++ [f], g2 :: td, N + 1, HE2.out, by simp, rfl, HS1.out, rfl, HT2.out, ⟨lv2, ?_⟩, HB2.out, by simp⟩
       rw [show (dn ++ [f]).length = dn.length + 1 by simp]
       exact HP2.out
end Go.Proofs.YtfkojnofbpdjdaaGreatDoor

namespace Go.Proofs.YtfkojnofbpdjdaaGreatDoor
set_option maxRecDepth 100000
open Go.RowKit
def rawSh (a b : List Fl) (rs : List Rc) : List UInt8 := rawHd a b ++ rs.flatMap fun r => 10 :: rawRc r
def tailSh (rs : List Rc) (tl : List UInt8) : List UInt8 := (rs.flatMap fun r => 10 :: rawRc r) ++ tl
theorem rawSh_app (a b : List Fl) (dn td : List Rc) (tl : List UInt8) : rawSh a b (dn ++ td) ++ tl = rawSh a b dn ++ tailSh td tl := by simp [rawSh, tailSh]
theorem rawSh_snoc (a b : List Fl) (dn : List Rc) (r : Rc) : rawSh a b (dn ++ [r]) = rawSh a b dn ++ (10 :: rawRc r) := by simp [rawSh]
theorem tailSh_cons (r : Rc) (td : List Rc) (tl : List UInt8) : tailSh (r :: td) tl = 10 :: (rawRc r ++ tailSh td tl) := by simp [tailSh]
theorem tailSh_end (td : List Rc) (tl : List UInt8) (h : tl = [] ∨ tl = [10]) : RecEnd (tailSh td tl) := by
 cases td with
 | nil =>
   rcases h with rfl | rfl
   ·exact .inl rfl
   ·exact .inr ⟨[], rfl⟩
 | cons r td => exact .inr ⟨_, tailSh_cons r td tl⟩
theorem unsSh_snoc (a b : List Fl) (dn : List Rc) (r : Rc) : unsSh a b (dn ++ [r]) = stepRc (unsSh a b dn) r := by
 unfold unsSh
 rw [List.foldl_append]
 rfl
theorem unsSh_len (a b : List Fl) (rs : List Rc) : (unsSh a b rs).1.length = rs.length := by
 suffices h : ∀ (rs : List Rc) (st : List Un × List UInt8), (rs.foldl stepRc st).1.length = st.1.length + rs.length by
  have := h rs ([], rawHd a b)
  unfold unsSh
  simpa using this
 intro rs
 induction rs with
 | nil => intro st; rfl
 | cons r rs ih =>
   intro st
   rw [List.foldl_cons, ih]
   show (st.1 ++ [_]).length + rs.length = _
   rw [List.length_append, List.length_cons]
   simp
   omega
theorem rawSh_split (a b : List Fl) (rs : List Rc) : rawSh a b rs = rawD (unsSh a b rs).1 ++ (unsSh a b rs).2 := by
 have := unsSh_raw rs ([], rawHd a b)
 rw [show rawD ([] : List Un) = [] from rfl, List.nil_append] at this
 exact this.symm
structure RcF (a b : List Fl) (r : Rc) : Prop where
 pre : r.pre.length = a.length
 post : r.post.length = b.length
 okA : ∀ f ∈ r.pre, FlOk f
 okB : ∀ f ∈ r.post, FlOk f
 raw : RawOk 3 r.ts
theorem rcF_take (r : Rc) (n : Nat) (h : r.pre.length = n) : pjC ((rcFs r).take n) = rawPre r.pre := by
 unfold rcFs
 rw [List.take_left' (by simpa using h), pjC_pre]
def atSh (a b : List Fl) (dn td : List Rc) (size : Nat) : Nat := if td = [] then size else (rawSh a b dn).length + 1
theorem atSh_min (a b : List Fl) (dn td : List Rc) (tl : List UInt8) (h : tl = [] ∨ tl = [10]) (size n : Nat) (hs : size = (rawSh a b dn ++ tailSh td tl).length) (hn : n = (rawSh a b dn).length) : min ((n : Int) + 1) (size : Int) = ((atSh a b dn td size : Nat) : Int) := by
 subst hn
 unfold atSh
 cases td with
 | nil =>
   rw [if_pos rfl, List.length_append] at *
   rcases h with rfl | rfl
   ·simp [tailSh] at hs; omega
   ·simp [tailSh] at hs; omega
 | cons r td =>
   rw [if_neg (by simp)]
   rw [tailSh_cons, List.length_append] at hs
   simp only [List.length_cons] at hs
   omega
theorem shSplit_any (data : ByteArray) (a b : List Fl) (rs : List Rc) (tl : List UInt8) (w : World) (htl : tl = [] ∨ tl = [10]) (hd : data.data.toList = rawSh a b rs ++ tl)
 (ha : ∀ f ∈ a, FlOk f ∧ rawFl f ≠ wText) (hb : ∀ f ∈ b, FlOk f ∧ rawFl f ≠ wText) (hrs : ∀ r ∈ rs, RcF a b r) (hkey : ∀ i r, rs[i]? = some r → r.key = Lib.decDigits (i + 1)) (hrl : rs.length ≤ 98) (hal : a.length + 1 + b.length ≤ 90) (hsz : data.size ≤ 65536) :
 Calls Tryz.prog 96 #[.string data] w (PtsRet (ptsD (unsSh a b rs).1 ((unsSh a b rs).2 ++ tl)) w) := by
 obtain ⟨R, HRR⟩ : ∃ R : Ending → World → Prop, Hid (R = PtsRet (ptsD (unsSh a b rs).1 ((unsSh a b rs).2 ++ tl)) w) := ⟨_, rfl⟩
 rw [← HRR.out]
 have CP := Lib.hid (fun w => newParts_any data w)
 have HD := Lib.hid hd
 have HRS := Lib.hid hrs
 have HKEY := Lib.hid hkey
 have HTL := Lib.hid htl
 have hfl := hdFs_len a b
 have CN0 := Lib.hid (fun (gt g : Nat) W (hW : TbX gt g data 0 0 0 0 W) => hnext_any data (hdFs a b) (tailSh rs tl) a.length W hW (by rw [hd, hdFs_raw, show rawHd a b = rawSh a b [] by simp [rawSh]]; exact rawSh_app a b [] rs tl) (by intro e; rw [e] at hfl; simp at hfl; omega) (tailSh_end rs tl htl) (hdFs_ok a b (fun f hf => (ha f hf).1) (fun f hf => (hb f hf).1)) (hdFs_at a b) (hdFs_other a b (fun f hf => (ha f hf).2) (fun f hf => (hb f hf).2)) hsz (by omega))
 have hmin0 := atSh_min a b [] rs tl htl data.size (joinC (hdFs a b)).length (by rw [Lib.size_eq, hd, ← rawSh_app]; rfl) (by rw [hdFs_raw]; simp [rawSh])
 rw [hmin0, hfl] at CN0
 clear hd hrs hkey htl ha hb hmin0 hfl
 go_enter Tryz.func96, Tryz.ntmps96
 go_upto_region 4 with (go_at_call 142; refine (CP.out _).mono ?_; rintro e w0 ⟨g, rfl, hp0, hb0⟩; have HP0 := Lib.hid hp0; have HB0 := Lib.hid hb0; clear hp0 hb0)
 have hgw := HP0.out.gsz
 have hz0 := HB0.out.size
 have HP1 := Lib.hid (HP0.out.below ((Below.refl w0.heap.size w0).alloc (Nat.le_refl _) (.cells #[.string data, .pointer (some ⟨g, 0, none⟩), .int .i64 0, .int .i64 0, .int .i64 0, .int .i64 0] 219)))
 have HB1 := Lib.hid (HB0.out.alloc hz0 (.cells #[.string data, .pointer (some ⟨g, 0, none⟩), .int .i64 0, .int .i64 0, .int .i64 0, .int .i64 0] 219))
 have HT1 : Hid (TbX w0.heap.size g data 0 0 0 0 (w0.alloc (.cells #[.string data, .pointer (some ⟨g, 0, none⟩), .int .i64 0, .int .i64 0, .int .i64 0, .int .i64 0] 219))) := heap_alloc_new w0 _
 generalize w0.alloc (.cells #[.string data, .pointer (some ⟨g, 0, none⟩), .int .i64 0, .int .i64 0, .int .i64 0, .int .i64 0] 219) = w1 at HP1 HB1 HT1 ⊢
 have hgg : w0.heap.size ≠ g := by omega
 generalize w0.heap.size = gt at hgg HT1 hz0 ⊢
 clear HP0 HB0 hgw
 obtain ⟨n, hn⟩ : ∃ n, n = a.length + 1 + b.length := ⟨_, rfl⟩
 rw [← hn] at CN0
 have HN := Lib.hid hn
 have hn90 : n ≤ 90 := by omega
 have hpos : 0 < data.size := by rw [Lib.size_eq, HD.out]; unfold rawSh rawHd wText; simp; omega
 clear hn hal
 go_loopg [3] (rs.length + 1) (fun gk av wr => (av = .int .i64 0 ∧ Hid (TbX gt g data 0 0 0 0 wr) ∧ (∃ lv, Hid (PsB w.heap.size g data 0 lv [] wr)) ∧ Hid (Below w.heap.size w wr) ∧ rs.length + 1 ≤ gk) ∨ (∃ dn td, Hid (rs = dn ++ td) ∧ av = .int .i64 (atSh a b dn td data.size : Nat) ∧ Hid (TbX gt g data (dn.length + 1) n a.length 1 wr) ∧ (∃ lv, Hid (PsB w.heap.size g data (rawD (unsSh a b dn).1).length lv (prsD (unsSh a b dn).1) wr)) ∧ Hid (Below w.heap.size w wr) ∧ td.length ≤ gk))
 case atStart => exact .inl ⟨rfl, HT1.out, ⟨_, HP1.out⟩, HB1.out, Nat.le_refl _⟩
 case round =>
  clear HT1 HP1 HB1
  rcases hrel with ⟨rfl, HT, ⟨lv, HP⟩, HB, hgk⟩ | ⟨dn, td, HE, rfl, HT, ⟨lv, HP⟩, HB, hgk⟩
  ·obtain ⟨q0, q1, q2, q3, q4, q5⟩ := HT.out.cells
   have HNA := Lib.hid (own_apart HP.out.own HT.out (by decide))
   go_upto_region 8 with (go_at_call 151; refine (CN0.out _ _ _ (by exact HT.out)).mono ?_; rintro e w2 ⟨rfl, ht2, hm2⟩; have HT2 := Lib.hid ht2; have HM2 := Lib.hid hm2; clear ht2 hm2)
   obtain ⟨z0, z1, z2, z3, z4, z5⟩ := HT2.out.cells
   have y2 := HT2.out.frozen 2
   have HTS := Lib.hid (HT2.out.set2 1)
   have HMS := Lib.hid (HM2.out.trans (Mod.set w2 gt 2 (.int .i64 1)) (fun i h _ => h))
   have hgz := HT.out.gsz
   clear q0 q1 q2 q3 q4 q5
   go_wp2_with fail
   go_roundg rs.length
   case measure => omega
   case rel =>
    refine .inr ⟨[], rs, rfl, rfl, HTS.out, ⟨lv, ?_⟩, HB.out.trans (HMS.out.below (fun i hi => by rw [hi]; exact hz0) HB.out.size), Nat.le_refl _⟩
    exact ⟨(HMS.out.block g HP.out.gsz (fun e => hgg e.symm)).trans HP.out.box, HMS.out.own HP.out.own (fun k hk e => HNA.out k hk e), HP.out.lt⟩
  ·obtain ⟨q0, q1, q2, q3, q4, q5⟩ := HT.out.cells
   have hr0 : (((dn.length + 1 : Nat) : Int) == 0) = false := by rw [beq_eq_false_iff_ne]; omega
   have hr1 : ((dn.length : Int) + 1 == 0) = false := by rw [beq_eq_false_iff_ne]; omega
   cases td with
   | nil =>
     have he : rs = dn := by have := HE.out; rwa [List.append_nil] at this
     subst he
     rw [show atSh a b rs [] data.size = data.size from if_pos rfl]
     have hpl := prsD_len (unsSh a b rs).1
     rw [unsSh_len] at hpl
     have hsp := rawSh_split a b rs
     have hfr : (rawD (unsSh a b rs).1).length ≤ data.size := by rw [Lib.size_eq, HD.out, hsp]; simp
     have hex : data.extract (rawD (unsSh a b rs).1).length data.size = ofL ((unsSh a b rs).2 ++ tl) := ext_rest _ _ _ (by rw [HD.out, hsp, List.append_assoc])
     have HC := Lib.hid (list_any HP.out hfr (by omega) (by omega))
     rw [hex, show (⟨#[]⟩ : ByteArray) = ofL [] from rfl, ← ptsD_eq] at HC
     clear hex hfr hpl hsp
     go_wp2_with (go_at_call 147; refine (HC.out).mono ?_; rintro e w1 ⟨v, rfl, ho, hb1⟩; have HO := Lib.hid ho; have HB1 := Lib.hid (HB.out.trans hb1); obtain ⟨A, c, rfl⟩ := own_shape ho; clear ho hb1)
     first | go_ret3 | skip
     rw [HRR.out]
     exact ⟨_, rfl, HO.out, HB1.out⟩
   | cons r td =>
     have hr := HRS.out r (by rw [HE.out]; simp)
     have hrk := HKEY.out dn.length r (by rw [HE.out, List.getElem?_append_right (Nat.le_refl _), Nat.sub_self]; rfl)
     have hdl : dn.length + 1 + td.length = rs.length := by rw [HE.out]; simp; omega
     have hrn : (rcFs r).length = n := by rw [rcFs_len, hr.pre, hr.post, HN.out]
     obtain ⟨pre0, hpre⟩ : ∃ pre0, pre0 = rawSh a b dn ++ [10] := ⟨_, rfl⟩
     have hprel : pre0.length = (rawSh a b dn).length + 1 := by rw [hpre]; simp
     have hat : atSh a b dn (r :: td) data.size = pre0.length := by rw [hprel]; exact if_neg (by simp)
     rw [hat]
     have hdd : data.data.toList = pre0 ++ (joinC (rcFs r) ++ tailSh td tl) := by rw [HD.out, HE.out, rawSh_app, tailSh_cons, rcFs_raw, hpre]; simp
     have hsp := rawSh_split a b dn
     have hpl := prsD_len (unsSh a b dn).1
     rw [unsSh_len] at hpl
     have hst := unsSh_snoc a b dn r
     have htk := rcF_take r a.length hr.pre
     have hjl : joinC (rcFs r) = rawPre r.pre ++ (34 :: (rawE r.ts ++ (34 :: rawPost r.post))) := by rw [rcFs_raw]; rfl
     have hfr1 : pre0.length + (pjC ((rcFs r).take a.length)).length + 1 + (rawE r.ts).length = (rawD (unsSh a b (dn ++ [r])).1).length := by
      rw [hst, htk, hprel, hsp]
      show _ = (rawD ((unsSh a b dn).1 ++ [⟨(unsSh a b dn).2 ++ (10 :: (rawPre r.pre ++ [34])), r.key, r.ts⟩])).length
      rw [rawD_snoc]
      simp
      omega
     have hX : data.extract (rawD (unsSh a b dn).1).length (pre0.length + (pjC ((rcFs r).take a.length)).length + 1) = ofL ((unsSh a b dn).2 ++ (10 :: (rawPre r.pre ++ [34]))) :=
      ext_mid data (rawD (unsSh a b dn).1) ((unsSh a b dn).2 ++ (10 :: (rawPre r.pre ++ [34]))) (rawE r.ts ++ (34 :: rawPost r.post) ++ tailSh td tl) _ (by rw [hdd, hpre, hsp, hjl]; simp) (by rw [htk, hprel, hsp]; simp; omega)
     have hps1 : prsD (unsSh a b dn).1 ++ [⟨false, ofL [], ofL ((unsSh a b dn).2 ++ (10 :: (rawPre r.pre ++ [34])))⟩, ⟨true, ofL (Lib.decDigits (dn.length + 1)), ofL (rawE r.ts)⟩] = prsD (unsSh a b (dn ++ [r])).1 := by
      rw [hst, ← hrk]
      exact (prsD_snoc (unsSh a b dn).1 ⟨(unsSh a b dn).2 ++ (10 :: (rawPre r.pre ++ [34])), r.key, r.ts⟩).symm
     have hmin := atSh_min a b (dn ++ [r]) td tl HTL.out data.size (pre0 ++ joinC (rcFs r)).length (by rw [Lib.size_eq, HD.out, ← rawSh_app, HE.out]; simp) (by rw [rawSh_snoc, rcFs_raw, hpre]; simp)
     have CN := Lib.hid (rnext_any data pre0 (rcFs r) (tailSh td tl) a.length r.ts (dn.length + 1) (rawD (unsSh a b dn).1).length lv (prsD (unsSh a b dn).1) wr (by rw [hrn]; exact HT.out) HP.out hgg hdd (by intro e; rw [e] at hrn; simp at hrn; have := HN.out; omega) (tailSh_end td tl HTL.out) (rcFs_ok r hr.okA hr.okB hr.raw.els) (by rw [← hr.pre]; exact rcFs_at r) hr.raw (by rw [hprel, hsp, List.length_append]; omega) (by omega) (by omega) hsz (by omega) (by omega))
     rw [hmin, hfr1, hX, hps1, hrn] at CN
     have HPRE : Hid (((pre0.length : Nat) : Int) < (data.size : Int)) := by show _ < _; rw [Lib.size_eq, hdd]; simp [hjl]; omega
     have hplt := HPRE.out
     have hgk2 : td.length + 1 ≤ gk := hgk
     have HE2 : Hid (rs = dn ++ [r] ++ td) := by show _ = _; rw [HE.out]; simp
     clear hr hrk hrn hpre hprel hat hdd hsp hpl hst htk hjl hfr1 hX hps1 hmin
     go_upto_region 8 with (go_at_call 151; refine (CN.out).mono ?_; rintro e w2 ⟨rfl, ht2, ⟨lv2, hp2⟩, hb2⟩; have HT2 := Lib.hid ht2; have HP2 := Lib.hid hp2; have HB2 := Lib.hid (HB.out.trans hb2); clear ht2 hp2 hb2)
     obtain ⟨z0, z1, z2, z3, z4, z5⟩ := HT2.out.cells
     have y2 := HT2.out.frozen 2
     have HNA := Lib.hid (own_apart HP2.out.own HT2.out (by decide))
     have HTS := Lib.hid (HT2.out.set2 (dn.length + 1 + 1))
     have HMS := Lib.hid (Mod.set w2 gt 2 (.int .i64 ((dn.length + 1 + 1 : Nat) : Int)))
     rw [show ((dn.length + 1 + 1 : Nat) : Int) = (dn.length : Int) + 1 + 1 by omega] at HTS HMS
     clear q0 q1 q2 q3 q4 q5
     go_wp2_with fail
     go_roundg td.length
     case measure => omega
     case rel =>
      refine .inr ⟨dn ++ [r], td, HE2.out, rfl, ?_, ⟨lv2, ?_⟩, HB2.out.trans (HMS.out.below (fun i hi => by rw [hi]; exact hz0) HB2.out.size), Nat.le_refl _⟩
      ·rw [show (dn ++ [r]).length = dn.length + 1 by simp]
       exact HTS.out
      ·exact ⟨(HMS.out.block g HP2.out.gsz (fun e => hgg e.symm)).trans HP2.out.box, HMS.out.own HP2.out.own (fun k hk e => HNA.out k hk e), HP2.out.lt⟩
end Go.Proofs.YtfkojnofbpdjdaaGreatDoor

namespace Go.Proofs.YtfkojnofbpdjdaaGreatDoor
set_option maxRecDepth 100000
open Go.RowKit
theorem fragmentP_any (L : List Int) (g : Nat) (n : Nat) (w : World) (h : Nums w g L 0) (hn : n ≤ 8) :
 Calls Tryz.prog 9 #[.pointer (some ⟨g, 0, none⟩), .int .i64 n, .bool false, .bool true] w (FragRet g (fragG false L 0 n).1 w) := by
 obtain ⟨R, HRR⟩ : ∃ R, Hid (R = FragRet g (fragG false L 0 n).1 w) := ⟨_, rfl⟩
 rw [← HRR.out]
 obtain ⟨tgt, HT⟩ : ∃ tgt, Hid (fragGGo false L (nextN L 0 ((n : Int) + 1)).toNat ⟨[], [], 0, 1⟩ = tgt) := ⟨_, rfl⟩
 have HTG : Hid ((fragG false L 0 n).1 = tgt.f ++ closeG tgt.op) := by
  show _ = _
  rw [← HT.out]
  rfl
 rw [HTG.out] at HRR
 have hb := nextN_bd L 0 ((n : Int) + 1) (by omega)
 have HNX := Lib.hid (next_any' L g 0 ((n : Int) + 1) w h (by omega) (by omega) (by omega))
 have hgB := h.lt
 generalize nextN L 0 ((n : Int) + 1) = z at HT hb HNX
 obtain ⟨m, rfl⟩ : ∃ m : Nat, z = (m : Int) := ⟨z.toNat, by omega⟩
 rw [Int.toNat_natCast] at HT
 have hm : m ≤ 8 := by omega
 clear h HTG
 go_enter Tryz.func9, Tryz.ntmps9
 go_wp2_with fail
 refine (HNX.out).mono ?_
 rintro e w1 ⟨rfl, hb1, hn1⟩
 have HB1 := Lib.hid hb1
 have HN1 := Lib.hid hn1
 clear hb1 hn1
 go_wp2_with fail
 obtain ⟨wo, HWO⟩ : ∃ wo, Hid (wo = w1) := ⟨w1, rfl⟩
 go_loopg [9, 10, 11, 12] m (fun gk fv ov dv iv wr => ∃ (s : FS) (i r : Nat), ov = .slice none 0 0 ∧ dv = .int .i64 0 ∧ iv = .int .i64 i ∧ r + i = m ∧ s.op = [] ∧ s.id = 0 ∧ s.N ≤ 1 + 9 * r ∧ Hid (FGK false s r) ∧ Hid (OwnT 31 wr w.heap.size fv s.f) ∧ Hid (But g w wr) ∧ Hid (Nums wr g L s.N) ∧ Hid (fragGGo false L i s = tgt) ∧ i ≤ gk)
 case atStart => exact ⟨⟨[], [], 0, 1⟩, m, 0, rfl, rfl, rfl, by omega, rfl, rfl, (by show 1 ≤ 1 + 9 * 0; omega), fgk_start false 1, OwnE.nil, HB1.out, HN1.out, HT.out, Nat.le_refl _⟩
 case round =>
  clear HWO HB1 HN1 HT
  obtain ⟨⟨f, op, id, N'⟩, i, r, rfl, rfl, rfl, hri, hop, hid, hfn, HOK, HF, HB, HN, HG, hgk⟩ := hrel
  simp only at hop hid hfn HF HN
  subst hop hid
  obtain ⟨A1, d1, hv1⟩ := own_shape HF.out
  subst hv1
  cases i with
  | zero =>
    have he : tgt = ⟨f, [], 0, N'⟩ := HG.out.symm
    rw [he] at HRR
    have HRR2 : Hid (R = FragRet g f w) := by
     show _ = _
     rw [HRR.out]
     show FragRet g (f ++ []) w = _
     rw [List.append_nil]
    clear HG he
    go_wp2_with fail
    obtain ⟨wo, HWO⟩ : ∃ wo, Hid (wo = wr) := ⟨wr, rfl⟩
    go_loopg [9, 15] 0 (fun gk fv kv wr' => wr' = wr ∧ fv = .slice A1 f.length d1 ∧ kv = .int .i64 (-1))
    case atStart => exact ⟨rfl, rfl, rfl⟩
    case round =>
     obtain ⟨rfl, rfl, rfl⟩ := hrel
     go_wp2_with fail
     rw [HRR2.out]
     exact ⟨_, rfl, HF.out, HB.out⟩
  | succ i =>
    have hi0 : (0 : Int) < ((i + 1 : Nat) : Int) := by omega
    have hl := lineL_bd L N' 3 (by decide)
    have HLN := Lib.hid (line_any' L g N' 3 wr HN.out (by omega) (by decide) (by decide))
    have HG2 := HG.out
    rw [fragGGo] at HG2
    have hst : fragGStep false L ⟨f, [], 0, N'⟩ = ⟨normL (f ++ [(itemG false L (nextN L (lineL L N' 3).2 8) (lineL L N' 3).1 [] 0 ((lineL L N' 3).2 + 1)).1]), (itemG false L (nextN L (lineL L N' 3).2 8) (lineL L N' 3).1 [] 0 ((lineL L N' 3).2 + 1)).2.1,
     (itemG false L (nextN L (lineL L N' 3).2 8) (lineL L N' 3).1 [] 0 ((lineL L N' 3).2 + 1)).2.2.1, (itemG false L (nextN L (lineL L N' 3).2 8) (lineL L N' 3).1 [] 0 ((lineL L N' 3).2 + 1)).2.2.2⟩ := rfl
    obtain ⟨hok2, hN2⟩ := FGK.step false L _ r HOK.out
    rw [hst] at HG2 hok2 hN2
    have hfl := HOK.out.len
    have hby := HOK.out.bytes
    simp only at hfl hby
    generalize lineL L N' 3 = ln at hl HLN HG2 hok2 hN2
    obtain ⟨t, M⟩ := ln
    simp only at hl HLN HG2 hok2 hN2
    have c8 := nextN_bd L M 8 (by decide)
    have HX8 := Lib.hid (fun w h => next_any' L g M 8 w h (by omega) (by decide) (by decide))
    generalize nextN L M 8 = c at c8 HX8 HG2 hok2 hN2
    have HGG := Lib.hid HG2
    have HOK2 := Lib.hid hok2
    have HN2' := Lib.hid hN2
    clear hst hok2 HG2 HG HOK hN2
    go_wp2_with fail
    refine (HLN.out).mono ?_
    rintro e w2 ⟨rfl, hb2, hn2⟩
    have hB2 := HB.out.trans hb2
    have HF2 := Lib.hid (own_same HF.out (w' := w2) fun k hk => by have := HF.out.lt k hk; exact hb2.block k this.2 (by omega))
    have HN2 := Lib.hid hn2
    have hg2 := hn2.lt
    have HB2 := Lib.hid hB2
    have hsz2 := hB2.size
    clear hb2 hn2 hB2 HF HN HLN HB
    go_upto_block 2 with (go_at_call 34; refine (HX8.out _ (by exact HN2.out.alloc _)).mono ?_; rintro e w3 ⟨rfl, hb3, hn3⟩)
    have HFR : FR g w2.heap.size w (.slice A1 f.length d1) f L (.slice none 0 0) [] ⟨1, t, 0⟩ (M + 1) w3 := by
     have h0 : FR g w2.heap.size w (.slice A1 f.length d1) f L (.slice none 0 0) [] ⟨1, t, 0⟩ M (w2.alloc (.cells #[.int .i64 1, .string t, .int .i64 0] 31)) := by
      refine ⟨own_same HF2.out fun k hk => Below.heap_alloc _ _ _ (HF2.out.lt k hk).2, OwnE.nil, (fun k hk => by intro h; cases h), fun k hk => ?_, (fun k hk => by cases hk), Array.getElem?_push_size, HB2.out.alloc _, HN2.out.alloc _, hgB, hsz2⟩
      have := (HF2.out.lt k hk).2; omega
     exact h0.call hb3 hn3
    have hg3 := hn3.lt
    clear hb3 hn3 HX8 HF2 HN2 HB2
    go_cut [10, 11] (fun ov dv wx => ∃ (x : Tk) (M' : Nat), ov = .slice none 0 0 ∧ dv = .int .i64 0 ∧ Hid (itemG false L c t [] 0 (M + 1) = (x, [], 0, M')) ∧ FR g w2.heap.size w (.slice A1 f.length d1) f L (.slice none 0 0) [] x M' wx)
    case first =>
     rcases (show c = 0 ∨ c = 1 ∨ c = 2 ∨ c = 3 ∨ c = 4 ∨ c = 5 ∨ c = 6 ∨ c = 7 from by omega) with rfl | rfl | rfl | rfl | rfl | rfl | rfl | rfl
     ·have hz := nextN_bd L (M + 1) 3 (by decide)
      have HI : Hid (itemG false L 0 t [] 0 (M + 1) = (⟨5, slotW.getD (nextN L (M + 1) 3).toNat ⟨#[]⟩, 0⟩, [], 0, M + 1 + 1)) := by
       show itemG false L 0 t [] 0 (M + 1) = _
       rfl
      have HX3 := Lib.hid (fun w h => next_any' L g (M + 1) 3 w h (by omega) (by decide) (by decide))
      generalize nextN L (M + 1) 3 = z at hz HI HX3
      have hzn : ((z.toNat : Nat) : Int) = z := by omega
      go_wp2_with fail
      refine (HX3.out _ (by exact HFR.num.alloc (.cells (slotW.map Value.string).toArray 9))).mono ?_
      rintro e w5 ⟨rfl, hb5, hn5⟩
      have q := words_at (xs := slotW) z hz.1 hz.2 hg3 (by exact hb5)
      have HFR5 := (HFR.alloc (.cells (slotW.map Value.string).toArray 9)).call hb5 hn5
      have hg5 := hn5.lt
      obtain ⟨p0, p1, p2, p3, p4, p5⟩ := box_facts HFR5.box
      generalize slotW.getD z.toNat ⟨#[]⟩ = word at q HI
      clear hb5 hn5 HX3
      go_wp2_with fail
      go_meet
      exact ⟨⟨5, word, 0⟩, M + 1 + 1, rfl, rfl, HI.out, HFR5.set3 ⟨5, word, 0⟩⟩
     ·have hz := nextN_bd L (M + 1) 3 (by decide)
      have HI : Hid (itemG false L 1 t [] 0 (M + 1) = (⟨5, slotW.getD (nextN L (M + 1) 3).toNat ⟨#[]⟩, 0⟩, [], 0, M + 1 + 1)) := by
       show itemG false L 1 t [] 0 (M + 1) = _
       rfl
      have HX3 := Lib.hid (fun w h => next_any' L g (M + 1) 3 w h (by omega) (by decide) (by decide))
      generalize nextN L (M + 1) 3 = z at hz HI HX3
      have hzn : ((z.toNat : Nat) : Int) = z := by omega
      go_wp2_with fail
      refine (HX3.out _ (by exact HFR.num.alloc (.cells (slotW.map Value.string).toArray 9))).mono ?_
      rintro e w5 ⟨rfl, hb5, hn5⟩
      have q := words_at (xs := slotW) z hz.1 hz.2 hg3 (by exact hb5)
      have HFR5 := (HFR.alloc (.cells (slotW.map Value.string).toArray 9)).call hb5 hn5
      have hg5 := hn5.lt
      obtain ⟨p0, p1, p2, p3, p4, p5⟩ := box_facts HFR5.box
      generalize slotW.getD z.toNat ⟨#[]⟩ = word at q HI
      clear hb5 hn5 HX3
      go_wp2_with fail
      go_meet
      exact ⟨⟨5, word, 0⟩, M + 1 + 1, rfl, rfl, HI.out, HFR5.set3 ⟨5, word, 0⟩⟩
     ·have HI : Hid (itemG false L 2 t [] 0 (M + 1) = (⟨1, t, 0⟩, [], 0, M + 1)) := by
       show itemG false L 2 t [] 0 (M + 1) = _
       rfl
      go_wp2_with fail
      go_meet
      exact ⟨⟨1, t, 0⟩, M + 1, rfl, rfl, HI.out, HFR⟩
     ·have HI : Hid (itemG false L 3 t [] 0 (M + 1) = (⟨1, t, 0⟩, [], 0, M + 1)) := by
       show itemG false L 3 t [] 0 (M + 1) = _
       rfl
      go_wp2_with fail
      go_meet
      exact ⟨⟨1, t, 0⟩, M + 1, rfl, rfl, HI.out, HFR⟩
     ·have HI : Hid (itemG false L 4 t [] 0 (M + 1) = (⟨1, t, 0⟩, [], 0, M + 1)) := by
       show itemG false L 4 t [] 0 (M + 1) = _
       rfl
      go_wp2_with fail
      go_meet
      exact ⟨⟨1, t, 0⟩, M + 1, rfl, rfl, HI.out, HFR⟩
     ·have HI : Hid (itemG false L 5 t [] 0 (M + 1) = (⟨1, t, 0⟩, [], 0, M + 1)) := by
       show itemG false L 5 t [] 0 (M + 1) = _
       rfl
      go_wp2_with fail
      go_meet
      exact ⟨⟨1, t, 0⟩, M + 1, rfl, rfl, HI.out, HFR⟩
     ·have HI : Hid (itemG false L 6 t [] 0 (M + 1) = (⟨1, t, 0⟩, [], 0, M + 1)) := by
       show itemG false L 6 t [] 0 (M + 1) = _
       rfl
      go_wp2_with fail
      go_meet
      exact ⟨⟨1, t, 0⟩, M + 1, rfl, rfl, HI.out, HFR⟩
     ·have HI : Hid (itemG false L 7 t [] 0 (M + 1) = (⟨1, t, 0⟩, [], 0, M + 1)) := by
       show itemG false L 7 t [] 0 (M + 1) = _
       rfl
      go_wp2_with fail
      go_meet
      exact ⟨⟨1, t, 0⟩, M + 1, rfl, rfl, HI.out, HFR⟩
    case rest =>
     obtain ⟨x, M', rfl, rfl, HXI, HX⟩ := hcut
     have hG := HGG.out
     have hO := HOK2.out
     have hN3 := HN2'.out
     rw [HXI.out] at hG hO hN3
     simp only at hG hO hN3
     have HGX := Lib.hid hG
     have HOX := Lib.hid hO
     have hq1 : x.t.size ≤ 18 := (itemG_ok false L c t [] 0 (M + 1) r hl.1 (by simp) (by simp) (by omega) (fun _ => rfl) x [] 0 M' HXI.out).1
     obtain ⟨p0, p1, p2, _⟩ := box_facts HX.box
     clear hG hO HGG HOK2 HN2'
     go_wp2_with fail
     refine (rconcat_any f [x] _ _ _ (by exact (OwnE.rd tkC_three HX.own).alloc _) (by exact RdT.one_at _ _ rfl x _) (by rw [List.length_singleton]; omega) (by rw [bytesOf_one]; omega)).mono ?_
     rintro e w9 ⟨v9, rfl, hown9, hb9⟩; have HO9 := Lib.hid hown9; have HB9 := Lib.hid (((Below.refl wc.heap.size wc).alloc (Nat.le_refl _) _).trans (hb9.mono (by simp))); clear hown9 hb9
     go_wp2_with fail
     have hzx := HX.but.size
     have hz9 : (wc.alloc (.cells (tkC x).toArray 31)).heap.size = wc.heap.size + 1 := by simp
     go_roundg i
     case measure => omega
     case rel => exact ⟨⟨normL (f ++ [x]), [], 0, M'⟩, i, r + 1, rfl, rfl, by go_num, by omega, rfl, rfl, by show M' ≤ _; omega, HOX.out, own_base HO9.out (by show w.heap.size ≤ (wc.alloc (.cells (tkC x).toArray 31)).heap.size; omega), HX.but.trans (But.of_below HB9.out), HX.num.keepg fun k hk => HB9.out.block k (by omega), HGX.out, Nat.le_refl _⟩
end Go.Proofs.YtfkojnofbpdjdaaGreatDoor

namespace Go.Proofs.YtfkojnofbpdjdaaGreatDoor
set_option maxRecDepth 100000
open Go.ChangeShapes Go.WideShapes Go.ChangeAt Go.RowKit
theorem returnsInHanded_both {H : Type} {enc : TypeId × Value → H} {a : Assume} {C : Checked} {os : Os} {f : FuncId} {fn : Func} {s : ChangeSpec} {conds : List PathCond} {apart fresh handsOn again : Bool} {X : World → Array Value → Prop}
 (hX : ∀ (w w' : World) (args : Array Value), w.heap = w'.heap → X w args → X w' args)
 (own : ownKnob C.prog.godebug = none) (started : os.Started) (noInit : C.prog.inits.idxOf? f = none) (hfn : C.prog.funcs[f]? = some fn)
 (witness : ∃ (w : World) (tape : Tape) (i : Input), w.os = os ∧ (w.forCall tape i).Shaped C.prog ∧ i.vars = [] ∧ Input.okWide C.prog (w.forCall tape i) .any w.heap.size f i ∧
   ((s.pre enc C.prog fn conds apart (w.forCall tape i).memory i.args ∧ X (w.forCall tape i).memory i.args) ∧ sizedMet enc C.prog fn (OpenSpec.ofChange s) apart (w.forCall tape i).memory i.args) ∧ a.holds C.prog (lone (Frame.enter C.prog f i.args .normal) [] (w.forCall tape i)))
 (contract : ∀ (W : World) (base : Nat) (args : Array Value) (ds gs : List (DataW H)) (before : List MemPlace),
   (∀ (j : Nat) t v, fn.params[j]? = some t → args[j]? = some v → Value.okWide C.prog W .any base t v) →
   DataW.Whole enc C.prog fn.params.toList s.vars apart W args.toList ds gs before →
   conds.all (PathCond.test C.prog ⟨fn.params.toList, ds, s.plain.varTypes C.prog, gs⟩) = true →
   (DataW.weightsEach C.prog (fn.params.toList ++ s.plain.varTypes C.prog) (ds ++ gs)).all (· ≤ reachBytes) = true → W.ShapedOpen C.prog → X W args →
   a.holds C.prog (lone (Frame.enter C.prog f args .normal) [] W) →
   Calls C.prog f args W fun e W' => ∃ v, e = .returned v ∧ s.post enc C.prog fn apart fresh handsOn again W args v W') :
 ReturnsInHanded a C os f .any (fun w args => (s.pre enc C.prog fn conds apart w args ∧ X w args) ∧ sizedMet enc C.prog fn (OpenSpec.ofChange s) apart w args) (s.post enc C.prog fn apart fresh handsOn again) := by
 refine returnsInHanded_of_calls own started noInit witness ?_
 intro w tape i _ hsh _ hok hpre hholds
 obtain ⟨_, _, _, fn', hfn', _, _, _, _, hval⟩ := hok
 have e : fn' = fn := Option.some.inj (hfn'.symm.trans hfn)
 subst e
 obtain ⟨⟨⟨ds, gs, before, hw, hc⟩, hx⟩, hz⟩ := hpre
 have hw' := DataW.Whole.of_heap (w' := w.forCall tape i) (by rfl) hw
 refine (contract (w.forCall tape i) w.heap.size i.args ds gs before hval hw' hc (hz.weights hw) hsh (hX _ _ _ (by rfl) hx) hholds).mono fun e W' ⟨v, he, hp⟩ => ?_
 subst he
 exact ChangeSpec.post_blind hp
def Got (w : World) : Prop := ∃ m, w.cell? ⟨0, 0, none⟩ = some (.int .i64 m)
theorem got_of {W : World} (h : W.ShapedOpen Tryz.prog) : Got W :=
 cell_of_shapedOpen_int (zero := #[.int .i64 0]) (t := 3) h (of_decide_eq_true (by kernel_rfl)) (by kernel_rfl) rfl (by kernel_rfl) (by kernel_rfl) Tryz.underlying3
end Go.Proofs.YtfkojnofbpdjdaaGreatDoor

namespace Go.Proofs.YtfkojnofbpdjdaaGreatDoor
set_option maxRecDepth 100000
open Go.RowKit
theorem bytes_le1024 : ∀ (f : List Tk), (∀ x ∈ f, x.t.size ≤ 1024) → bytesOf f ≤ 1024 * f.length
 | [], _ => by simp [bytesOf]
 | x :: f, h => by
   rw [show x :: f = [x] ++ f from rfl, bytesOf_append, bytesOf_one]
   have h1 := h x (by simp)
   have h2 := bytes_le1024 f fun y hy => h y (by simp [hy])
   simp
   omega
theorem hB_fragP (w : World) (A : Option Addr) (n c : Nat) (W : World) (hb : But w.heap.size (w.alloc (.cells #[.slice A n c, .int .i64 0] 29)) W) : Below w.heap.size w W :=
 ((Below.refl w.heap.size w).alloc (Nat.le_refl _) _).trans ⟨hb.os, hb.tape, hb.output, hb.size, fun k hk => hb.block k (by simp; omega) (by omega)⟩
end Go.Proofs.YtfkojnofbpdjdaaGreatDoor

namespace Go.Proofs.YtfkojnofbpdjdaaGreatDoor
set_option maxRecDepth 100000
open Go.RowKit
theorem drop_byte (s : ByteArray) (k : Nat) (h : k < s.size) : s.data.toList.drop k = s[k] :: s.data.toList.drop (k + 1) := by
 rw [List.drop_eq_getElem_cons (by rw [← Lib.size_eq]; exact h)]
 rfl
theorem drop_end (s : ByteArray) (k : Nat) (h : s.size ≤ k) : s.data.toList.drop k = [] := List.drop_of_length_le (by rw [← Lib.size_eq]; exact h)
theorem eq_of_int (c : UInt8) (n : Nat) (hn : n < 256) (h : (c.toNat : Int) = n) : c = UInt8.ofNat n := by
 apply UInt8.toNat_inj.1
 rw [UInt8.toNat_ofNat']
 omega
theorem wordly_any (n : Int) (w : World) (h0 : 0 ≤ n) (h1 : n < 256) :
 Calls Tryz.prog 99 #[.int .u8 n] w fun e w' => e = .returned (.bool (clsN n == 4 || clsN n == 3)) ∧ w = w' := by
 go_enter Tryz.func99, Tryz.ntmps99
 go_wp2_with (go_at_call 97; refine (of_any _ _ h0 h1).mono ?_; rintro e w' ⟨rfl, rfl⟩)
 all_goals (go_ret; refine ⟨ret_bool ?_, rfl⟩)
 all_goals simp [*]
theorem digit_any (n : Int) (w : World) (h0 : 0 ≤ n) (h1 : n < 256) :
 Calls Tryz.prog 100 #[.int .u8 n] w fun e w' => e = .returned (.bool (clsN n == 3)) ∧ w = w' := by
 go_enter Tryz.func100, Tryz.ntmps100
 go_wp2_with (go_at_call 97; refine (of_any _ _ h0 h1).mono ?_; rintro e w' ⟨rfl, rfl⟩)
 go_ret
 exact ⟨rfl, rfl⟩
theorem joined_wordly (s : ByteArray) (w : World) (hs : s.size ≤ 100000) (h0 : 0 < s.size) :
 Calls Tryz.prog 98 #[.string s, .string ⟨#[39, 45]⟩, .func (.func 99) #[] #[]] w fun e w' => ∃ n, e = .returned (.int .i64 ((1 + jn wordB 39 45 (s.data.toList.drop 1) : Nat) : Int)) ∧ w' = w.drewN n := by
 have j0 : ∀ h, ((⟨#[39, 45]⟩ : ByteArray)[0]'h).toNat = 39 := fun _ => rfl
 have j1 : ∀ h, ((⟨#[39, 45]⟩ : ByteArray)[1]'h).toNat = 45 := fun _ => rfl
 go_enter Tryz.func98, Tryz.ntmps98
 go_wp2
 go_loopw [7] (fun i wr => ∃ k m : Nat, 1 ≤ k ∧ k ≤ s.size ∧ i = .int .i64 k ∧ wr = w.drewN m ∧ Hid (1 + jn wordB 39 45 (s.data.toList.drop 1) = k + jn wordB 39 45 (s.data.toList.drop k))) (fun i _ => s.size - (intOf i).toNat)
 case atStart => exact ⟨1, 0, by omega, by omega, rfl, rfl, rfl⟩
 case round =>
  obtain ⟨k, m, hk1, hk, rfl, rfl, HR⟩ := hrel
  by_cases hlt : k < s.size
  ·have h255 : s[k].toNat < 256 := s[k].toNat_lt
   have HD := Lib.hid (drop_byte s k hlt)
   by_cases hin : wordB s[k] = true
   ·have ht : (clsN (s[k].toNat : Int) == 4 || clsN (s[k].toNat : Int) == 3) = true := hin
    have HI := Lib.hid hin
    clear hin
    go_wp2_with (go_at_call 99; refine (wordly_any _ _ (by omega) (by omega)).mono ?_; rintro e w' ⟨rfl, rfl⟩)
    refine ⟨⟨k + 1, m, by omega, by omega, by go_num, rfl, ?_⟩, by simp [intOf]; try omega⟩
    have hj := HR.out
    rw [HD.out, jn_in _ _ _ _ _ HI.out] at hj
    show _ = _
    omega
   ·have hin' : wordB s[k] = false := by simpa using hin
    have ht : (clsN (s[k].toNat : Int) == 4 || clsN (s[k].toNat : Int) == 3) = false := hin'
    have HI := Lib.hid hin'
    clear hin hin'
    by_cases c1 : ((s[k].toNat : Int) == 39) = true ∨ (((s[k].toNat : Int) == 39) = false ∧ ((s[k].toNat : Int) == 45) = true)
    ·have hjt : (s[k] == 39 || s[k] == 45) = true := by
      rcases c1 with h | ⟨_, h⟩
      ·have := eq_of_int s[k] 39 (by omega) (by simpa using h)
       rw [this]; rfl
      ·have := eq_of_int s[k] 45 (by omega) (by simpa using h)
       rw [this]; rfl
     have HJ := Lib.hid hjt
     clear hjt
     by_cases h2 : k + 1 < s.size
     ·have g255 : s[k + 1].toNat < 256 := s[k + 1].toNat_lt
      have HE := Lib.hid (drop_byte s (k + 1) h2)
      have e1 : IntKind.i64.wrap ((k : Int) + 1) = (k : Int) + 1 := by rw [IntKind.wrap_i64]; omega
      have e2 : ((k : Int) + 1).toNat = k + 1 := by omega
      have e3 : 0 ≤ (k : Int) + 1 := by omega
      have e4 : (k : Int) + 1 < (s.size : Int) := by omega
      by_cases hin2 : wordB s[k + 1] = true
      ·have ht2 : (clsN (s[k + 1].toNat : Int) == 4 || clsN (s[k + 1].toNat : Int) == 3) = true := hin2
       have HI2 := Lib.hid hin2
       clear hin2
       rcases c1 with c1 | ⟨c1, c2⟩
       all_goals
        go_wp2_with (go_at_call 99; refine (wordly_any _ _ (by omega) (by omega)).mono ?_; rintro e w' ⟨rfl, rfl⟩)
        go_quiet ((go_at_call 99; first | exact quiet_left (wordly_any _ _ (by omega) (by omega)) | exact quiet_add_left (wordly_any _ _ (by omega) (by omega))))
        clear e1
        go_wp2_with fail
        refine ⟨⟨k + 2, _, by omega, by omega, by go_num, rfl, ?_⟩, by simp [intOf]; try omega⟩
        have hj := HR.out
        rw [HD.out, HE.out, jn_two _ _ _ _ _ _ HI.out HJ.out HI2.out, show k + 1 + 1 = k + 2 from rfl] at hj
        show _ = _
        omega
      ·have hin2' : wordB s[k + 1] = false := by simpa using hin2
       have ht2 : (clsN (s[k + 1].toNat : Int) == 4 || clsN (s[k + 1].toNat : Int) == 3) = false := hin2'
       have HI2 := Lib.hid hin2'
       clear hin2 hin2'
       rcases c1 with c1 | ⟨c1, c2⟩
       all_goals
        go_wp2_with (go_at_call 99; refine (wordly_any _ _ (by omega) (by omega)).mono ?_; rintro e w' ⟨rfl, rfl⟩)
        go_quiet ((go_at_call 99; first | exact quiet_left (wordly_any _ _ (by omega) (by omega)) | exact quiet_add_left (wordly_any _ _ (by omega) (by omega))))
        clear e1
        go_wp2_with fail
        go_ret
        refine ⟨_, ret_int ?_, by first | rfl | exact World.drewN_drewN _ _ _⟩
        have hj := HR.out
        rw [HD.out, HE.out, jn_half _ _ _ _ _ _ HI.out HJ.out HI2.out] at hj
        omega
     ·have HE := Lib.hid (drop_end s (k + 1) (by omega))
      have e1 : IntKind.i64.wrap ((k : Int) + 1) = (k : Int) + 1 := by rw [IntKind.wrap_i64]; omega
      have e4 : decide ((k : Int) + 1 < (s.size : Int)) = false := by simp; omega
      rcases c1 with c1 | ⟨c1, c2⟩
      all_goals
       go_wp2_with (go_at_call 99; refine (wordly_any _ _ (by omega) (by omega)).mono ?_; rintro e w' ⟨rfl, rfl⟩)
       go_quiet ((go_at_call 99; first | exact quiet_left (wordly_any _ _ (by omega) (by omega)) | exact quiet_add_left (wordly_any _ _ (by omega) (by omega))))
       clear e1
       go_wp2_with fail
       go_ret
       refine ⟨_, ret_int ?_, by first | rfl | exact World.drewN_drewN _ _ _⟩
       have hj := HR.out
       rw [HD.out, HE.out, jn_end _ _ _ _ HI.out] at hj
       omega
    ·have c2 : ((s[k].toNat : Int) == 39) = false := by
      cases h : ((s[k].toNat : Int) == 39)
      ·rfl
      ·exact absurd (.inl h) c1
     have c3 : ((s[k].toNat : Int) == 45) = false := by
      cases h : ((s[k].toNat : Int) == 45)
      ·rfl
      ·exact absurd (.inr ⟨c2, h⟩) c1
     have hjf : (s[k] == 39 || s[k] == 45) = false := by
      rw [Bool.or_eq_false_iff]
      constructor
      ·rw [beq_eq_false_iff_ne]; intro h; rw [h] at c2; exact absurd c2 (by decide)
      ·rw [beq_eq_false_iff_ne]; intro h; rw [h] at c3; exact absurd c3 (by decide)
     have HJ := Lib.hid hjf
     clear hjf c1
     go_wp2_with (go_at_call 99; refine (wordly_any _ _ (by omega) (by omega)).mono ?_; rintro e w' ⟨rfl, rfl⟩)
     go_quiet ((go_at_call 99; first | exact quiet_left (wordly_any _ _ (by omega) (by omega)) | exact quiet_add_left (wordly_any _ _ (by omega) (by omega))))
     go_wp2_with fail
     go_ret
     refine ⟨_, ret_int ?_, by first | rfl | exact World.drewN_drewN _ _ _⟩
     have hj := HR.out
     rw [HD.out, jn_out _ _ _ _ _ HI.out HJ.out] at hj
     omega
  ·have HE := Lib.hid (drop_end s k (by omega))
   go_wp2_with fail
   go_ret
   refine ⟨_, ret_int ?_, by first | rfl | exact World.drewN_drewN _ _ _⟩
   have hj := HR.out
   rw [HE.out, jn_nil] at hj
   omega
end Go.Proofs.YtfkojnofbpdjdaaGreatDoor

namespace Go.Proofs.YtfkojnofbpdjdaaGreatDoor
set_option maxRecDepth 100000
open Go.RowKit
theorem joined_digit (s : ByteArray) (w : World) (hs : s.size ≤ 100000) (h0 : 0 < s.size) :
 Calls Tryz.prog 98 #[.string s, .string ⟨#[46, 44]⟩, .func (.func 100) #[] #[]] w fun e w' => ∃ n, e = .returned (.int .i64 ((1 + jn digB 46 44 (s.data.toList.drop 1) : Nat) : Int)) ∧ w' = w.drewN n := by
 have j0 : ∀ h, ((⟨#[46, 44]⟩ : ByteArray)[0]'h).toNat = 46 := fun _ => rfl
 have j1 : ∀ h, ((⟨#[46, 44]⟩ : ByteArray)[1]'h).toNat = 44 := fun _ => rfl
 go_enter Tryz.func98, Tryz.ntmps98
 go_wp2
 go_loopw [7] (fun i wr => ∃ k m : Nat, 1 ≤ k ∧ k ≤ s.size ∧ i = .int .i64 k ∧ wr = w.drewN m ∧ Hid (1 + jn digB 46 44 (s.data.toList.drop 1) = k + jn digB 46 44 (s.data.toList.drop k))) (fun i _ => s.size - (intOf i).toNat)
 case atStart => exact ⟨1, 0, by omega, by omega, rfl, rfl, rfl⟩
 case round =>
  obtain ⟨k, m, hk1, hk, rfl, rfl, HR⟩ := hrel
  by_cases hlt : k < s.size
  ·have h255 : s[k].toNat < 256 := s[k].toNat_lt
   have HD := Lib.hid (drop_byte s k hlt)
   by_cases hin : digB s[k] = true
   ·have ht : (clsN (s[k].toNat : Int) == 3) = true := hin
    have HI := Lib.hid hin
    clear hin
    go_wp2_with (go_at_call 100; refine (digit_any _ _ (by omega) (by omega)).mono ?_; rintro e w' ⟨rfl, rfl⟩)
    refine ⟨⟨k + 1, m, by omega, by omega, by go_num, rfl, ?_⟩, by simp [intOf]; try omega⟩
    have hj := HR.out
    rw [HD.out, jn_in _ _ _ _ _ HI.out] at hj
    show _ = _
    omega
   ·have hin' : digB s[k] = false := by simpa using hin
    have ht : (clsN (s[k].toNat : Int) == 3) = false := hin'
    have HI := Lib.hid hin'
    clear hin hin'
    by_cases c1 : ((s[k].toNat : Int) == 46) = true ∨ (((s[k].toNat : Int) == 46) = false ∧ ((s[k].toNat : Int) == 44) = true)
    ·have hjt : (s[k] == 46 || s[k] == 44) = true := by
      rcases c1 with h | ⟨_, h⟩
      ·have := eq_of_int s[k] 46 (by omega) (by simpa using h)
       rw [this]; rfl
      ·have := eq_of_int s[k] 44 (by omega) (by simpa using h)
       rw [this]; rfl
     have HJ := Lib.hid hjt
     clear hjt
     by_cases h2 : k + 1 < s.size
     ·have g255 : s[k + 1].toNat < 256 := s[k + 1].toNat_lt
      have HE := Lib.hid (drop_byte s (k + 1) h2)
      have e1 : IntKind.i64.wrap ((k : Int) + 1) = (k : Int) + 1 := by rw [IntKind.wrap_i64]; omega
      have e2 : ((k : Int) + 1).toNat = k + 1 := by omega
      have e3 : 0 ≤ (k : Int) + 1 := by omega
      have e4 : (k : Int) + 1 < (s.size : Int) := by omega
      by_cases hin2 : digB s[k + 1] = true
      ·have ht2 : (clsN (s[k + 1].toNat : Int) == 3) = true := hin2
       have HI2 := Lib.hid hin2
       clear hin2
       rcases c1 with c1 | ⟨c1, c2⟩
       all_goals
        go_wp2_with (go_at_call 100; refine (digit_any _ _ (by omega) (by omega)).mono ?_; rintro e w' ⟨rfl, rfl⟩)
        go_quiet ((go_at_call 100; first | exact quiet_left (digit_any _ _ (by omega) (by omega)) | exact quiet_add_left (digit_any _ _ (by omega) (by omega))))
        clear e1
        go_wp2_with fail
        refine ⟨⟨k + 2, _, by omega, by omega, by go_num, rfl, ?_⟩, by simp [intOf]; try omega⟩
        have hj := HR.out
        rw [HD.out, HE.out, jn_two _ _ _ _ _ _ HI.out HJ.out HI2.out, show k + 1 + 1 = k + 2 from rfl] at hj
        show _ = _
        omega
      ·have hin2' : digB s[k + 1] = false := by simpa using hin2
       have ht2 : (clsN (s[k + 1].toNat : Int) == 3) = false := hin2'
       have HI2 := Lib.hid hin2'
       clear hin2 hin2'
       rcases c1 with c1 | ⟨c1, c2⟩
       all_goals
        go_wp2_with (go_at_call 100; refine (digit_any _ _ (by omega) (by omega)).mono ?_; rintro e w' ⟨rfl, rfl⟩)
        go_quiet ((go_at_call 100; first | exact quiet_left (digit_any _ _ (by omega) (by omega)) | exact quiet_add_left (digit_any _ _ (by omega) (by omega))))
        clear e1
        go_wp2_with fail
        go_ret
        refine ⟨_, ret_int ?_, by first | rfl | exact World.drewN_drewN _ _ _⟩
        have hj := HR.out
        rw [HD.out, HE.out, jn_half _ _ _ _ _ _ HI.out HJ.out HI2.out] at hj
        omega
     ·have HE := Lib.hid (drop_end s (k + 1) (by omega))
      have e1 : IntKind.i64.wrap ((k : Int) + 1) = (k : Int) + 1 := by rw [IntKind.wrap_i64]; omega
      have e4 : decide ((k : Int) + 1 < (s.size : Int)) = false := by simp; omega
      rcases c1 with c1 | ⟨c1, c2⟩
      all_goals
       go_wp2_with (go_at_call 100; refine (digit_any _ _ (by omega) (by omega)).mono ?_; rintro e w' ⟨rfl, rfl⟩)
       go_quiet ((go_at_call 100; first | exact quiet_left (digit_any _ _ (by omega) (by omega)) | exact quiet_add_left (digit_any _ _ (by omega) (by omega))))
       clear e1
       go_wp2_with fail
       go_ret
       refine ⟨_, ret_int ?_, by first | rfl | exact World.drewN_drewN _ _ _⟩
       have hj := HR.out
       rw [HD.out, HE.out, jn_end _ _ _ _ HI.out] at hj
       omega
    ·have c2 : ((s[k].toNat : Int) == 46) = false := by
      cases h : ((s[k].toNat : Int) == 46)
      ·rfl
      ·exact absurd (.inl h) c1
     have c3 : ((s[k].toNat : Int) == 44) = false := by
      cases h : ((s[k].toNat : Int) == 44)
      ·rfl
      ·exact absurd (.inr ⟨c2, h⟩) c1
     have hjf : (s[k] == 46 || s[k] == 44) = false := by
      rw [Bool.or_eq_false_iff]
      constructor
      ·rw [beq_eq_false_iff_ne]; intro h; rw [h] at c2; exact absurd c2 (by decide)
      ·rw [beq_eq_false_iff_ne]; intro h; rw [h] at c3; exact absurd c3 (by decide)
     have HJ := Lib.hid hjf
     clear hjf c1
     go_wp2_with (go_at_call 100; refine (digit_any _ _ (by omega) (by omega)).mono ?_; rintro e w' ⟨rfl, rfl⟩)
     go_quiet ((go_at_call 100; first | exact quiet_left (digit_any _ _ (by omega) (by omega)) | exact quiet_add_left (digit_any _ _ (by omega) (by omega))))
     go_wp2_with fail
     go_ret
     refine ⟨_, ret_int ?_, by first | rfl | exact World.drewN_drewN _ _ _⟩
     have hj := HR.out
     rw [HD.out, jn_out _ _ _ _ _ HI.out HJ.out] at hj
     omega
  ·have HE := Lib.hid (drop_end s k (by omega))
   go_wp2_with fail
   go_ret
   refine ⟨_, ret_int ?_, by first | rfl | exact World.drewN_drewN _ _ _⟩
   have hj := HR.out
   rw [HE.out, jn_nil] at hj
   omega
end Go.Proofs.YtfkojnofbpdjdaaGreatDoor

namespace Go.Proofs.YtfkojnofbpdjdaaGreatDoor
set_option maxRecDepth 100000
open Go.RowKit
theorem nextL_word (s : ByteArray) (h : 0 < s.size) (hc : clsN (s[0].toNat : Int) = 4) : nextL s.data.toList = (6, 1 + jn wordB 39 45 (s.data.toList.drop 1)) := by
 have := drop_byte s 0 h
 rw [List.drop_zero] at this
 rw [this, nextL, if_pos hc]
 rfl
theorem nextL_num (s : ByteArray) (h : 0 < s.size) (hc : clsN (s[0].toNat : Int) = 3) : nextL s.data.toList = (7, 1 + jn digB 46 44 (s.data.toList.drop 1)) := by
 have := drop_byte s 0 h
 rw [List.drop_zero] at this
 rw [this, nextL, if_neg (by omega), if_pos hc]
 rfl
theorem nextL_sp (s : ByteArray) (h : 0 < s.size) (hc : clsN (s[0].toNat : Int) = 2) : nextL s.data.toList = (8, 1 + ((s.data.toList.drop 1).takeWhile spB).length) := by
 have := drop_byte s 0 h
 rw [List.drop_zero] at this
 rw [this, nextL, if_neg (by omega), if_neg (by omega), if_pos hc]
 rfl
theorem nextL_sign (s : ByteArray) (h : 0 < s.size) (h4 : clsN (s[0].toNat : Int) ≠ 4) (h3 : clsN (s[0].toNat : Int) ≠ 3) (h2 : clsN (s[0].toNat : Int) ≠ 2) : nextL s.data.toList = (9, 1) := by
 have := drop_byte s 0 h
 rw [List.drop_zero] at this
 rw [this, nextL, if_neg h4, if_neg h3, if_neg h2]
theorem tw_in (s : ByteArray) (k : Nat) (h : k < s.size) (hc : spB s[k] = true) : ((s.data.toList.drop k).takeWhile spB).length = ((s.data.toList.drop (k + 1)).takeWhile spB).length + 1 := by
 rw [drop_byte s k h, List.takeWhile_cons, if_pos hc, List.length_cons]
theorem tw_out (s : ByteArray) (k : Nat) (h : k < s.size) (hc : spB s[k] = false) : ((s.data.toList.drop k).takeWhile spB).length = 0 := by
 rw [drop_byte s k h, List.takeWhile_cons, if_neg (by rw [hc]; exact Bool.false_ne_true)]
 rfl
theorem tw_end (s : ByteArray) (k : Nat) (h : s.size ≤ k) : ((s.data.toList.drop k).takeWhile spB).length = 0 := by
 rw [drop_end s k h]
 rfl
theorem next_any (s : ByteArray) (w : World) (hs : s.size ≤ 100000) (h0 : 0 < s.size) :
 Calls Tryz.prog 58 #[.string s] w (QuietRet w (.tuple #[.int .i64 (nextL s.data.toList).1, .int .i64 ((nextL s.data.toList).2 : Int)])) := by
 have h255 : s[0].toNat < 256 := s[0].toNat_lt
 by_cases a4 : clsN (s[0].toNat : Int) = 4
 ·have C := fun w => joined_wordly s w hs h0
  have hn := nextL_word s h0 a4
  generalize 1 + jn wordB 39 45 (s.data.toList.drop 1) = q at C hn
  have HC := Lib.hid C
  have HN := Lib.hid hn
  clear C hn
  have t4 : (clsN (s[0].toNat : Int) == 4) = true := by rw [a4]; rfl
  have A4 := Lib.hid a4
  clear a4
  go_enter Tryz.func58, Tryz.ntmps58
  go_wp2_with (first
   | (go_at_call 97; refine (of_any _ _ (by omega) (by omega)).mono ?_; rintro e w' ⟨rfl, rfl⟩)
   | (go_at_call 98; refine (HC.out _).mono ?_; rintro e w1 ⟨n1, rfl, rfl⟩))
  go_ret2
  rw [HN.out]
  exact ⟨rfl, n1, rfl⟩
 have t4 : (clsN (s[0].toNat : Int) == 4) = false := by simpa using a4
 by_cases a3 : clsN (s[0].toNat : Int) = 3
 ·have C := fun w => joined_digit s w hs h0
  have hn := nextL_num s h0 a3
  generalize 1 + jn digB 46 44 (s.data.toList.drop 1) = q at C hn
  have HC := Lib.hid C
  have HN := Lib.hid hn
  clear C hn
  have t3 : (clsN (s[0].toNat : Int) == 3) = true := by rw [a3]; rfl
  clear a3 a4
  go_enter Tryz.func58, Tryz.ntmps58
  go_wp2_with (first
   | (go_at_call 97; refine (of_any _ _ (by omega) (by omega)).mono ?_; rintro e w' ⟨rfl, rfl⟩)
   | (go_at_call 98; refine (HC.out _).mono ?_; rintro e w1 ⟨n1, rfl, rfl⟩))
  go_ret2
  rw [HN.out]
  exact ⟨rfl, n1, rfl⟩
 have t3 : (clsN (s[0].toNat : Int) == 3) = false := by simpa using a3
 by_cases a2 : clsN (s[0].toNat : Int) = 2
 ·have HN := Lib.hid (nextL_sp s h0 a2)
  have t2 : (clsN (s[0].toNat : Int) == 2) = true := by rw [a2]; rfl
  clear a2 a3 a4
  go_enter Tryz.func58, Tryz.ntmps58
  go_wp2_with (go_at_call 97; refine (of_any _ _ (by omega) (by omega)).mono ?_; rintro e w' ⟨rfl, rfl⟩)
  go_loop [4] (fun i => ∃ k : Nat, 1 ≤ k ∧ k ≤ s.size ∧ i = .int .i64 k ∧ Hid (1 + ((s.data.toList.drop 1).takeWhile spB).length = k + ((s.data.toList.drop k).takeWhile spB).length)) (fun i => s.size - (intOf i).toNat)
  case atStart => exact ⟨1, by omega, by omega, rfl, rfl⟩
  case round =>
   obtain ⟨k, hk1, hk, rfl, HR⟩ := hrel
   by_cases hlt : k < s.size
   ·have g255 : s[k].toNat < 256 := s[k].toNat_lt
    by_cases hc : spB s[k] = true
    ·have ht : (clsN (s[k].toNat : Int) == 2) = true := hc
     have HC := Lib.hid (tw_in s k hlt hc)
     clear hc
     go_wp2_with (go_at_call 97; refine (of_any _ _ (by omega) (by omega)).mono ?_; rintro e w' ⟨rfl, rfl⟩)
     refine ⟨⟨k + 1, by omega, by omega, by go_num, ?_⟩, by simp [intOf]; try omega⟩
     have hj := HR.out
     rw [HC.out] at hj
     show _ = _
     omega
    ·have hc' : spB s[k] = false := by simpa using hc
     have ht : (clsN (s[k].toNat : Int) == 2) = false := hc'
     have HC := Lib.hid (tw_out s k hlt hc')
     clear hc hc'
     go_wp2_with (go_at_call 97; refine (of_any _ _ (by omega) (by omega)).mono ?_; rintro e w' ⟨rfl, rfl⟩)
     go_ret2
     have hj := HR.out
     rw [HC.out] at hj
     rw [HN.out]
     exact ⟨by rw [hj]; rfl, 0, rfl⟩
   ·have HC := Lib.hid (tw_end s k (by omega))
    go_wp2_with fail
    go_ret2
    have hj := HR.out
    rw [HC.out] at hj
    rw [HN.out]
    exact ⟨by rw [hj]; rfl, 0, rfl⟩
 ·have HN := Lib.hid (nextL_sign s h0 a4 a3 a2)
  have t2 : (clsN (s[0].toNat : Int) == 2) = false := by simpa using a2
  clear a2 a3 a4
  go_enter Tryz.func58, Tryz.ntmps58
  go_wp2_with (go_at_call 97; refine (of_any _ _ (by omega) (by omega)).mono ?_; rintro e w' ⟨rfl, rfl⟩)
  go_ret2
  rw [HN.out]
  exact ⟨rfl, 0, rfl⟩
end Go.Proofs.YtfkojnofbpdjdaaGreatDoor

namespace Go.Proofs.YtfkojnofbpdjdaaGreatDoor
set_option maxRecDepth 100000
open Go.RowKit
theorem cut_step (r : ByteArray) (h : 0 < r.size) (k : Int) (n : Nat) (hn : nextL r.data.toList = (k, n)) :
 (cutL r.data.toList).map tkOf = (⟨k, r.extract 0 n, 0⟩ : Tk) :: (cutL (r.extract n r.size).data.toList).map tkOf := by
 have hne : r.data.toList ≠ [] := by
  intro he
  have := Lib.size_eq r
  rw [he] at this
  simp only [List.length_nil] at this
  omega
 rw [cutL_cons _ hne, hn, List.map_cons, Lib.extract_data]
 have e1 : (r.data.toList.drop n).take (r.size - n) = r.data.toList.drop n := List.take_of_length_le (by rw [List.length_drop, ← Lib.size_eq]; exact Nat.le_refl _)
 rw [e1]
 congr 1
 simp only [tkOf, Tk.mk.injEq, true_and, and_true]
 rw [Lib.extract_eq, List.drop_zero, Nat.sub_zero]
theorem next_bounds (r : ByteArray) (h : 0 < r.size) (k : Int) (n : Nat) (hn : nextL r.data.toList = (k, n)) : 1 ≤ n ∧ n ≤ r.size := by
 have hne : r.data.toList ≠ [] := by
  intro he
  have := Lib.size_eq r
  rw [he] at this
  simp only [List.length_nil] at this
  omega
 have h1 := nextL_pos r.data.toList
 have h2 := nextL_le r.data.toList hne
 rw [hn] at h1 h2
 rw [Lib.size_eq]
 exact ⟨h1, h2⟩
theorem size_rest (r : ByteArray) (n : Nat) (_ : n ≤ r.size) : (r.extract n r.size).size = r.size - n := by simp
end Go.Proofs.YtfkojnofbpdjdaaGreatDoor

namespace Go.Proofs.YtfkojnofbpdjdaaGreatDoor
set_option maxRecDepth 100000
open Go.RowKit
theorem tok1_text (x : Tk) (h : x.k = 1) : tok1 x = (cutL x.t.data.toList).map tkOf := by rw [tok1, if_pos h]
theorem tok1_item (x : Tk) (h1 : 2 ≤ x.k) (h2 : x.k ≤ 5) : tok1 x = [x] := by rw [tok1, if_neg (by omega), if_pos ⟨h1, h2⟩]
theorem tok1_none (x : Tk) (h1 : x.k ≠ 1) (h2 : ¬ (2 ≤ x.k ∧ x.k ≤ 5)) : tok1 x = [] := by rw [tok1, if_neg h1, if_neg h2]
theorem tokens_bound (f : List Tk) (k : Nat) (hk : k < f.length) : (tokensL (f.take k)).length + f[k].t.size ≤ bytesOf f + f.length := by
 have h1 := tokensL_length (f.take k)
 have h2 := bytesOf_get f k hk
 rw [List.length_take] at h1
 omega
end Go.Proofs.YtfkojnofbpdjdaaGreatDoor

namespace Go.Proofs.YtfkojnofbpdjdaaGreatDoor
set_option maxRecDepth 100000
open Go.RowKit
theorem tokens_any (f : List Tk) (v : Value) (w : World) (hf : RdT w v f) (hl : f.length ≤ 100000) (hbt : bytesOf f ≤ 100000) :
 Calls Tryz.prog 30 #[v] w (RetOwn 127 tkC 3 w (tokensL f)) := by
 obtain ⟨A, c, rfl, _, _⟩ := hf.shape
 have HF := Lib.hid hf
 clear hf
 go_enter Tryz.func30, Tryz.ntmps30
 go_wp2
 go_loopw [3, 11] (fun ov i wr => ∃ k : Nat, k ≤ f.length ∧ i = .int .i64 k ∧ Hid (OwnT 127 wr w.heap.size ov (tokensL (f.take k))) ∧ Below w.heap.size w wr) (fun _ i _ => f.length - (intOf i).toNat)
 case atStart => exact ⟨0, by omega, rfl, OwnE.nil, Below.refl _ _⟩
 case round =>
  obtain ⟨k, hk, rfl, HO, hb⟩ := hrel
  have hsize := hb.size
  obtain ⟨A', c', hv⟩ := own_shape HO.out
  subst hv
  by_cases hkl : k < f.length
  ·obtain ⟨b, o, rfl, hbl, q1, q2, q3⟩ := RdT.at_ HF.out k hkl
   rw [← hb.cell (p := ⟨b, o + k * 3, none⟩) hbl] at q1
   rw [← hb.cell (p := ⟨b, o + k * 3 + 1, none⟩) hbl] at q2
   rw [← hb.cell (p := ⟨b, o + k * 3 + 2, none⟩) hbl] at q3
   have hbd := tokens_bound f k hkl
   have HT := Lib.hid (tokensL_take f k hkl)
   have hszk := bytesOf_get f k hkl
   generalize f[k] = x at q1 q2 q3 hbd HT hszk
   obtain ⟨xk, xt, xd⟩ := x
   simp only at q1 q2 q3 hbd hszk
   generalize tokensL (f.take k) = out at HO HT hbd
   by_cases h1 : xk = 1
   ·have HX := Lib.hid (tok1_text ⟨xk, xt, xd⟩ h1)
    subst h1
    go_wp2_with fail
    obtain ⟨wo, hwo⟩ : ∃ wo : World, wo = wr := ⟨_, rfl⟩
    subst hwo
    go_loopw [3, 6] (fun ov sv wi => ∃ (r : ByteArray) (acc : List Tk), sv = .string r ∧ Hid (OwnT 127 wi w.heap.size ov acc) ∧ Below w.heap.size w wi ∧ acc.length + r.size ≤ 200000 ∧ r.size ≤ 100000 ∧
     Hid (out ++ (cutL xt.data.toList).map tkOf = acc ++ (cutL r.data.toList).map tkOf)) (fun _ sv _ => strLen sv)
    case atStart => exact ⟨xt, out, rfl, World.ownsRow.alloc HO.out _, hb.alloc hsize _, by omega, by omega, rfl⟩
    case round =>
     obtain ⟨r, acc, rfl, HP, hbi, hle, hle2, HR⟩ := hrel
     have hsi := hbi.size
     obtain ⟨A2, c2, hv2⟩ := own_shape HP.out
     subst hv2
     by_cases hr : 0 < r.size
     ·have hne : (r.toList == []) = false := by
           rw [beq_eq_false_iff_ne, toList_eq_data]
           intro he
           have := Lib.size_eq r
           rw [he] at this
           simp only [List.length_nil] at this
           omega
      have hne2 : r.toList.isEmpty = false := by
           rw [List.isEmpty_eq_false_iff]
           simpa using hne
      have hnx := fun w => next_any r w hle2 hr
      obtain ⟨kk, nn, hn⟩ : ∃ kk nn, nextL r.data.toList = (kk, nn) := ⟨_, _, rfl⟩
      rw [hn] at hnx
      obtain ⟨n1, n2⟩ := next_bounds r hr _ _ hn
      have HS := Lib.hid (cut_step r hr _ _ hn)
      have HZ := Lib.hid (size_rest r nn n2)
      have HN := Lib.hid hnx
      clear hn hnx
      go_wp2_with (first
           | (go_at_call 58; refine (HN.out _).mono ?_; rintro e w1 ⟨rfl, nd, rfl⟩)
           | (at_builtin; go_must (refine wpList_app1 rfl (.tmp 37) (.tmp 43) 70 127 rfl Tryz.underlying70 _ 3 32 tok_info rfl (by decide) w.heap.size _ _ _ rfl (by exact World.ownsRow.alloc (show (wr.drewN nd).ownsRow _ _ _ _ _ _ from HP.out) _) ⟨wr.heap.size, 0, none⟩ 1 (tkC ⟨kk, r.extract 0 nn, 0⟩) rfl rfl (by exact cells_new _ _ _) (tkC_one _) (by omega) (by decide) (by simp; omega) ?_); intro g cap w2 hown2 hg2 hbel2 hgr2))
      refine ⟨⟨r.extract nn r.size, acc ++ [⟨kk, r.extract 0 nn, 0⟩], rfl, OwnE.snoc hown2, hbel2 _ _ (Nat.le_refl _) (by exact (below_drewN hbi nd).alloc (by exact hsi) _), by rw [HZ.out]; simp; omega, by rw [HZ.out]; omega, ?_⟩, by show (r.extract nn r.size).size < r.size; rw [HZ.out]; omega⟩
      exact HR.out.trans (by rw [HS.out, List.append_assoc]; rfl)
     ·have hz : r.data.toList = [] := List.eq_nil_of_length_eq_zero (by rw [← Lib.size_eq]; omega)
      have hre : r = ⟨#[]⟩ := bytes_ext hz
      subst hre
      go_wp2_with fail
      refine ⟨⟨k + 1, by omega, by go_num, ?_, hbi⟩, by simp [intOf]; try omega⟩
      have he := HR.out
      rw [hz, cutL_nil, List.map_nil, List.append_nil] at he
      rw [HT.out, HX.out, he]
      exact HP.out
   by_cases h2 : xk = 2
   ·subst h2
    have HX := Lib.hid (tok1_item ⟨2, xt, xd⟩ (by show (2 : Int) ≤ 2; omega) (by show (2 : Int) ≤ 5; omega))
    go_wp2_with (at_builtin; go_must (refine wpList_app1 rfl (.tmp 22) (.tmp 24) 70 127 rfl Tryz.underlying70 _ 3 32 tok_info rfl (by decide) w.heap.size _ out.length (out.flatMap tkC) rfl (by exact World.ownsRow.alloc (World.ownsRow.alloc HO.out _) _) ⟨wr.heap.size + 1, 0, none⟩ 1 (tkC ⟨2, xt, xd⟩) rfl rfl (by exact cells_at _ _ (by simp) _ _) (tkC_one _) (by omega) (by decide) (by simp; omega) ?_); intro g cap w1 hown1 hg1 hbel1 hgr1)
    refine ⟨⟨k + 1, by omega, by go_num, ?_, hbel1 _ _ (Nat.le_refl _) (by exact (hb.alloc hsize _).alloc (by simp; omega) _)⟩, by simp [intOf]; try omega⟩
    rw [HT.out, HX.out]
    exact OwnE.snoc hown1
   by_cases h3 : xk = 3
   ·subst h3
    have HX := Lib.hid (tok1_item ⟨3, xt, xd⟩ (by show (2 : Int) ≤ 3; omega) (by show (3 : Int) ≤ 5; omega))
    go_wp2_with (at_builtin; go_must (refine wpList_app1 rfl (.tmp 22) (.tmp 24) 70 127 rfl Tryz.underlying70 _ 3 32 tok_info rfl (by decide) w.heap.size _ out.length (out.flatMap tkC) rfl (by exact World.ownsRow.alloc (World.ownsRow.alloc HO.out _) _) ⟨wr.heap.size + 1, 0, none⟩ 1 (tkC ⟨3, xt, xd⟩) rfl rfl (by exact cells_at _ _ (by simp) _ _) (tkC_one _) (by omega) (by decide) (by simp; omega) ?_); intro g cap w1 hown1 hg1 hbel1 hgr1)
    refine ⟨⟨k + 1, by omega, by go_num, ?_, hbel1 _ _ (Nat.le_refl _) (by exact (hb.alloc hsize _).alloc (by simp; omega) _)⟩, by simp [intOf]; try omega⟩
    rw [HT.out, HX.out]
    exact OwnE.snoc hown1
   by_cases h4 : xk = 4
   ·subst h4
    have HX := Lib.hid (tok1_item ⟨4, xt, xd⟩ (by show (2 : Int) ≤ 4; omega) (by show (4 : Int) ≤ 5; omega))
    go_wp2_with (at_builtin; go_must (refine wpList_app1 rfl (.tmp 22) (.tmp 24) 70 127 rfl Tryz.underlying70 _ 3 32 tok_info rfl (by decide) w.heap.size _ out.length (out.flatMap tkC) rfl (by exact World.ownsRow.alloc (World.ownsRow.alloc HO.out _) _) ⟨wr.heap.size + 1, 0, none⟩ 1 (tkC ⟨4, xt, xd⟩) rfl rfl (by exact cells_at _ _ (by simp) _ _) (tkC_one _) (by omega) (by decide) (by simp; omega) ?_); intro g cap w1 hown1 hg1 hbel1 hgr1)
    refine ⟨⟨k + 1, by omega, by go_num, ?_, hbel1 _ _ (Nat.le_refl _) (by exact (hb.alloc hsize _).alloc (by simp; omega) _)⟩, by simp [intOf]; try omega⟩
    rw [HT.out, HX.out]
    exact OwnE.snoc hown1
   by_cases h5 : xk = 5
   ·subst h5
    have HX := Lib.hid (tok1_item ⟨5, xt, xd⟩ (by show (2 : Int) ≤ 5; omega) (by show (5 : Int) ≤ 5; omega))
    go_wp2_with (at_builtin; go_must (refine wpList_app1 rfl (.tmp 22) (.tmp 24) 70 127 rfl Tryz.underlying70 _ 3 32 tok_info rfl (by decide) w.heap.size _ out.length (out.flatMap tkC) rfl (by exact World.ownsRow.alloc (World.ownsRow.alloc HO.out _) _) ⟨wr.heap.size + 1, 0, none⟩ 1 (tkC ⟨5, xt, xd⟩) rfl rfl (by exact cells_at _ _ (by simp) _ _) (tkC_one _) (by omega) (by decide) (by simp; omega) ?_); intro g cap w1 hown1 hg1 hbel1 hgr1)
    refine ⟨⟨k + 1, by omega, by go_num, ?_, hbel1 _ _ (Nat.le_refl _) (by exact (hb.alloc hsize _).alloc (by simp; omega) _)⟩, by simp [intOf]; try omega⟩
    rw [HT.out, HX.out]
    exact OwnE.snoc hown1
   have HX := Lib.hid (tok1_none ⟨xk, xt, xd⟩ h1 (by show ¬ (2 ≤ xk ∧ xk ≤ 5); omega))
   have t1 : (xk == 1) = false := by simpa using h1
   have t2 : (xk == 2) = false := by simpa using h2
   have t3 : (xk == 3) = false := by simpa using h3
   have t4 : (xk == 4) = false := by simpa using h4
   have t5 : (xk == 5) = false := by simpa using h5
   clear h1 h2 h3 h4 h5
   go_wp2_with fail
   refine ⟨⟨k + 1, by omega, by go_num, ?_, hb.alloc hsize _⟩, by simp [intOf]; try omega⟩
   rw [HT.out, HX.out, List.append_nil]
   exact World.ownsRow.alloc HO.out _
  ·obtain rfl : k = f.length := by omega
   go_wp2_with fail
   go_ret
   refine ⟨_, rfl, ?_, hb⟩
   have he := HO.out
   rw [List.take_length] at he ⊢
   exact he
end Go.Proofs.YtfkojnofbpdjdaaGreatDoor

namespace Go.Proofs.YtfkojnofbpdjdaaGreatDoor
set_option maxRecDepth 100000
open Go.RowKit
theorem sameT_yes (l : List Tk) (v u : Value) (w : World) (h1 : RdT w v l) (h2 : RdT w u l) (hl : l.length ≤ 1000000) :
 Calls Tryz.prog 29 #[v, u] w (QuietRet w (.bool true)) := by
 obtain ⟨A, c, rfl, _, _⟩ := h1.shape
 obtain ⟨A2, c2, rfl, _, _⟩ := h2.shape
 have H1 := Lib.hid h1
 have H2 := Lib.hid h2
 clear h1 h2
 go_enter Tryz.func29, Tryz.ntmps29
 go_wp2_with fail
 go_loopw [13] (fun i wr => ∃ k nq : Nat, k ≤ l.length ∧ i = .int .i64 k ∧ wr = w.drewN nq) (fun i _ => l.length - (intOf i).toNat)
 case atStart => exact ⟨0, 0, by omega, rfl, rfl⟩
 case round =>
  obtain ⟨k, nq, hk, rfl, rfl⟩ := hrel
  by_cases hkl : k < l.length
  ·obtain ⟨b, o, rfl, hbl, q1, q2, q3⟩ := RdT.at_ H1.out k hkl
   obtain ⟨b2, o2, rfl, hbl2, r1, r2, r3⟩ := RdT.at_ H2.out k hkl
   generalize l[k] = x at q1 q2 q3 r1 r2 r3
   obtain ⟨xk, xt, xd⟩ := x
   simp only at q1 q2 q3 r1 r2 r3
   go_wp2_with fail
   go_quiet (fail)
   go_wp2_with fail
   exact ⟨⟨k + 1, _, by omega, by go_num, rfl⟩, by simp [intOf]; try omega⟩
  ·obtain rfl : k = l.length := by omega
   go_wp2_with fail
   go_ret
   exact ⟨rfl, nq, rfl⟩
end Go.Proofs.YtfkojnofbpdjdaaGreatDoor

namespace Go.Proofs.YtfkojnofbpdjdaaGreatDoor
set_option maxRecDepth 100000
open Go.RowKit
theorem decOk_any (m fmt : Int) (hf : FmtOk fmt) (ts : Els) (h : RawOk fmt ts) (hs : (rawE ts).length ≤ 65536) : DecOk m fmt (ofL (rawE ts)) (normL (itmE ts)) := by
 have hr : Rdb fmt (ofL (rawE ts)) ts := ⟨by simp [ofL], h.els, h.len, by rw [size_ofL]; omega⟩
 intro w hm
 rcases hf with rfl | rfl | rfl
 ·exact mkDecode_any _ ts m w hm hr h.num
 ·exact rsDecode_any _ ts w hr h.cont
 ·exact shDecode_any _ ts w hr
theorem plain_size (x : Tk) (h : PlainOk x) : x.t.size ≤ wdI x + 24 := by
 rcases h with h | ⟨h5, hn, _⟩
 ·unfold wdI
  rw [if_pos h]
  omega
 ·have : x.t.data.toList.length ≤ 24 := by
   cases hl : x.t.data.toList with
   | nil => simp
   | cons c r =>
     rw [hl] at hn
     unfold nameL at hn
     simp only [Bool.and_eq_true, decide_eq_true_eq] at hn
     simp
     omega
  rw [Lib.size_eq]
  omega
theorem encF_small (fmt : Int) : ∀ (f : List Tk), (∀ x ∈ f, PlainOk x) → (encF fmt f).length ≤ 5 * lenI f + 123 * f.length
 | [], _ => by simp [encF]
 | x :: f, h => by
   have h1 := encE_len fmt x
   have h2 := encF_small fmt f fun y hy => h y (by simp [hy])
   have h3 := plain_size x (h x (by simp))
   rw [show encF fmt (x :: f) = encE fmt x ++ encF fmt f from rfl, List.length_append, List.length_cons, lenI]
   omega
theorem pcI_size (x : Tk) (a p q n : Nat) (h : x.t.size ≤ n) : ∀ y ∈ pcI x a p q, y.t.size ≤ n := by
 intro y hy
 unfold pcI at hy
 split at hy
 ·split at hy
  ·rw [List.mem_singleton.1 hy]; exact h
  ·simp at hy
 ·split at hy
  ·rw [List.mem_singleton.1 hy]
   show (x.t.extract _ _).size ≤ n
   rw [ByteArray.size_extract]
   omega
  ·simp at hy
theorem slI_size (p q n : Nat) : ∀ (f : List Tk) (a : Nat), (∀ x ∈ f, x.t.size ≤ n) → ∀ y ∈ slI f a p q, y.t.size ≤ n
 | [], _, _, y, hy => by simp [slI] at hy
 | x :: f, a, h, y, hy => by
   rw [slI] at hy
   rcases List.mem_append.1 hy with hy | hy
   ·exact pcI_size x a p q n (h x (by simp)) y hy
   ·exact slI_size p q n f _ (fun z hz => h z (by simp [hz])) y hy
structure PlF (F : List Tk) : Prop where
 nrm : Normal F
 pl : ∀ x ∈ F, PlainOk x
 len : F.length ≤ 8
 li : lenI F ≤ 152
theorem plF_gen (L : List Int) : PlF (fragG false L 0 ((6 : Nat) : Int)).1 := by
 obtain ⟨h1, h2, h3, h4⟩ := fragG_plain L 0 6 (by decide)
 exact ⟨h1, h2, h3, h4⟩
theorem PlF.raw {F : List Tk} (h : PlF F) (fmt : Int) (hf : FmtOk fmt) : RawOk fmt (tsF fmt F) := plain_raw fmt hf F h.pl (by have := h.li; omega)
theorem PlF.enc {F : List Tk} (h : PlF F) (fmt : Int) : (encF fmt F).length ≤ 2000 := by
 have h1 := encF_small fmt F h.pl
 have h2 := h.li
 have h3 := h.len
 omega
theorem PlF.dec {F : List Tk} (h : PlF F) (m fmt : Int) (hf : FmtOk fmt) : DecOk m fmt (ofL (encF fmt F)) F := by
 have h1 := decOk_any m fmt hf (tsF fmt F) (h.raw fmt hf) (by rw [raw_tsF]; have := h.enc fmt; omega)
 rw [plain_back fmt F h.nrm, raw_tsF] at h1
 exact h1
theorem PlF.src {F : List Tk} (h : PlF F) (p q : Nat) : (slI F 0 p q).length ≤ 8 ∧ bytesOf (slI F 0 p q) ≤ 8192 := by
 have h1 := slI_len F 0 p q
 have h2 := h.len
 have h3 := bytes_le1024 (slI F 0 p q) (slI_size p q 1024 F 0 fun x hx => by
  have := plain_size x (h.pl x hx)
  have h4 := h.li
  have h5 : wdI x ≤ lenI F := by
   obtain ⟨a, b, rfl⟩ := List.append_of_mem hx
   rw [lenI_appD, lenI]
   omega
  omega)
 exact ⟨by omega, by omega⟩
def lsC (F G : List Tk) : List RL := [.unit [97] (tsF 2 F), .unit [98] (tsF 2 G)]
def rsC (F G : List Tk) : List Rc := [⟨[.bare [97]], Lib.decDigits 1, tsF 3 F, []⟩, ⟨[.bare [98]], Lib.decDigits 2, tsF 3 G, []⟩]
def psRC (F G : List Tk) : List Pt := ptsD (unsRL (lsC F G)).1 (unsRL (lsC F G)).2
def psSC (F G : List Tk) : List Pt := ptsD (unsSh [.bare [105, 100]] [] (rsC F G)).1 ((unsSh [.bare [105, 100]] [] (rsC F G)).2 ++ [10])
def ksC (F G : List Tk) : List (Nat × List Tk) := [(1, F), (3, G)]
theorem psRC_len (F G : List Tk) : (psRC F G).length = 5 := rfl
theorem psSC_len (F G : List Tk) : (psSC F G).length = 5 := rfl
theorem lsC_raw (F G : List Tk) : ofL (rawR (lsC F G)) = (⟨#[97, 61]⟩ : ByteArray) ++ ofL (encF 2 F) ++ (⟨#[10, 98, 61]⟩ : ByteArray) ++ ofL (encF 2 G) ++ (⟨#[10]⟩ : ByteArray) := by
 apply ByteArray.ext
 apply Array.toList_inj.1
 simp [ofL, rawR, lsC, rawRL, raw_tsF]
theorem rsC_raw (F G : List Tk) : ofL (rawSh [.bare [105, 100]] [] (rsC F G) ++ [10]) = (⟨#[105, 100, 44, 116, 101, 120, 116, 10, 97, 44, 34]⟩ : ByteArray) ++ ofL (encF 3 F) ++ (⟨#[34, 10, 98, 44, 34]⟩ : ByteArray) ++ ofL (encF 3 G) ++ (⟨#[34, 10]⟩ : ByteArray) := by
 apply ByteArray.ext
 apply Array.toList_inj.1
 simp [ofL, rawSh, rsC, rawHd, rawRc, rawPre, rawPost, rawFl, wText, raw_tsF]
theorem splR (m : Int) (F G : List Tk) (hF : PlF F) (hG : PlF G) : SplOk m 2 ((⟨#[97, 61]⟩ : ByteArray) ++ ofL (encF 2 F) ++ (⟨#[10, 98, 61]⟩ : ByteArray) ++ ofL (encF 2 G) ++ (⟨#[10]⟩ : ByteArray)) (psRC F G) := fun w hm => by
 rw [← lsC_raw]
 have h1 := hF.enc 2
 have h2 := hG.enc 2
 exact rsSplit_any _ (lsC F G) m w hm (by simp [ofL]) (fun x hx => by
  simp only [lsC, List.mem_cons, List.not_mem_nil, or_false] at hx
  rcases hx with rfl | rfl
  ·exact ⟨by decide, by decide, by decide, hF.raw 2 (.inr (.inl rfl))⟩
  ·exact ⟨by decide, by decide, by decide, hG.raw 2 (.inr (.inl rfl))⟩) (by show ([[97], [98]] : List (List UInt8)).Nodup; decide) (by show 2 ≤ 1000; decide) (by rw [size_ofL]; simp [rawR, lsC, rawRL, raw_tsF]; omega)
theorem splS (m : Int) (F G : List Tk) (hF : PlF F) (hG : PlF G) : SplOk m 3 ((⟨#[105, 100, 44, 116, 101, 120, 116, 10, 97, 44, 34]⟩ : ByteArray) ++ ofL (encF 3 F) ++ (⟨#[34, 10, 98, 44, 34]⟩ : ByteArray) ++ ofL (encF 3 G) ++ (⟨#[34, 10]⟩ : ByteArray)) (psSC F G) := fun w hm => by
 rw [← rsC_raw]
 have h1 := hF.enc 3
 have h2 := hG.enc 3
 exact shSplit_any _ [.bare [105, 100]] [] (rsC F G) [10] w (.inr rfl) (by simp [ofL]) (fun f hf => by
  rw [List.mem_singleton.1 hf]
  exact ⟨by show ∀ c ∈ ([105, 100] : List UInt8), _; decide, by decide⟩) (fun f hf => by simp at hf) (fun r hr => by
  simp only [rsC, List.mem_cons, List.not_mem_nil, or_false] at hr
  rcases hr with rfl | rfl
  ·exact ⟨rfl, rfl, fun f hf => by rw [List.mem_singleton.1 hf]; show ∀ c ∈ ([97] : List UInt8), _; decide, fun f hf => by simp at hf, hF.raw 3 (.inr (.inr rfl))⟩
  ·exact ⟨rfl, rfl, fun f hf => by rw [List.mem_singleton.1 hf]; show ∀ c ∈ ([98] : List UInt8), _; decide, fun f hf => by simp at hf, hG.raw 3 (.inr (.inr rfl))⟩) (fun i r hi => by
  rcases i with _ | _ | i
  ·simp [rsC] at hi; rw [← hi]
  ·simp [rsC] at hi; rw [← hi]
  ·simp [rsC] at hi) (by show 2 ≤ 98; decide) (by decide) (by rw [size_ofL]; simp [rawSh, rsC, rawHd, rawRc, rawPre, rawPost, rawFl, wText, raw_tsF]; omega)
theorem unR (m : Int) (F G : List Tk) (hF : PlF F) (hG : PlF G) : UnOk m 2 (psRC F G) (ksC F G) where
 ok := .inr (.inl rfl)
 idx := rfl
 each := fun x hx => by
  simp only [ksC, List.mem_cons, List.not_mem_nil, or_false] at hx
  rcases hx with rfl | rfl
  ·refine ⟨by rw [psRC_len]; show _ < 5; first | (show 1 < 5; decide) | (show 3 < 5; decide), rfl, ?_, by have := hF.li; show lenI F ≤ 1000; omega, by have := hF.len; show F.length ≤ 1000; omega⟩
   have := hF.dec m 2 (.inr (.inl rfl))
   rw [← raw_tsF] at this
   exact this
  ·refine ⟨by rw [psRC_len]; show _ < 5; first | (show 1 < 5; decide) | (show 3 < 5; decide), rfl, ?_, by have := hG.li; show lenI G ≤ 1000; omega, by have := hG.len; show G.length ≤ 1000; omega⟩
   have := hG.dec m 2 (.inr (.inl rfl))
   rw [← raw_tsF] at this
   exact this
 len := by rw [psRC_len]; decide
theorem unS (m : Int) (F G : List Tk) (hF : PlF F) (hG : PlF G) : UnOk m 3 (psSC F G) (ksC F G) where
 ok := .inr (.inr rfl)
 idx := rfl
 each := fun x hx => by
  simp only [ksC, List.mem_cons, List.not_mem_nil, or_false] at hx
  rcases hx with rfl | rfl
  ·refine ⟨by rw [psSC_len]; show _ < 5; first | (show 1 < 5; decide) | (show 3 < 5; decide), rfl, ?_, by have := hF.li; show lenI F ≤ 1000; omega, by have := hF.len; show F.length ≤ 1000; omega⟩
   have := hF.dec m 3 (.inr (.inr rfl))
   rw [← raw_tsF] at this
   exact this
  ·refine ⟨by rw [psSC_len]; show _ < 5; first | (show 1 < 5; decide) | (show 3 < 5; decide), rfl, ?_, by have := hG.li; show lenI G ≤ 1000; omega, by have := hG.len; show G.length ≤ 1000; omega⟩
   have := hG.dec m 3 (.inr (.inr rfl))
   rw [← raw_tsF] at this
   exact this
 len := by rw [psSC_len]; decide
theorem pcsC_src (F G : List Tk) (hF : PlF F) (hG : PlF G) : (pcsL (ksC F G)).length ≤ 1000 ∧ ∀ y ∈ pcsL (ksC F G), y.src.length ≤ 8 ∧ bytesOf y.src ≤ 8192 := by
 have e : pcsL (ksC F G) = pcsU 1 F ++ pcsU 3 G := by simp [pcsL, ksC]
 rw [e]
 have h1 := pcsU_len 1 F
 have h2 := pcsU_len 3 G
 have h3 := hF.li
 have h4 := hG.li
 refine ⟨by rw [List.length_append]; omega, fun y hy => ?_⟩
 rcases List.mem_append.1 hy with hy | hy
 ·obtain ⟨r, _, rfl⟩ := List.mem_map.1 hy
  exact hF.src r.1 r.2
 ·obtain ⟨r, _, rfl⟩ := List.mem_map.1 hy
  exact hG.src r.1 r.2
end Go.Proofs.YtfkojnofbpdjdaaGreatDoor
