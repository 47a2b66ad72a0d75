/-
  Contracts and plain laws, part 5 of those that this chapter's claims share.
-/
import Derived.Test.YtpboaadjbkaidaaDoorPack4
import Derived.Test.YtpboaadjbkaidaaDoorPack2
import Derived.Test.YtpboaadjbkaidaaDoorPack3
import Derived.Test.YtpboaadjbkaidaaDoorPack1
namespace Go.Proofs.YtpboaadjbkaidaaDoor
set_option maxRecDepth 100000
open Go.RowKit

theorem RS.but {eR : TypeId} {g B : Nat} {w w' : World} {v : Value} {rs : List Ru} {ys : List RuV} (h : RS eR [g] B w v rs ys) (hb : But g w w') : RS eR [g] B w' v rs ys :=
  h.keep hb.size fun b hlt hX => hb.block b hlt (fun e => hX (by rw [e]; exact List.mem_singleton.2 rfl))
theorem RS.alloc {eR : TypeId} {X : List Nat} {B : Nat} {w : World} {v : Value} {rs : List Ru} {ys : List RuV} (h : RS eR X B w v rs ys) (o : Obj) : RS eR X B (w.alloc o) v rs ys :=
  h.keep (by simp) fun b hlt _ => Below.heap_alloc w o b hlt
/-- A call that makes rules out of numbers. -/
def RulesRetM (L : List Int) (g : Nat) (r : List Ru × Nat) (w : World) (e : Ending) (w' : World) : Prop :=
  ∃ v, e = .returned v ∧ RdRu w' v r.1 ∧ But g w w' ∧ Nums w' g L r.2

set_option maxRecDepth 100000 in
set_option maxHeartbeats 4000000 in
theorem rulesM_any (L : List Int) (g N n : Nat) (w : World) (hnum : Nums w g L N) (hN : N ≤ 100000) (hn : n ≤ 100) :
    Calls Tryd.prog 64 #[.pointer (some ⟨g, 0, none⟩), .int .i64 n] w (RulesRetM L g (rulesM L N n) w) := by
  obtain ⟨R, HRR⟩ : ∃ R, Hid (R = RulesRetM L g (rulesM L N n) w) := ⟨_, rfl⟩
  rw [← HRR.out]
  obtain ⟨TT, HTT⟩ : ∃ TT, Hid (rulesGo L (nextN L N ((n : Int) + 1)).toNat (N + 1) [] = TT) := ⟨_, rfl⟩
  have HTR : Hid (R = RulesRetM L g TT w) := by
    show _ = _
    rw [HRR.out, ← HTT.out]
    rfl
  clear HRR
  have hg0 := hnum.lt
  have hz := nextN_bd L N (n + 1) (by omega)
  have HNU := Lib.hid hnum
  clear hnum
  go_enter Tryd.func64, Tryd.ntmps64
  go_upto_region 3 with (go_at_call 63; refine (next_any' L g N ((n : Int) + 1) _ (by exact HNU.out) (by omega) (by omega) (by omega)).mono ?_; rintro e w1 ⟨rfl, hb1, hn1⟩)
  generalize nextN L N ((n : Int) + 1) = z at hz hn1 HTT ⊢
  obtain ⟨z', rfl⟩ : ∃ z' : Nat, z = (z' : Int) := ⟨z.toNat, by omega⟩
  rw [Int.toNat_natCast] at HTT
  have HB1 := Lib.hid hb1
  have HN1 := Lib.hid hn1
  clear hb1 hn1 HNU
  go_loopg [5, 6] z' (fun m pv iv wr => ∃ (rs : List Ru) (ys : List RuV) (i M : Nat), iv = .int .i64 i ∧ Hid (RS 30 [g] w.heap.size wr pv rs ys) ∧ Hid (But g w wr) ∧ Hid (Nums wr g L M) ∧ rs.length + i ≤ n ∧ M + 43 * i ≤ N + 1 + 43 * n ∧ Hid (rulesGo L i M rs = TT) ∧ i ≤ m)
  case atStart => exact ⟨[], [], z', N + 1, rfl, RS.start (fun b hb => by rw [List.mem_singleton.1 hb]; exact hg0), HB1.out, HN1.out, by simp; omega, by omega, HTT.out, Nat.le_refl _⟩
  case round =>
    clear HB1 HN1 HTT
    obtain ⟨rs, ys, i, M, rfl, HO, HB, HNU, hpi, hM, HV, hgk⟩ := hrel
    by_cases hi0 : 0 < i
    · have hi0i : (0 : Int) < (i : Int) := by omega
      obtain ⟨A, cA, hpv⟩ := own_shape HO.out.own
      subst hpv
      have hlen := HO.out.len
      have hlen2 : ys.length + i ≤ n := by omega
      clear hlen
      have HV2 : Hid (rulesGo L (i - 1) (ruleN L M) (rs ++ [ruleM L M]) = TT) := by
        show _ = _
        rw [← HV.out]
        obtain ⟨i', rfl⟩ : ∃ i', i = i' + 1 := ⟨i - 1, by omega⟩
        rfl
      clear HV
      have hNN := ruleN_bd L M
      have HRU : Hid (ruleM L M = ⟨decide (0 < nextN L M 3), (atomsM L (M + 1) 2).1, (atomsM L (atomsM L (M + 1) 2).2 2).1⟩ ∧ ruleN L M = (atomsM L (atomsM L (M + 1) 2).2 2).2) := Lib.hid ⟨rfl, rfl⟩
      generalize ruleM L M = rm at HRU HV2
      generalize ruleN L M = rn at HRU HV2 hNN
      have hz1 := nextN_bd L M 3 (by decide)
      have HC1 := Lib.hid (fun w h => next_any' L g M 3 w h (by omega) (by decide) (by decide))
      have hba := atomsM_bd L (M + 1) 2 (by decide)
      have hM2 : (atomsM L (M + 1) 2).2 ≤ 1000000 := by
        have := hba.2.1
        have e : (2 : Int).toNat = 2 := rfl
        rw [e] at this
        omega
      have HC2 := Lib.hid (fun w h => atomsM_any L g (M + 1) 2 w h (by omega) (by decide))
      have HC3 := Lib.hid (fun w h => atomsM_any L g (atomsM L (M + 1) 2).2 2 w h hM2 (by decide))
      have hla := hba.1
      have hlb := (atomsM_bd L (atomsM L (M + 1) 2).2 2 (by decide)).1
      clear hba hM2
      change Hid (∀ w (h : Nums w g L (M + 1)), Calls _ _ _ w (AtomsRetM L g (atomsM L (M + 1) 2) w)) at HC2
      change Hid (∀ w (h : Nums w g L (atomsM L (M + 1) 2).2), Calls _ _ _ w (AtomsRetM L g (atomsM L (atomsM L (M + 1) 2).2 2) w)) at HC3
      generalize atomsM L (atomsM L (M + 1) 2).2 2 = s2 at HRU HC3 hlb
      generalize atomsM L (M + 1) 2 = s1 at HRU HC2 HC3 hla
      obtain ⟨p1, M1⟩ := s1
      obtain ⟨p2, M2⟩ := s2
      obtain ⟨rfl, hrn⟩ := HRU.out
      clear HRU
      simp only at hrn hla hlb HC3
      subst hrn
      generalize nextN L M 3 = z1 at hz1 HC1 HV2
      go_upto_region 4 with (first
        | (go_at_call 63; refine (HC1.out _ HNU.out).mono ?_; rintro e w2 ⟨rfl, hb2, hn2⟩)
        | (go_at_call 90; refine (HC2.out _ hn2).mono ?_; rintro e w3 ⟨v3, rfl, ho3, hb3, hn3⟩; obtain ⟨A3, c3, hv3⟩ := own_shape ho3; subst hv3)
        | (go_at_call 90; refine (HC3.out _ hn3).mono ?_; rintro e w4 ⟨v4, rfl, ho4, hb4, hn4⟩; obtain ⟨A4, c4, hv4⟩ := own_shape ho4; subst hv4; have HK5 := Lib.hid ((((HO.out.but hb2).but hb3).but hb4).alloc (.cells (ruC ⟨decide (0 < z1), ⟨A3, p1.length, c3⟩, ⟨A4, p2.length, c4⟩⟩).toArray 30)); have hws := hb4.size; have hbs := HB.out.size; have hw3 := hb3.size; have hw2 := hb2.size)
        | (refine wpList_appAt rfl (.tmp 15) (.tmp 24) 31 30 rfl Tryd.underlying31 _ ruC 3 56 rule_info rfl (by decide) ruC_len ruC_one w.heap.size (.slice A ys.length cA) ys rfl (HK5.out.own) (.slice (some ⟨w4.heap.size, 0, none⟩) 1 1) [⟨decide (0 < z1), ⟨A3, p1.length, c3⟩, ⟨A4, p2.length, c4⟩⟩] rfl (rdE_one_at ruC 3 ruC_len w4 _ rfl ⟨decide (0 < z1), ⟨A3, p1.length, c3⟩, ⟨A4, p2.length, c4⟩⟩ 30) (by simp only [List.length_singleton]; omega) (by decide) (by simp; omega) ?_; intro v7 w7 hown7 hbel7 hgr7 hat7))
      have HX : Hid (∀ b ∈ [g] ++ blkL (.slice A ys.length cA), b < wr.heap.size) := fun b hb => by
        rcases List.mem_append.1 hb with hb | hb
        · rw [List.mem_singleton.1 hb]; omega
        · exact (HO.out.own.lt b (mem_blkL.1 hb)).2
      have hk3 : Keep ([g] ++ blkL (.slice A ys.length cA)) w4 fun u => RdE atC 34 u (.slice A3 p1.length c3) p1 :=
        (OwnE.keepX atC_len ho3 (fun b hb => .inl (by have := HX.out b hb; omega))).step hb4.size fun b hlt hX => ⟨hb4.block b hlt (fun e => hX (by rw [e]; exact List.mem_append_left _ (List.mem_singleton.2 rfl))), hX⟩
      have hk4 : Keep ([g] ++ blkL (.slice A ys.length cA)) w4 fun u => RdE atC 34 u (.slice A4 p2.length c4) p2 :=
        OwnE.keepX atC_len ho4 (fun b hb => .inl (by have := HX.out b hb; omega))
      have hk5 := (hk3.and hk4).step (w' := w4.alloc (.cells (ruC ⟨decide (0 < z1), ⟨A3, p1.length, c3⟩, ⟨A4, p2.length, c4⟩⟩).toArray 30)) (by simp) (fun b hlt hX => ⟨Below.heap_alloc w4 _ b hlt, hX⟩)
      have HP7 : Hid (RS 30 [g] w.heap.size w7 v7 (rs ++ [⟨decide (0 < z1), p1, p2⟩]) (ys ++ [⟨decide (0 < z1), ⟨A3, p1.length, c3⟩, ⟨A4, p2.length, c4⟩⟩])) :=
        HK5.out.push (by simp; omega) ⟨decide (0 < z1), p1, p2⟩ ⟨decide (0 < z1), ⟨A3, p1.length, c3⟩, ⟨A4, p2.length, c4⟩⟩ rfl hk5 hown7 hgr7 hat7
      have hbn := hbel7 w.heap.size (w4.alloc (.cells (ruC ⟨decide (0 < z1), ⟨A3, p1.length, c3⟩, ⟨A4, p2.length, c4⟩⟩).toArray 30)) (Nat.le_refl _) (Below.refl _ _)
      have hbn2 := ((Below.refl w.heap.size w4).alloc (by omega) (.cells (ruC ⟨decide (0 < z1), ⟨A3, p1.length, c3⟩, ⟨A4, p2.length, c4⟩⟩).toArray 30)).trans hbn
      have HB7 : Hid (But g w w7) := (((HB.out.trans hb2).trans hb3).trans hb4).bel hbn2 (by omega)
      have HN7 : Hid (Nums w7 g L rn) := nums_keep hn4 hbn2 hg0
      obtain ⟨A7, c7, hv7⟩ := own_shape hown7
      subst hv7
      clear hown7 hbel7 hgr7 hat7 hbn hbn2 HK5 hk3 hk4 hk5 HX ho3 ho4 hb2 hb3 hb4 hn2 hn3 hn4 HB HNU HO HC1 HC2 HC3
      go_wp2_with fail
      go_roundg (i - 1)
      case measure => omega
      case rel => exact ⟨rs ++ [Ru.mk (decide (0 < z1)) p1 p2], ys ++ [RuV.mk (decide (0 < z1)) ⟨A3, p1.length, c3⟩ ⟨A4, p2.length, c4⟩], i - 1, rn, by (show Value.int .i64 _ = Value.int .i64 _); congr 1; omega, HP7.out, HB7.out, HN7.out, by simp; omega, by omega, HV2.out, by omega⟩
    · obtain rfl : i = 0 := by omega
      go_wp2_with fail
      have e : TT = (rs, M) := HV.out.symm
      rw [HTR.out, e]
      exact ⟨_, rfl, HO.out.rd, HB.out, HNU.out⟩

/-- A call that returns some string of at most m bytes. -/
def RetStr (w : World) (m : Nat) (e : Ending) (w' : World) : Prop := ∃ u : ByteArray, u.size ≤ m ∧ e = .returned (.string u) ∧ Below w.heap.size w w'
def RetRules (w : World) (rs : List Ru) (e : Ending) (w' : World) : Prop := ∃ v, e = .returned v ∧ RdRu w' v rs ∧ Below w.heap.size w w'

set_option maxRecDepth 100000 in
set_option maxHeartbeats 4000000 in
theorem rules6_any (A : Option Addr) (c : Nat) (l : List Int) (w : World) (h : RdE intC 1 w (.slice A l.length c) l) (hin : ∀ x ∈ l, IntIn x) :
    Calls Tryd.prog 27 #[.slice A l.length c] w (RetRules w (rulesM l 0 5).1) := by
  obtain ⟨R, HRR⟩ : ∃ R, Hid (R = RetRules w (rulesM l 0 5).1) := ⟨_, rfl⟩
  rw [← HRR.out]
  have hN : Nums (w.alloc (.cells #[.slice A l.length c, .int .i64 0] 62)) w.heap.size l 0 :=
    ⟨_, w, Array.getElem?_push_size, h, Nat.le_refl _, fun k hk => Below.heap_alloc _ _ _ hk, hin⟩
  have HF := Lib.hid (rulesM_any l w.heap.size 0 5 _ hN (by decide) (by decide))
  clear hN h hin
  go_enter Tryd.func27, Tryd.ntmps27
  go_wp2_with (go_at_call 64; refine HF.out.mono ?_; rintro e w1 ⟨v, rfl, hown, hb, _⟩)
  rw [HRR.out]
  exact ⟨v, rfl, hown, ((Below.refl w.heap.size w).alloc (Nat.le_refl _) _).trans (hb.below (Nat.le_refl _) (by simp))⟩

set_option maxRecDepth 100000 in
set_option maxHeartbeats 4000000 in
theorem text6_any (A : Option Addr) (c : Nat) (l : List Int) (w : World) (hr : RdE intC 1 w (.slice A l.length c) l) (hin : ∀ x ∈ l, IntIn x) (hl : l.length ≤ 9223372036854775807) :
    Calls Tryd.prog 28 #[.slice A l.length c] w (RetStr w 30) := by
  obtain ⟨R, HRR⟩ : ∃ R, Hid (R = RetStr w 30) := ⟨_, rfl⟩
  rw [← HRR.out]
  have HR := Lib.hid hr
  have HI := Lib.hid hin
  clear hr hin
  have HCV := Lib.hid (fun (w : World) (x : Int) (h0 : 0 ≤ x) (h1 : x < 256) => run_string_of_byte (P := Tryd.prog) 23 9 5 Tryd.underlying23 Tryd.underlying5 Tryd.underlying9 x h0 h1 w)
  go_enter Tryd.func28, Tryd.ntmps28
  go_wp2_with fail
  go_loopg [3, 4] 30 (fun n sv iv wr => ∃ (u : ByteArray) (k : Nat), sv = .string u ∧ iv = .int .i64 k ∧ k ≤ 30 ∧ k ≤ l.length ∧ u.size ≤ k ∧ Hid (Below w.heap.size w wr) ∧ 30 - k ≤ n)
  case atStart => exact ⟨_, 0, rfl, rfl, by omega, by omega, by decide, Below.refl _ _, by omega⟩
  case round =>
    obtain ⟨u, k, rfl, rfl, hk, hkl, hu, HB, hgk⟩ := hrel
    by_cases hlt : k < l.length
    · have hlti : (k : Int) < (l.length : Int) := by omega
      by_cases h40 : k < 30
      · have h40i : (k : Int) < 30 := by omega
        obtain ⟨b, o, rfl, hbl, hcell⟩ := HR.out.cells (by omega)
        have q0 := (HB.out.cell (p := ⟨b, o + (k * 1 + 0), none⟩) hbl).trans (hcell k l[k] 0 _ (List.getElem?_eq_getElem hlt) rfl)
        rw [show o + (k * 1 + 0) = o + k by omega] at q0
        have hx := HI.out l[k] (List.getElem_mem _)
        generalize l[k] = x at q0 hx
        have HP := Lib.hid (fun w => place_any x 8 w hx (by decide) (by decide))
        have hz1 := Int.emod_nonneg x (show (8 : Int) ≠ 0 by decide)
        have hz2 := Int.emod_lt_of_pos x (show (0 : Int) < 8 by decide)
        generalize x % 8 = z at HP hz1 hz2
        have hz8 : z < ((⟨#[97, 98, 32, 46, 33, 65, 49, 60]⟩ : ByteArray).size : Int) := hz2
        obtain ⟨cb, HCB⟩ : ∃ cb : Nat, Hid (∀ h, ((⟨#[97, 98, 32, 46, 33, 65, 49, 60]⟩ : ByteArray)[z.toNat]'h).toNat = cb) := ⟨((⟨#[97, 98, 32, 46, 33, 65, 49, 60]⟩ : ByteArray).data.toList.getD z.toNat 0).toNat, fun h => by
          rw [List.getD_eq_getElem?_getD, List.getElem?_eq_getElem h]
          rfl⟩
        have hcb : cb < 256 := by rw [← HCB.out (by omega)]; exact UInt8.toNat_lt _
        have HC2 := Lib.hid (HCV.out wr cb (by omega) (by omega))
        have hcc := HCB.out
        clear HCB
        have hconv := HC2.out
        clear HC2
        go_wp2_with (go_at_call 14; refine (HP.out _).mono ?_; rintro e w' ⟨rfl, rfl⟩)

        go_roundg (30 - (k + 1))
        case measure => omega
        case rel => exact ⟨_, k + 1, rfl, by go_num, by omega, by omega, by rw [size_append]; show u.size + 1 ≤ k + 1; omega, HB.out.alloc HB.out.size _, Nat.le_refl _⟩
      · have h40i : ¬ (k : Int) < 30 := by omega
        go_wp2_with fail
        rw [HRR.out]
        exact ⟨u, by omega, rfl, HB.out⟩
    · have hlti : ¬ (k : Int) < (l.length : Int) := by omega
      go_wp2_with fail
      rw [HRR.out]
      exact ⟨u, by omega, rfl, HB.out⟩

end Go.Proofs.YtpboaadjbkaidaaDoor

namespace Go.Proofs.YtpboaadjbkaidaaDoor
set_option maxRecDepth 100000
open Go.RowKit

/-- What a call gives that returns places. -/
def RetReach (w : World) (n : Nat) (f : Nat → Bool) (e : Ending) (w' : World) : Prop := ∃ v, e = .returned v ∧ PlIn w' v n f ∧ Below w.heap.size w w'

set_option maxRecDepth 100000 in
set_option maxHeartbeats 4000000 in
theorem reach_any (l : List At) (s : ByteArray) (lv pv : Value) (f : Nat → Bool) (w : World) (hp : RdE atC 34 w lv l) (hpl : PlIn w pv (s.size + 1) f) (hs : s.size ≤ 2147483648) (hl : l.length ≤ 140737488355328) :
    Calls Tryd.prog 91 #[lv, .string s, pv] w (RetReach w (s.size + 1) (reachF s l f)) := by
  obtain ⟨A, c, rfl, hlc, _⟩ := hp.shape
  have HP := Lib.hid hp
  clear hp
  have hu := Tryd.underlying26
  have hi : (Tryd.prog.info? 26).map (·.size) = some 34 := atom_size
  obtain ⟨R, HR⟩ : ∃ R, Hid (R = reachF s l f) := ⟨_, rfl⟩
  rw [← HR.out]
  have HPL := Lib.hid hpl
  have HR0 : Hid (reachF s (l.drop 0) f = R) := by show _ = _; rw [HR.out]; rfl
  clear hpl HR
  go_enter Tryd.func91, Tryd.ntmps91
  go_wp2_with fail
  go_loopg [2, 11] l.length (fun n pv iv wr => ∃ (k : Nat) (g : Nat → Bool), k ≤ l.length ∧ iv = .int .i64 k ∧ Hid (PlIn wr pv (s.size + 1) g) ∧ Hid (reachF s (l.drop k) g = R) ∧ Hid (Below w.heap.size w wr) ∧ l.length - k ≤ n)
  case atStart => exact ⟨0, f, by omega, rfl, HPL.out, HR0.out, Below.refl _ _, by omega⟩
  case round =>
    clear HPL HR0
    obtain ⟨k, g, hk, rfl, HG, HR, HB, hgk⟩ := hrel
    by_cases hkl : k < l.length
    · have hki : (k : Int) < (l.length : Int) := by omega
      obtain ⟨b, o, rfl, hbl, hcell⟩ := HP.out.cells (by omega)
      have hx : l[k]? = some l[k] := List.getElem?_eq_getElem hkl
      have hrg : wr.rangeAt b (o + k * 34) (atC l[k]) := fun j v hj => by
        rw [Nat.add_assoc]
        exact (HB.out.cell (p := ⟨b, o + (k * 34 + j), none⟩) hbl).trans (hcell k _ j v hx hj)
      have HR2 : Hid (reachF s (l.drop (k + 1)) (advF l[k] s g) = R) := by
        have h := HR.out
        rw [List.drop_eq_getElem_cons hkl] at h
        exact h
      clear HR hx hcell
      generalize l[k] = x at hrg HR2
      have hz := HB.out.size
      have HA1 := Lib.hid ((at_zero wr).row x)
      have HB1 : Hid (Below w.heap.size w ((wr.alloc (.cells #[.int .u8 0, .int .u8 0, .int .u8 0, .int .u8 0, .int .u8 0, .int .u8 0, .int .u8 0, .int .u8 0, .int .u8 0, .int .u8 0, .int .u8 0, .int .u8 0, .int .u8 0, .int .u8 0, .int .u8 0, .int .u8 0, .int .u8 0, .int .u8 0, .int .u8 0, .int .u8 0, .int .u8 0, .int .u8 0, .int .u8 0, .int .u8 0, .int .u8 0, .int .u8 0, .int .u8 0, .int .u8 0, .int .u8 0, .int .u8 0, .int .u8 0, .int .u8 0, .int .i64 0, .bool false] 26)).setRow wr.heap.size (atC x).toArray)) := below_setRow (HB.out.alloc hz _) hz _
      have HG1 : Hid (PlIn ((wr.alloc (.cells #[.int .u8 0, .int .u8 0, .int .u8 0, .int .u8 0, .int .u8 0, .int .u8 0, .int .u8 0, .int .u8 0, .int .u8 0, .int .u8 0, .int .u8 0, .int .u8 0, .int .u8 0, .int .u8 0, .int .u8 0, .int .u8 0, .int .u8 0, .int .u8 0, .int .u8 0, .int .u8 0, .int .u8 0, .int .u8 0, .int .u8 0, .int .u8 0, .int .u8 0, .int .u8 0, .int .u8 0, .int .u8 0, .int .u8 0, .int .u8 0, .int .u8 0, .int .u8 0, .int .i64 0, .bool false] 26)).setRow wr.heap.size (atC x).toArray) u2 (s.size + 1) g) := HG.out.below (below_setRow ((Below.refl _ wr).alloc (Nat.le_refl _) _) (Nat.le_refl _) _) (Nat.le_refl _)
      have HX := Lib.hid (fun w h => advance_any x s u2 g w h hs)
      go_upto_region 4 with (first
        | (refine wpList_load_mid rfl 26 (.tmp 13) rfl b (o + k * 34) rfl (atC x) _ hrg hu rfl (by rw [hi, atC_len]) ?_)
        | (refine wpList_store_row rfl 26 (.tmp 8) (.tmp 14) rfl (wr.heap.size) (atC x).toArray rfl rfl 26 (atC ⟨noP, 0, false⟩).toArray (at_zero wr) (by rw [atom_size, atC_size]) (by simp only [atC_size]) (atC_oneA _) ?_))
      clear HG HB hrg
      generalize hg3 : wr.heap.size = g3 at HA1 HB1 HG1 hz ⊢
      generalize (wr.alloc (.cells #[.int .u8 0, .int .u8 0, .int .u8 0, .int .u8 0, .int .u8 0, .int .u8 0, .int .u8 0, .int .u8 0, .int .u8 0, .int .u8 0, .int .u8 0, .int .u8 0, .int .u8 0, .int .u8 0, .int .u8 0, .int .u8 0, .int .u8 0, .int .u8 0, .int .u8 0, .int .u8 0, .int .u8 0, .int .u8 0, .int .u8 0, .int .u8 0, .int .u8 0, .int .u8 0, .int .u8 0, .int .u8 0, .int .u8 0, .int .u8 0, .int .u8 0, .int .u8 0, .int .i64 0, .bool false] 26)).setRow g3 (atC x).toArray = w2 at HA1 HB1 HG1 ⊢
      clear hg3
      have hz2 := HB1.out.size
      go_wp2_with (first
        | (refine wpList_load_row rfl 26 (.tmp 8) rfl (g3) rfl 26 (atC x).toArray (0, 0) _ HA1.out Tryd.underlying26 rfl (by rw [atom_size, atC_size]) ?_)
        | (go_at_call 104; refine (HX.out _ (by exact HG1.out)).mono ?_; rintro e w3 ⟨g4, rfl, hg4, hr4, hb4⟩))
      go_roundg (l.length - (k + 1))
      case measure => omega
      case rel => exact ⟨k + 1, advF x s g, by omega, by go_num, row_pl hr4, HR2.out, HB1.out.trans (hb4.mono hz2), Nat.le_refl _⟩
    · have hki : ¬ (k : Int) < (l.length : Int) := by omega
      have HE : Hid (g = R) := by
        have h := HR.out
        rw [List.drop_eq_nil_of_le (by omega)] at h
        exact h
      go_wp2_with fail
      go_ret
      rw [HE.out] at HG
      exact ⟨_, rfl, HG.out, HB.out⟩

set_option maxRecDepth 100000 in
set_option maxHeartbeats 4000000 in
theorem start_any (s : ByteArray) (w : World) (hs : s.size ≤ 2147483648) :
    Calls Tryd.prog 105 #[.string s] w (RetPl w (s.size + 1) startF) := by
  have hmk := fun w => run_make_row' (P := Tryd.prog) 86 4 (.bool false) 1 Tryd.underlying86 bool_info rfl .i64 .i64 (s.size + 1) (by omega) (by omega) w
  rw [show ((s.size + 1 : Nat) : Int) = (s.size : Int) + 1 by omega] at hmk
  go_enter Tryd.func105, Tryd.ntmps105
  have HR0 : Hid ((w.alloc (.cells (madeCells #[.bool false] (s.size + 1)) 4)).rowIs w.heap.size 4 (s.size + 1) (fun _ => .bool false)) := World.rowIs_made w (.bool false) (s.size + 1) 4
  have HB0 := Lib.hid ((Below.refl w.heap.size w).alloc (Nat.le_refl _) (.cells (madeCells #[.bool false] (s.size + 1)) 4))
  go_upto_region 2 with fail
  generalize w.alloc (.cells (madeCells #[.bool false] (s.size + 1)) 4) = w1 at HR0 HB0 ⊢
  have r0 := HR0.out.cell (i := 0) (by omega)
  have rf := HR0.out.frozen 0
  have HR1 : Hid ((w1.setCell ⟨w.heap.size, 0, none⟩ (.bool true)).rowIs w.heap.size 4 (s.size + 1) (fun j => .bool (startF j))) := (HR0.out.set 0 (.bool true)).congr fun j _ => by
    unfold startF
    by_cases h : j = 0
    · rw [if_pos h, h]; rfl
    · rw [if_neg h, show (j == 0) = false from beq_eq_false_iff_ne.2 h]
  have hse : (0 : Int) < (s.size : Int) + 1 := by omega
  go_wp2_with fail
  go_ret
  exact ⟨w.heap.size, rfl, Nat.le_refl _, HR1.out, HB0.out.setCell (p := ⟨w.heap.size, 0, none⟩) (Nat.le_refl _) _⟩

end Go.Proofs.YtpboaadjbkaidaaDoor

namespace Go.Proofs.YtpboaadjbkaidaaDoor
set_option maxRecDepth 100000
open Go.RowKit

set_option maxRecDepth 100000 in
set_option maxHeartbeats 4000000 in
theorem longest_any (p : List At) (s : ByteArray) (pv : Value) (w : World) (hp : RdE atC 34 w pv p) (hs : s.size ≤ 2147483648) (hl : p.length ≤ 140737488355328) :
    Calls Tryd.prog 92 #[pv, .string s] w fun e w' => e = .returned (.int .i64 (longestF p s)) ∧ Below w.heap.size w w' := by
  obtain ⟨V, HV⟩ : ∃ V, Hid (V = longestF p s) := ⟨_, rfl⟩
  rw [← HV.out]
  go_enter Tryd.func92, Tryd.ntmps92
  go_wp2_with (first
    | (go_at_call 105; refine (start_any s _ hs).mono ?_; rintro e w1 ⟨g1, rfl, hg1, hr1, hb1⟩)
    | (go_at_call 91; refine (reach_any p s pv _ _ _ (by exact hp.below hb1 (Nat.le_refl _)) (by exact row_pl hr1) hs hl).mono ?_; rintro e w2 ⟨v2, rfl, hv2, hb2⟩; obtain ⟨b2, o2, c2, rfl, hbl2, hc2⟩ := hv2))
  obtain ⟨R, HR⟩ : ∃ R, Hid (R = reachF s p startF) := ⟨_, rfl⟩
  rw [← HR.out] at hc2
  have HC := Lib.hid hc2
  have HB2 := Lib.hid (hb1.trans (hb2.mono hb1.size))
  have HV0 : Hid (longF R (s.size + 1) = V) := by show _ = _; rw [HV.out, HR.out]; rfl
  clear hc2 hb1 hb2 hr1 HV HR hp
  go_loopg [6] (s.size + 1) (fun n iv wr => ∃ k : Nat, k ≤ s.size + 1 ∧ iv = .int .i64 ((k : Int) - 1) ∧ Hid (longF R k = V) ∧ w2 = wr ∧ k ≤ n)
  case atStart => exact ⟨s.size + 1, by omega, by (show Value.int .i64 _ = Value.int .i64 _); congr 1; omega, HV0.out, rfl, Nat.le_refl _⟩
  case round =>
    clear HV0
    obtain ⟨k, hk, rfl, HK, rfl, hgk⟩ := hrel
    cases k with
    | zero =>
      have HE : Hid (V = -1) := HK.out.symm
      rw [show ((0 : Nat) : Int) - 1 = -1 from rfl]
      go_wp2_with fail
      go_ret
      exact ⟨ret_int HE.out.symm, HB2.out⟩
    | succ m =>
      rw [show ((m + 1 : Nat) : Int) - 1 = (m : Int) by omega]
      have q := HC.out m (by omega)
      have hm0 : (0 : Int) ≤ (m : Int) := by omega
      have hm1 : (m : Int) < (s.size : Int) + 1 := by omega
      have HS : Hid ((if R m = true then (m : Int) else longF R m) = V) := HK.out
      clear HK
      cases hRm : R m with
      | true =>
        have HE : Hid (V = (m : Int)) := by show _ = _; rw [← HS.out, if_pos hRm]
        clear HS
        rw [hRm] at q
        go_wp2_with fail
        go_ret
        exact ⟨ret_int HE.out.symm, HB2.out⟩
      | false =>
        have HE : Hid (longF R m = V) := by show _ = _; rw [← HS.out, if_neg (by rw [hRm]; exact Bool.false_ne_true)]
        clear HS
        rw [hRm] at q
        go_wp2_with fail
        go_roundg m
        case measure => omega
        case rel => exact ⟨m, by omega, rfl, HE.out, rfl, Nat.le_refl _⟩

set_option maxRecDepth 100000 in
set_option maxHeartbeats 4000000 in
theorem prefix_any (p : List At) (s : ByteArray) (pv : Value) (w : World) (hp : RdE atC 34 w pv p) (hs : s.size ≤ 2147483648) (hl : p.length ≤ 140737488355328) :
    Calls Tryd.prog 66 #[pv, .string s] w fun e w' => e = .returned (.bool (prefixF p s)) ∧ Below w.heap.size w w' := by
  have HL := Lib.hid (longest_any p s pv w hp hs hl)
  have HP : Hid (prefixF p s = decide (0 ≤ longestF p s)) := rfl
  go_enter Tryd.func66, Tryd.ntmps66
  generalize longestF p s = z at HL HP
  go_wp2_with (go_at_call 92; refine HL.out.mono ?_; rintro e w1 ⟨rfl, hb1⟩)
  go_ret
  exact ⟨ret_bool (by rw [HP.out]), hb1⟩

set_option maxRecDepth 100000 in
set_option maxHeartbeats 4000000 in
theorem suffix_any (p : List At) (s : ByteArray) (pv : Value) (w : World) (hp : RdE atC 34 w pv p) (hs : s.size ≤ 2147483648) (hl : p.length ≤ 140737488355328) :
    Calls Tryd.prog 65 #[pv, .string s] w fun e w' => e = .returned (.bool (suffixF p s)) ∧ Below w.heap.size w w' := by
  have hmk := fun w => run_make_row' (P := Tryd.prog) 86 4 (.bool false) 1 Tryd.underlying86 bool_info rfl .i64 .i64 (s.size + 1) (by omega) (by omega) w
  rw [show ((s.size + 1 : Nat) : Int) = (s.size : Int) + 1 by omega] at hmk
  obtain ⟨V, HV⟩ : ∃ V, Hid (V = suffixF p s) := ⟨_, rfl⟩
  rw [← HV.out]
  go_enter Tryd.func65, Tryd.ntmps65
  have HR0 : Hid ((w.alloc (.cells (madeCells #[.bool false] (s.size + 1)) 4)).rowIs w.heap.size 4 (s.size + 1) (fun j => .bool (decide (j < 0)))) := (World.rowIs_made w (.bool false) (s.size + 1) 4).congr fun j _ => by rw [decide_eq_false (by omega)]
  have HB0 := Lib.hid ((Below.refl w.heap.size w).alloc (Nat.le_refl _) (.cells (madeCells #[.bool false] (s.size + 1)) 4))
  go_wp2_with fail
  generalize w.alloc (.cells (madeCells #[.bool false] (s.size + 1)) 4) = w1 at HR0 HB0
  go_loopg [13] (s.size + 1) (fun n kv wr => ∃ k : Nat, k ≤ s.size + 1 ∧ kv = .int .i64 k ∧ Hid (wr.rowIs w.heap.size 4 (s.size + 1) (fun j => .bool (decide (j < k)))) ∧ Hid (Below w.heap.size w wr) ∧ s.size + 1 - k ≤ n)
  case atStart => exact ⟨0, by omega, rfl, HR0.out, HB0.out, by omega⟩
  case round =>
    clear HR0 HB0
    obtain ⟨k, hk, rfl, HR, HB, hgk⟩ := hrel
    by_cases hkl : k < s.size + 1
    · have hki : (k : Int) < (s.size : Int) + 1 := by omega
      have r0 := HR.out.cell (i := k) hkl
      have rf := HR.out.frozen k
      have HR1 : Hid ((wr.setCell ⟨w.heap.size, k, none⟩ (.bool true)).rowIs w.heap.size 4 (s.size + 1) (fun j => .bool (decide (j < k + 1)))) := (HR.out.set k (.bool true)).congr fun j _ => by
        by_cases h : j = k
        · rw [if_pos h, decide_eq_true (by omega)]
        · rw [if_neg h]
          congr 1
          rw [decide_eq_decide]
          omega
      go_wp2_with fail
      go_roundg (s.size + 1 - (k + 1))
      case measure => omega
      case rel => exact ⟨k + 1, by omega, by go_num, HR1.out, HB.out.setCell (p := ⟨w.heap.size, k, none⟩) (Nat.le_refl _) _, Nat.le_refl _⟩
    · obtain rfl : k = s.size + 1 := by omega
      have hki : ¬ (((s.size + 1 : Nat)) : Int) < (s.size : Int) + 1 := by omega
      have HR1 : Hid (wr.rowIs w.heap.size 4 (s.size + 1) (fun j => .bool (allF j))) := HR.out.congr fun j hj => by rw [decide_eq_true hj]; rfl
      have HP := Lib.hid (hp.below HB.out (Nat.le_refl _))
      have HX := Lib.hid (reach_any p s pv _ _ _ HP.out (row_pl HR1.out (c := s.size + 1)) hs hl)
      have hse : (s.size : Int) < (s.size : Int) + 1 := by omega
      go_wp2_with (go_at_call 91; refine HX.out.mono ?_; rintro e w2 ⟨v2, rfl, hv2, hb2⟩; obtain ⟨b2, o2, c2, rfl, hbl2, hc2⟩ := hv2; have qe := hc2 s.size (by omega))
      go_ret
      exact ⟨ret_bool (by rw [HV.out]; rfl), HB.out.trans (hb2.mono HB.out.size)⟩

set_option maxRecDepth 100000 in
set_option maxHeartbeats 4000000 in
theorem valid_any (p : List At) (pv : Value) (w : World) (hp : RdE atC 34 w pv p) (hl : p.length ≤ 140737488355328) :
    Calls Tryd.prog 59 #[pv] w fun e w' => e = .returned (.int .i64 (validF p)) ∧ Below w.heap.size w w' := by
  obtain ⟨A, c, rfl, hlc, _⟩ := hp.shape
  have HP := Lib.hid hp
  clear hp
  have hu := Tryd.underlying26
  have hi : (Tryd.prog.info? 26).map (·.size) = some 34 := atom_size
  obtain ⟨V, HV⟩ : ∃ V, Hid (V = validF p) := ⟨_, rfl⟩
  rw [← HV.out]
  go_enter Tryd.func59, Tryd.ntmps59
  by_cases h32 : 32 < p.length
  · have h32i : (32 : Int) < (p.length : Int) := by omega
    have HE : Hid (V = 3) := by show _ = _; rw [HV.out]; unfold validF; rw [if_pos h32]
    go_wp2_with fail
    go_ret
    exact ⟨ret_int HE.out.symm, Below.refl _ _⟩
  have h32i : ¬ (32 : Int) < (p.length : Int) := by omega
  have HV1 : Hid (V = if p.all (fun x => x.mn == 0 || x.mn == 1) = true then 0 else 1) := by show _ = _; rw [HV.out]; unfold validF; rw [if_neg h32]
  clear HV
  go_wp2_with fail
  go_loopg [10] p.length (fun n kv wr => ∃ k : Nat, k ≤ p.length ∧ kv = .int .i64 k ∧ Hid (∀ j (h : j < p.length), j < k → (p[j].mn == 0 || p[j].mn == 1) = true) ∧ Hid (Below w.heap.size w wr) ∧ p.length - k ≤ n)
  case atStart => exact ⟨0, by omega, rfl, fun j _ h => absurd h (Nat.not_lt_zero j), Below.refl _ _, by omega⟩
  case round =>
    obtain ⟨k, hk, rfl, HA, HB, hgk⟩ := hrel
    by_cases hkl : k < p.length
    · have hki : (k : Int) < (p.length : Int) := by omega
      obtain ⟨b, o, rfl, hbl, hcell⟩ := HP.out.cells (by omega)
      have hx : p[k]? = some p[k] := List.getElem?_eq_getElem hkl
      have hrg : wr.rangeAt b (o + k * 34) (atC p[k]) := fun j v hj => by
        rw [Nat.add_assoc]
        exact (HB.out.cell (p := ⟨b, o + (k * 34 + j), none⟩) hbl).trans (hcell k _ j v hx hj)
      clear hcell hx
      obtain ⟨x, HX⟩ : ∃ x : At, Hid (x = p[k]) := ⟨p[k], rfl⟩
      rw [← HX.out] at hrg
      have hz := HB.out.size
      have HA1 := Lib.hid ((at_zero wr).row x)
      have HB1 : Hid (Below w.heap.size w ((wr.alloc (.cells #[.int .u8 0, .int .u8 0, .int .u8 0, .int .u8 0, .int .u8 0, .int .u8 0, .int .u8 0, .int .u8 0, .int .u8 0, .int .u8 0, .int .u8 0, .int .u8 0, .int .u8 0, .int .u8 0, .int .u8 0, .int .u8 0, .int .u8 0, .int .u8 0, .int .u8 0, .int .u8 0, .int .u8 0, .int .u8 0, .int .u8 0, .int .u8 0, .int .u8 0, .int .u8 0, .int .u8 0, .int .u8 0, .int .u8 0, .int .u8 0, .int .u8 0, .int .u8 0, .int .i64 0, .bool false] 26)).setRow wr.heap.size (atC x).toArray)) := below_setRow (HB.out.alloc hz _) hz _
      go_upto_region 6 with (first
        | (refine wpList_load_mid rfl 26 (.tmp 12) rfl b (o + k * 34) rfl (atC x) _ hrg hu rfl (by rw [hi, atC_len]) ?_)
        | (refine wpList_store_row rfl 26 (.tmp 4) (.tmp 13) rfl (wr.heap.size) (atC x).toArray rfl rfl 26 (atC ⟨noP, 0, false⟩).toArray (at_zero wr) (by rw [atom_size, atC_size]) (by simp only [atC_size]) (atC_oneA _) ?_))
      clear HB hrg
      generalize hg3 : wr.heap.size = g3 at HA1 HB1 hz ⊢
      generalize (wr.alloc (.cells #[.int .u8 0, .int .u8 0, .int .u8 0, .int .u8 0, .int .u8 0, .int .u8 0, .int .u8 0, .int .u8 0, .int .u8 0, .int .u8 0, .int .u8 0, .int .u8 0, .int .u8 0, .int .u8 0, .int .u8 0, .int .u8 0, .int .u8 0, .int .u8 0, .int .u8 0, .int .u8 0, .int .u8 0, .int .u8 0, .int .u8 0, .int .u8 0, .int .u8 0, .int .u8 0, .int .u8 0, .int .u8 0, .int .u8 0, .int .u8 0, .int .u8 0, .int .u8 0, .int .i64 0, .bool false] 26)).setRow g3 (atC x).toArray = w2 at HA1 HB1 ⊢
      clear hg3
      have q := HA1.out.mn
      by_cases h0 : x.mn = 0
      · have t0 : (x.mn != 0) = false := bne_eq_false_iff_eq.2 h0
        have HA2 : Hid (∀ j (h : j < p.length), j < k + 1 → (p[j].mn == 0 || p[j].mn == 1) = true) := fun j hj hjk => by
          by_cases hj2 : j = k
          · subst hj2; rw [← HX.out, h0]; rfl
          · exact HA.out j hj (by omega)
        clear h0
        go_wp2_with fail
        go_roundg (p.length - (k + 1))
        case measure => omega
        case rel => exact ⟨k + 1, by omega, by go_num, HA2.out, HB1.out, Nat.le_refl _⟩
      · have t0 : (x.mn != 0) = true := bne_iff_ne.2 h0
        by_cases h1 : x.mn = 1
        · have t1 : (x.mn != 1) = false := bne_eq_false_iff_eq.2 h1
          have HA2 : Hid (∀ j (h : j < p.length), j < k + 1 → (p[j].mn == 0 || p[j].mn == 1) = true) := fun j hj hjk => by
            by_cases hj2 : j = k
            · subst hj2; rw [← HX.out, h1]; rfl
            · exact HA.out j hj (by omega)
          clear h0 h1
          go_wp2_with fail
          go_roundg (p.length - (k + 1))
          case measure => omega
          case rel => exact ⟨k + 1, by omega, by go_num, HA2.out, HB1.out, Nat.le_refl _⟩
        · have t1 : (x.mn != 1) = true := bne_iff_ne.2 h1
          have HE : Hid (V = 1) := by
            show _ = _
            rw [HV1.out, if_neg]
            intro ha
            have := List.all_eq_true.1 ha p[k] (List.getElem_mem _)
            rw [← HX.out] at this
            simp at this
            omega
          clear h0 h1
          go_wp2_with fail
          go_ret
          exact ⟨ret_int HE.out.symm, HB1.out⟩
    · have hki : ¬ (k : Int) < (p.length : Int) := by omega
      have HE : Hid (V = 0) := by
        show _ = _
        rw [HV1.out, if_pos]
        refine List.all_eq_true.2 fun x hx => ?_
        obtain ⟨j, hj, rfl⟩ := List.mem_iff_getElem.1 hx
        exact HA.out j hj (by omega)
      go_wp2_with fail
      go_ret
      exact ⟨ret_int HE.out.symm, HB.out⟩

end Go.Proofs.YtpboaadjbkaidaaDoor

namespace Go.Proofs.YtpboaadjbkaidaaDoor
set_option maxRecDepth 100000
open Go.RowKit

def bC (b : Bool) : List Value := [.bool b]
theorem bC_one (b : Bool) : ∀ u ∈ bC b, u.oneCell' = true := by
  intro u hu
  simp [bC] at hu
  subst hu
  rfl
def bRow (n : Nat) (f : Nat → Bool) : List Bool := (List.range n).map f
theorem bRow_len (n : Nat) (f : Nat → Bool) : (bRow n f).length = n := by simp [bRow]
theorem rd_pl {w : World} {v : Value} {n : Nat} {f : Nat → Bool} (h : RdE bC 1 w v (bRow n f)) (hn : 0 < n) : PlIn w v n f := by
  obtain ⟨A, c, hv, _, _, hc⟩ := h
  rw [bRow_len] at hv hc
  obtain ⟨b, o, rfl, hb, hx⟩ := hc hn
  exact ⟨b, o, c, hv, hb, fun j hj => by
    have := hx j (f j) 0 (.bool (f j)) (by simp [bRow, hj]) rfl
    rwa [show o + (j * 1 + 0) = o + j by omega] at this⟩
theorem row_rd {w : World} {g n : Nat} {f : Nat → Bool} (h : w.rowIs g 4 n (fun j => .bool (f j))) : RdE bC 1 w (.slice (some ⟨g, 0, none⟩) n n) (bRow n f) :=
  ⟨some ⟨g, 0, none⟩, n, by rw [bRow_len], by rw [bRow_len]; exact Nat.le_refl _, (fun e => by cases e), fun _ => ⟨g, 0, rfl, h.lt, fun i x j u hi hj => by
    have hin : i < n := by have := (List.getElem?_eq_some_iff.1 hi).1; rwa [bRow_len] at this
    have hxi : x = f i := by simp [bRow, hin] at hi; exact hi.symm
    have hj0 : j = 0 := by have := (List.getElem?_eq_some_iff.1 hj).1; simp [bC] at this; exact this
    subst hj0
    have hu : u = .bool x := by simp [bC] at hj; exact hj.symm
    rw [hu, hxi, show 0 + (i * 1 + 0) = i by omega]
    exact h.cell hin⟩⟩
theorem PlIn.setOther {w : World} {g o n c : Nat} {f : Nat → Bool} (h : PlIn w (.slice (some ⟨g, o, none⟩) n c) n f) {b j : Nat} (hb : g < b) (u : Value) : PlIn (w.setCell ⟨b, j, none⟩ u) (.slice (some ⟨g, o, none⟩) n c) n f := by
  obtain ⟨b', o', c', hv, hl, hc⟩ := h
  injection hv with h1 _ _
  injection h1 with h1
  injection h1 with h1 h2 _
  subst h1 h2
  exact ⟨_, _, _, rfl, by simpa [World.setCell] using hl, fun i hi => by
    rw [World.cell?_of_block (w := w) (Below.heap_setCell _ _ _ _ (show g ≠ b by omega))]
    exact hc i hi⟩
theorem pl_cell {w : World} {g o n c : Nat} {f : Nat → Bool} (h : PlIn w (.slice (some ⟨g, o, none⟩) n c) n f) (j : Nat) (hj : j < n) : w.cell? ⟨g, o + j, none⟩ = some (.bool (f j)) := by
  obtain ⟨b', o', c', hv, hl, hc⟩ := h
  injection hv with h1 _ _
  injection h1 with h1
  injection h1 with h1 h2 _
  subst h1 h2
  exact hc j hj

set_option maxRecDepth 100000 in
set_option maxHeartbeats 8000000 in
theorem rreach_any (l : List At) (s : ByteArray) (lv pv : Value) (f : Nat → Bool) (w : World) (hp : RdE atC 34 w lv l) (hpl : RdE bC 1 w pv (bRow (s.size + 1) f)) (hs : s.size ≤ 2147483648) (hl : l.length ≤ 140737488355328) :
    Calls Tryd.prog 67 #[lv, .string s, pv] w (RetReach w (s.size + 1) (reachF s l f)) := by
  obtain ⟨A, c, rfl, hlc, _⟩ := hp.shape
  have HP := Lib.hid hp
  clear hp
  have hu := Tryd.underlying26
  have hi : (Tryd.prog.info? 26).map (·.size) = some 34 := atom_size
  have hmk := fun w => run_make_row' (P := Tryd.prog) 86 4 (.bool false) 1 Tryd.underlying86 bool_info rfl .i64 .i64 (s.size + 1) (by omega) (by omega) w
  rw [show ((s.size + 1 : Nat) : Int) = (s.size : Int) + 1 by omega] at hmk
  obtain ⟨R, HRR⟩ : ∃ R, Hid (R = reachF s l f) := ⟨_, rfl⟩
  rw [← HRR.out]
  have HPL := Lib.hid hpl
  have HR0 : Hid (reachF s (l.drop 0) f = R) := by show _ = _; rw [HRR.out]; rfl
  clear hpl HRR
  go_enter Tryd.func67, Tryd.ntmps67
  go_upto_region 2 with (refine wpList_appE rfl _ (.tmp 12) 86 4 rfl Tryd.underlying86 _ bC 1 1 bool_info rfl (by decide) (fun _ => rfl) bC_one w.heap.size (.slice none 0 0) [] rfl OwnE.nil _ _ rfl HPL.out (by rw [bRow_len]; simp only [List.length_nil]; omega) (by decide) (Nat.le_refl _) ?_; intro v1 w1 hown1 hbel1 hgrow1)
  have HG0 : Hid (PlIn w1 v1 (s.size + 1) f) := rd_pl (OwnE.rd (fun _ => rfl) hown1) (by omega)
  have HB0 := Lib.hid (hbel1 w.heap.size w (Nat.le_refl _) (Below.refl _ _))
  clear hown1 hbel1 hgrow1 HPL
  go_wp2_with fail
  go_loopg [7, 16] l.length (fun n av kv wr => ∃ (k : Nat) (g : Nat → Bool), kv = .int .i64 k ∧ k ≤ l.length ∧ Hid (PlIn wr av (s.size + 1) g) ∧ Hid (reachF s (l.drop k) g = R) ∧ Hid (Below w.heap.size w wr) ∧ l.length - k ≤ n)
  case atStart => exact ⟨0, f, rfl, by omega, HG0.out, HR0.out, HB0.out, by omega⟩
  case round =>
    clear HG0 HB0 HR0
    obtain ⟨k, g, rfl, hk, HG, HX, HB, hgk⟩ := hrel
    by_cases hkl : k < l.length
    · have hki : (k : Int) < (l.length : Int) := by omega
      have hk0 : (0 : Int) ≤ (k : Int) := by omega
      obtain ⟨b, o, rfl, hbl, hcell⟩ := HP.out.cells (by omega)
      have hx : l[k]? = some l[k] := List.getElem?_eq_getElem hkl
      have HX2 : Hid (reachF s (l.drop (k + 1)) (advF l[k] s g) = R) := by
        have h := HX.out
        rw [List.drop_eq_getElem_cons hkl] at h
        exact h
      have HCL : Hid (∀ j v, (atC l[k])[j]? = some v → w.cell? ⟨b, o + k * 34 + j, none⟩ = some v) := fun j v hj => by
        rw [Nat.add_assoc]
        exact hcell k _ j v hx hj
      clear HX hx hcell
      generalize l[k] = x at HX2 HCL
      obtain ⟨hub, HU⟩ : ∃ hub : World, Hid (hub = wr) := ⟨wr, rfl⟩
      clear HU hub
      have hzr := HB.out.size
      obtain ⟨ba, oa, ca, rfl, hba, hca⟩ := HG.out
      go_upto_region 6 with fail
      obtain ⟨N, HN⟩ : ∃ N, Hid (N = wr.heap.size) := ⟨_, rfl⟩
      have hN : w.heap.size ≤ N := by rw [HN.out]; exact hzr
      have hbaN : ba < N := by rw [HN.out]; exact hba
      have HR1 : Hid ((wr.alloc (.cells (madeCells #[.bool false] (s.size + 1)) 4)).rowIs N 4 (s.size + 1) (fun j => .bool (if j ≤ 0 then nxF x s g j else false))) := by
        have h := World.rowIs_made wr (.bool false) (s.size + 1) 4
        rw [← HN.out] at h
        exact h.congr fun j _ => by
          by_cases h0 : j ≤ 0
          · rw [if_pos h0, show j = 0 by omega]; rfl
          · rw [if_neg h0]
      have HG1 : Hid (PlIn (wr.alloc (.cells (madeCells #[.bool false] (s.size + 1)) 4)) (.slice (some ⟨ba, oa, none⟩) (s.size + 1) ca) (s.size + 1) g) := HG.out.below ((Below.refl _ wr).alloc (Nat.le_refl _) _) (Nat.le_refl _)
      have HB1 : Hid (Below w.heap.size w (wr.alloc (.cells (madeCells #[.bool false] (s.size + 1)) 4))) := HB.out.alloc hzr _
      rw [← HN.out]
      clear HG HB hzr hba hca
      generalize wr.alloc (.cells (madeCells #[.bool false] (s.size + 1)) 4) = w2 at HR1 HG1 HB1 ⊢
      clear HN
      go_wp2_with fail
      obtain ⟨wo, rfl⟩ : ∃ wo : World, wo = w2 := ⟨_, rfl⟩
      go_loopg [10] s.size (fun n iv wr => ∃ i : Nat, i ≤ s.size ∧ iv = .int .i64 i ∧ Hid (wr.rowIs N 4 (s.size + 1) (fun j => .bool (if j ≤ i then nxF x s g j else false))) ∧ Hid (PlIn wr (.slice (some ⟨ba, oa, none⟩) (s.size + 1) ca) (s.size + 1) g) ∧ Hid (Below w.heap.size w wr) ∧ s.size - i ≤ n)
      case atStart => exact ⟨0, by omega, rfl, HR1.out, HG1.out, HB1.out, by omega⟩
      case round =>
        clear HR1 HG1 HB1
        obtain ⟨i, hi1, rfl, HR, HG, HB, hgi⟩ := hrel
        by_cases hil : i < s.size
        · have hii : (i : Int) < (s.size : Int) := by omega
          have hi0 : (0 : Int) ≤ (i : Int) := by omega
          have hi2 : (i : Int) < (s.size : Int) + 1 := by omega
          have hi3 : (i : Int) + 1 < (s.size : Int) + 1 := by omega
          have hbl2 : b < wr.heap.size := Nat.lt_of_lt_of_le hbl HB.out.size
          have hrg0 : wr.rangeAt b (o + k * 34) (atC x) := fun j v hj => (HB.out.cell (p := ⟨b, o + k * 34 + j, none⟩) hbl).trans (HCL.out j v hj)
          have hrg : wr.drew.rangeAt b (o + k * 34) (atC x) := hrg0
          have qm : wr.cell? ⟨b, o + k * 34 + 33, none⟩ = some (.bool x.many) := hrg0 33 _ (atC_many x)
          have qa : wr.cell? ⟨ba, oa + i, none⟩ = some (.bool (g i)) := pl_cell HG.out i (by omega)
          have qn := HR.out.cell (i := i) (by omega)
          rw [if_pos (Nat.le_refl _)] at qn
          clear hrg0
          have hia : (Instr.indexAt 28 (.slice (some ⟨b, o, none⟩) l.length c) (.int .i64 k)).run Tryd.prog wr.drew = .ok (.pointer (some ⟨b, o + k * 34, none⟩)) wr.drew := by go_simp
          have hfa : (Instr.fieldAt 26 (.pointer (some ⟨b, o + k * 34, none⟩)) 2).run Tryd.prog wr.drew = .ok (.pointer (some ⟨b, o + k * 34 + 33, none⟩)) wr.drew := by go_simp
          have hla := run_loadAt_mid (P := Tryd.prog) wr.drew b (o + k * 34) 26 (atC x) _ hrg hu rfl (by rw [hi, atC_len])
          have HIA := Lib.hid hia
          have HFA := Lib.hid hfa
          have HLA := Lib.hid hla
          clear hia hfa hla
          obtain ⟨px, HPX⟩ : ∃ px : Bool, Hid (px = x.p (s[i].toNat)) := ⟨x.p (s[i].toNat), rfl⟩
          have HC := Lib.hid (fun w => rcontains_any x (s[i].toNat) w (UInt8.toNat_lt _))
          rw [← HPX.out] at HC
          have HV1 : Hid (nxF x s g (i + 1) = ((g i || (x.many && nxF x s g i)) && px)) := by
            show _ = _
            rw [HPX.out, ← bt_get s i hil]
            rfl
          clear HPX
          obtain ⟨ni, HNI⟩ : ∃ ni, Hid (ni = nxF x s g i) := ⟨_, rfl⟩
          obtain ⟨fi, HFI⟩ : ∃ fi, Hid (fi = g i) := ⟨_, rfl⟩
          obtain ⟨mm, HMM⟩ : ∃ mm, Hid (mm = x.many) := ⟨_, rfl⟩
          rw [← HNI.out] at qn HV1
          rw [← HFI.out] at qa HV1
          rw [← HMM.out] at qm HV1
          clear HNI HFI HMM
          go_upto_region 9 with fail
          cases fi with
          | true =>
            have HV0 : Hid (nxF x s g (i + 1) = (true && px)) := HV1.out
            clear HV1
            refine sw_region_tail 25 (by kernel_rfl) (by kernel_rfl) rfl rfl ?_
            refine sw_take (some 29) rfl (by kernel_rfl) (.slice (some ⟨ba, oa, none⟩) (s.size + 1) ca) (ex_move _ _ rfl (by kernel_rfl)) ?_
            simp only [Act.put, List.setIfInBounds_toArray, List.set_cons_zero, List.set_cons_succ]
            refine sw_take (some 30) rfl (by kernel_rfl) (.int .i64 i) (ex_move _ _ rfl (by kernel_rfl)) ?_
            simp only [Act.put, List.setIfInBounds_toArray, List.set_cons_zero, List.set_cons_succ]
            refine sw_take (some 31) rfl (by kernel_rfl) (.pointer (some ⟨ba, oa + i, none⟩)) (ex_indexAddr 86 _ _ (.slice (some ⟨ba, oa, none⟩) (s.size + 1) ca) (.int .i64 i) _ rfl (by kernel_rfl) (by kernel_rfl) (by go_simp)) ?_
            simp only [Act.put, List.setIfInBounds_toArray, List.set_cons_zero, List.set_cons_succ]
            refine sw_take (some 32) rfl (by kernel_rfl) (.bool true) (ex_load 4 _ (.pointer (some ⟨ba, oa + i, none⟩)) _ rfl (by kernel_rfl) (by go_simp)) ?_
            simp only [Act.put, List.setIfInBounds_toArray, List.set_cons_zero, List.set_cons_succ]
            refine sw_take (some 33) rfl (by kernel_rfl) (.bool true) (ex_move _ _ rfl (by kernel_rfl)) ?_
            simp only [Act.put, List.setIfInBounds_toArray, List.set_cons_zero, List.set_cons_succ]
            refine sw_pass (some 34) rfl (by kernel_rfl) ?_
            simp only [Act.put, List.setIfInBounds_toArray, List.set_cons_zero, List.set_cons_succ]
            refine sw_pass (some 35) rfl (by kernel_rfl) ?_
            simp only [Act.put, List.setIfInBounds_toArray, List.set_cons_zero, List.set_cons_succ]
            refine sw_pass (some 36) rfl (by kernel_rfl) ?_
            simp only [Act.put, List.setIfInBounds_toArray, List.set_cons_zero, List.set_cons_succ]
            refine sw_pass (some 37) rfl (by kernel_rfl) ?_
            simp only [Act.put, List.setIfInBounds_toArray, List.set_cons_zero, List.set_cons_succ]
            refine sw_pass (some 38) rfl (by kernel_rfl) ?_
            simp only [Act.put, List.setIfInBounds_toArray, List.set_cons_zero, List.set_cons_succ]
            refine sw_pass (some 39) rfl (by kernel_rfl) ?_
            simp only [Act.put, List.setIfInBounds_toArray, List.set_cons_zero, List.set_cons_succ]
            refine sw_pass (some 40) rfl (by kernel_rfl) ?_
            simp only [Act.put, List.setIfInBounds_toArray, List.set_cons_zero, List.set_cons_succ]
            refine sw_pass (some 41) rfl (by kernel_rfl) ?_
            simp only [Act.put, List.setIfInBounds_toArray, List.set_cons_zero, List.set_cons_succ]
            refine sw_pass (some 42) rfl (by kernel_rfl) ?_
            simp only [Act.put, List.setIfInBounds_toArray, List.set_cons_zero, List.set_cons_succ]
            refine sw_pass (some 43) rfl (by kernel_rfl) ?_
            simp only [Act.put, List.setIfInBounds_toArray, List.set_cons_zero, List.set_cons_succ]
            refine sw_pass (some 44) rfl (by kernel_rfl) ?_
            simp only [Act.put, List.setIfInBounds_toArray, List.set_cons_zero, List.set_cons_succ]
            refine sw_take (some 45) rfl (by kernel_rfl) (.bool true) (ex_pick _ _ _ true (.bool true) (undef) rfl (by kernel_rfl) (by kernel_rfl) (by kernel_rfl)) ?_
            simp only [Act.put, List.setIfInBounds_toArray, List.set_cons_zero, List.set_cons_succ]
            refine sw_take (some 46) rfl (by kernel_rfl) (.bool true) (ex_move _ _ rfl (by kernel_rfl)) ?_
            simp only [Act.put, List.setIfInBounds_toArray, List.set_cons_zero, List.set_cons_succ]
            refine sw_take (some 47) rfl (by kernel_rfl) (.slice (some ⟨b, o, none⟩) l.length c) (ex_move _ _ rfl (by kernel_rfl)) ?_
            simp only [Act.put, List.setIfInBounds_toArray, List.set_cons_zero, List.set_cons_succ]
            refine sw_take (some 48) rfl (by kernel_rfl) (.int .i64 k) (ex_move _ _ rfl (by kernel_rfl)) ?_
            simp only [Act.put, List.setIfInBounds_toArray, List.set_cons_zero, List.set_cons_succ]
            refine sw_take (some 49) rfl (by kernel_rfl) (.pointer (some ⟨b, o + k * 34, none⟩)) (ex_indexAddr 28 _ _ (.slice (some ⟨b, o, none⟩) l.length c) (.int .i64 k) _ rfl (by kernel_rfl) (by kernel_rfl) (HIA.out)) ?_
            simp only [Act.put, List.setIfInBounds_toArray, List.set_cons_zero, List.set_cons_succ]
            refine sw_take (some 50) rfl (by kernel_rfl) (.agg (atC x).toArray) (ex_load 26 _ (.pointer (some ⟨b, o + k * 34, none⟩)) _ rfl (by kernel_rfl) (HLA.out)) ?_
            simp only [Act.put, List.setIfInBounds_toArray, List.set_cons_zero, List.set_cons_succ]
            refine sw_take (some 51) rfl (by kernel_rfl) (.string s) (ex_move _ _ rfl (by kernel_rfl)) ?_
            simp only [Act.put, List.setIfInBounds_toArray, List.set_cons_zero, List.set_cons_succ]
            refine sw_take (some 52) rfl (by kernel_rfl) (.int .i64 i) (ex_move _ _ rfl (by kernel_rfl)) ?_
            simp only [Act.put, List.setIfInBounds_toArray, List.set_cons_zero, List.set_cons_succ]
            refine sw_take (some 53) rfl (by kernel_rfl) (.int .u8 (s[i].toNat)) (ex_index 9 _ _ (.string s) (.int .i64 i) _ rfl (by kernel_rfl) (by kernel_rfl) (by go_simp)) ?_
            simp only [Act.put, List.setIfInBounds_toArray, List.set_cons_zero, List.set_cons_succ]
            refine sw_nil ?_
            change wpList _ _ _ _ _ wr.drew
            have HR6 : Hid (wr.drew.rowIs N 4 (s.size + 1) (fun j => .bool (if j ≤ i then nxF x s g j else false))) := HR.out.drew
            have HG6 : Hid (PlIn wr.drew (.slice (some ⟨ba, oa, none⟩) (s.size + 1) ca) (s.size + 1) g) := HG.out
            have HB6 : Hid (Below w.heap.size w wr.drew) := HB.out.drew
            clear HR HG HB hrg qa qn qm
            generalize wr.drew = w6 at HR6 HG6 HB6 ⊢
            have hz6 := HR6.out.lt
            go_upto_if 55 with (go_at_call 93; refine (HC.out _).mono ?_; rintro e w7 ⟨rfl, hb7⟩)
            have HR7 := Lib.hid (HR6.out.of_block (hb7.block _ hz6))
            have HG7 := Lib.hid (HG6.out.below hb7 (Nat.le_refl _))
            have HB7 := Lib.hid (HB6.out.trans (hb7.mono HB6.out.size))
            clear HR6 HG6 HB6 hb7 HC
            have r0 := HR7.out.cell (i := i + 1) (by omega)
            have rf := HR7.out.frozen (i + 1)
            rw [if_neg (by omega)] at r0
            cases px with
            | false =>
              have HV : Hid (nxF x s g (i + 1) = false) := by show _ = _; rw [HV0.out]; exact Bool.and_false _
              clear r0 rf
              go_wp2_with fail
              have HRE : Hid (w7.rowIs N 4 (s.size + 1) (fun j => .bool (if j ≤ i + 1 then nxF x s g j else false))) := HR7.out.congr fun j hj => by
                by_cases h1 : j = i + 1
                · rw [if_neg (by omega), if_pos (by omega), h1, HV.out]
                · by_cases h2 : j ≤ i
                  · rw [if_pos h2, if_pos (by omega)]
                  · rw [if_neg h2, if_neg (by omega)]
              go_roundg (s.size - (i + 1))
              case measure => omega
              case rel => exact ⟨i + 1, by omega, by go_num, HRE.out, HG7.out, HB7.out, Nat.le_refl _⟩
            | true =>
              have HV : Hid (nxF x s g (i + 1) = true) := by show _ = _; rw [HV0.out]; exact Bool.and_true _
              go_wp2_with fail
              have HRE : Hid ((w7.setCell ⟨N, i + 1, none⟩ (.bool true)).rowIs N 4 (s.size + 1) (fun j => .bool (if j ≤ i + 1 then nxF x s g j else false))) := (HR7.out.set (i + 1) (.bool true)).congr fun j hj => by
                by_cases h1 : j = i + 1
                · rw [if_pos h1, if_pos (by omega), h1, HV.out]
                · by_cases h2 : j ≤ i
                  · rw [if_neg h1, if_pos h2, if_pos (by omega)]
                  · rw [if_neg h1, if_neg h2, if_neg (by omega)]
              go_roundg (s.size - (i + 1))
              case measure => omega
              case rel => exact ⟨i + 1, by omega, by go_num, HRE.out, HG7.out.setOther (by omega) _, HB7.out.setCell (p := ⟨N, i + 1, none⟩) hN _, Nat.le_refl _⟩
          | false =>
            cases mm with
            | false =>
              have HV : Hid (nxF x s g (i + 1) = false) := HV1.out
              refine sw_region_tail 25 (by kernel_rfl) (by kernel_rfl) rfl rfl ?_
              refine sw_take (some 29) rfl (by kernel_rfl) (.slice (some ⟨ba, oa, none⟩) (s.size + 1) ca) (ex_move _ _ rfl (by kernel_rfl)) ?_
              simp only [Act.put, List.setIfInBounds_toArray, List.set_cons_zero, List.set_cons_succ]
              refine sw_take (some 30) rfl (by kernel_rfl) (.int .i64 i) (ex_move _ _ rfl (by kernel_rfl)) ?_
              simp only [Act.put, List.setIfInBounds_toArray, List.set_cons_zero, List.set_cons_succ]
              refine sw_take (some 31) rfl (by kernel_rfl) (.pointer (some ⟨ba, oa + i, none⟩)) (ex_indexAddr 86 _ _ (.slice (some ⟨ba, oa, none⟩) (s.size + 1) ca) (.int .i64 i) _ rfl (by kernel_rfl) (by kernel_rfl) (by go_simp)) ?_
              simp only [Act.put, List.setIfInBounds_toArray, List.set_cons_zero, List.set_cons_succ]
              refine sw_take (some 32) rfl (by kernel_rfl) (.bool false) (ex_load 4 _ (.pointer (some ⟨ba, oa + i, none⟩)) _ rfl (by kernel_rfl) (by go_simp)) ?_
              simp only [Act.put, List.setIfInBounds_toArray, List.set_cons_zero, List.set_cons_succ]
              refine sw_take (some 33) rfl (by kernel_rfl) (.bool false) (ex_move _ _ rfl (by kernel_rfl)) ?_
              simp only [Act.put, List.setIfInBounds_toArray, List.set_cons_zero, List.set_cons_succ]
              refine sw_take (some 34) rfl (by kernel_rfl) (.slice (some ⟨b, o, none⟩) l.length c) (ex_move _ _ rfl (by kernel_rfl)) ?_
              simp only [Act.put, List.setIfInBounds_toArray, List.set_cons_zero, List.set_cons_succ]
              refine sw_take (some 35) rfl (by kernel_rfl) (.int .i64 k) (ex_move _ _ rfl (by kernel_rfl)) ?_
              simp only [Act.put, List.setIfInBounds_toArray, List.set_cons_zero, List.set_cons_succ]
              refine sw_take (some 36) rfl (by kernel_rfl) (.pointer (some ⟨b, o + k * 34, none⟩)) (ex_indexAddr 28 _ _ (.slice (some ⟨b, o, none⟩) l.length c) (.int .i64 k) _ rfl (by kernel_rfl) (by kernel_rfl) (HIA.out)) ?_
              simp only [Act.put, List.setIfInBounds_toArray, List.set_cons_zero, List.set_cons_succ]
              refine sw_take (some 37) rfl (by kernel_rfl) (.pointer (some ⟨b, o + k * 34 + 33, none⟩)) (ex_fieldAddr 26 _ 2 (.pointer (some ⟨b, o + k * 34, none⟩)) _ rfl (by kernel_rfl) (HFA.out)) ?_
              simp only [Act.put, List.setIfInBounds_toArray, List.set_cons_zero, List.set_cons_succ]
              refine sw_take (some 38) rfl (by kernel_rfl) (.bool false) (ex_load 4 _ (.pointer (some ⟨b, o + k * 34 + 33, none⟩)) _ rfl (by kernel_rfl) (by go_simp)) ?_
              simp only [Act.put, List.setIfInBounds_toArray, List.set_cons_zero, List.set_cons_succ]
              refine sw_take (some 39) rfl (by kernel_rfl) (.bool false) (ex_move _ _ rfl (by kernel_rfl)) ?_
              simp only [Act.put, List.setIfInBounds_toArray, List.set_cons_zero, List.set_cons_succ]
              refine sw_pass (some 40) rfl (by kernel_rfl) ?_
              simp only [Act.put, List.setIfInBounds_toArray, List.set_cons_zero, List.set_cons_succ]
              refine sw_pass (some 41) rfl (by kernel_rfl) ?_
              simp only [Act.put, List.setIfInBounds_toArray, List.set_cons_zero, List.set_cons_succ]
              refine sw_pass (some 42) rfl (by kernel_rfl) ?_
              simp only [Act.put, List.setIfInBounds_toArray, List.set_cons_zero, List.set_cons_succ]
              refine sw_pass (some 43) rfl (by kernel_rfl) ?_
              simp only [Act.put, List.setIfInBounds_toArray, List.set_cons_zero, List.set_cons_succ]
              refine sw_take (some 44) rfl (by kernel_rfl) (.bool false) (ex_pick _ _ _ false (undef) (.bool false) rfl (by kernel_rfl) (by kernel_rfl) (by kernel_rfl)) ?_
              simp only [Act.put, List.setIfInBounds_toArray, List.set_cons_zero, List.set_cons_succ]
              refine sw_take (some 45) rfl (by kernel_rfl) (.bool false) (ex_pick _ _ _ false (.bool true) (.bool false) rfl (by kernel_rfl) (by kernel_rfl) (by kernel_rfl)) ?_
              simp only [Act.put, List.setIfInBounds_toArray, List.set_cons_zero, List.set_cons_succ]
              refine sw_take (some 46) rfl (by kernel_rfl) (.bool false) (ex_move _ _ rfl (by kernel_rfl)) ?_
              simp only [Act.put, List.setIfInBounds_toArray, List.set_cons_zero, List.set_cons_succ]
              refine sw_pass (some 47) rfl (by kernel_rfl) ?_
              simp only [Act.put, List.setIfInBounds_toArray, List.set_cons_zero, List.set_cons_succ]
              refine sw_pass (some 48) rfl (by kernel_rfl) ?_
              simp only [Act.put, List.setIfInBounds_toArray, List.set_cons_zero, List.set_cons_succ]
              refine sw_pass (some 49) rfl (by kernel_rfl) ?_
              simp only [Act.put, List.setIfInBounds_toArray, List.set_cons_zero, List.set_cons_succ]
              refine sw_pass (some 50) rfl (by kernel_rfl) ?_
              simp only [Act.put, List.setIfInBounds_toArray, List.set_cons_zero, List.set_cons_succ]
              refine sw_pass (some 51) rfl (by kernel_rfl) ?_
              simp only [Act.put, List.setIfInBounds_toArray, List.set_cons_zero, List.set_cons_succ]
              refine sw_pass (some 52) rfl (by kernel_rfl) ?_
              simp only [Act.put, List.setIfInBounds_toArray, List.set_cons_zero, List.set_cons_succ]
              refine sw_pass (some 53) rfl (by kernel_rfl) ?_
              simp only [Act.put, List.setIfInBounds_toArray, List.set_cons_zero, List.set_cons_succ]
              refine sw_nil ?_
              change wpList _ _ _ _ _ wr.drew
              have HR6 : Hid (wr.drew.rowIs N 4 (s.size + 1) (fun j => .bool (if j ≤ i then nxF x s g j else false))) := HR.out.drew
              have HG6 : Hid (PlIn wr.drew (.slice (some ⟨ba, oa, none⟩) (s.size + 1) ca) (s.size + 1) g) := HG.out
              have HB6 : Hid (Below w.heap.size w wr.drew) := HB.out.drew
              clear hrg qa qm qn HR HG HB
              generalize wr.drew = w6 at HR6 HG6 HB6 ⊢
              go_wp2_with fail
              have HRE : Hid (w6.rowIs N 4 (s.size + 1) (fun j => .bool (if j ≤ i + 1 then nxF x s g j else false))) := HR6.out.congr fun j hj => by
                by_cases h1 : j = i + 1
                · rw [if_neg (by omega), if_pos (by omega), h1, HV.out]
                · by_cases h2 : j ≤ i
                  · rw [if_pos h2, if_pos (by omega)]
                  · rw [if_neg h2, if_neg (by omega)]
              go_roundg (s.size - (i + 1))
              case measure => omega
              case rel => exact ⟨i + 1, by omega, by go_num, HRE.out, HG6.out, HB6.out, Nat.le_refl _⟩
            | true =>
              cases ni with
              | false =>
                have HV : Hid (nxF x s g (i + 1) = false) := HV1.out
                refine sw_region_tail 25 (by kernel_rfl) (by kernel_rfl) rfl rfl ?_
                refine sw_take (some 29) rfl (by kernel_rfl) (.slice (some ⟨ba, oa, none⟩) (s.size + 1) ca) (ex_move _ _ rfl (by kernel_rfl)) ?_
                simp only [Act.put, List.setIfInBounds_toArray, List.set_cons_zero, List.set_cons_succ]
                refine sw_take (some 30) rfl (by kernel_rfl) (.int .i64 i) (ex_move _ _ rfl (by kernel_rfl)) ?_
                simp only [Act.put, List.setIfInBounds_toArray, List.set_cons_zero, List.set_cons_succ]
                refine sw_take (some 31) rfl (by kernel_rfl) (.pointer (some ⟨ba, oa + i, none⟩)) (ex_indexAddr 86 _ _ (.slice (some ⟨ba, oa, none⟩) (s.size + 1) ca) (.int .i64 i) _ rfl (by kernel_rfl) (by kernel_rfl) (by go_simp)) ?_
                simp only [Act.put, List.setIfInBounds_toArray, List.set_cons_zero, List.set_cons_succ]
                refine sw_take (some 32) rfl (by kernel_rfl) (.bool false) (ex_load 4 _ (.pointer (some ⟨ba, oa + i, none⟩)) _ rfl (by kernel_rfl) (by go_simp)) ?_
                simp only [Act.put, List.setIfInBounds_toArray, List.set_cons_zero, List.set_cons_succ]
                refine sw_take (some 33) rfl (by kernel_rfl) (.bool false) (ex_move _ _ rfl (by kernel_rfl)) ?_
                simp only [Act.put, List.setIfInBounds_toArray, List.set_cons_zero, List.set_cons_succ]
                refine sw_take (some 34) rfl (by kernel_rfl) (.slice (some ⟨b, o, none⟩) l.length c) (ex_move _ _ rfl (by kernel_rfl)) ?_
                simp only [Act.put, List.setIfInBounds_toArray, List.set_cons_zero, List.set_cons_succ]
                refine sw_take (some 35) rfl (by kernel_rfl) (.int .i64 k) (ex_move _ _ rfl (by kernel_rfl)) ?_
                simp only [Act.put, List.setIfInBounds_toArray, List.set_cons_zero, List.set_cons_succ]
                refine sw_take (some 36) rfl (by kernel_rfl) (.pointer (some ⟨b, o + k * 34, none⟩)) (ex_indexAddr 28 _ _ (.slice (some ⟨b, o, none⟩) l.length c) (.int .i64 k) _ rfl (by kernel_rfl) (by kernel_rfl) (HIA.out)) ?_
                simp only [Act.put, List.setIfInBounds_toArray, List.set_cons_zero, List.set_cons_succ]
                refine sw_take (some 37) rfl (by kernel_rfl) (.pointer (some ⟨b, o + k * 34 + 33, none⟩)) (ex_fieldAddr 26 _ 2 (.pointer (some ⟨b, o + k * 34, none⟩)) _ rfl (by kernel_rfl) (HFA.out)) ?_
                simp only [Act.put, List.setIfInBounds_toArray, List.set_cons_zero, List.set_cons_succ]
                refine sw_take (some 38) rfl (by kernel_rfl) (.bool true) (ex_load 4 _ (.pointer (some ⟨b, o + k * 34 + 33, none⟩)) _ rfl (by kernel_rfl) (by go_simp)) ?_
                simp only [Act.put, List.setIfInBounds_toArray, List.set_cons_zero, List.set_cons_succ]
                refine sw_take (some 39) rfl (by kernel_rfl) (.bool true) (ex_move _ _ rfl (by kernel_rfl)) ?_
                simp only [Act.put, List.setIfInBounds_toArray, List.set_cons_zero, List.set_cons_succ]
                refine sw_take (some 40) rfl (by kernel_rfl) (.slice (some ⟨N, 0, none⟩) (s.size + 1) (s.size + 1)) (ex_move _ _ rfl (by kernel_rfl)) ?_
                simp only [Act.put, List.setIfInBounds_toArray, List.set_cons_zero, List.set_cons_succ]
                refine sw_take (some 41) rfl (by kernel_rfl) (.int .i64 i) (ex_move _ _ rfl (by kernel_rfl)) ?_
                simp only [Act.put, List.setIfInBounds_toArray, List.set_cons_zero, List.set_cons_succ]
                refine sw_take (some 42) rfl (by kernel_rfl) (.pointer (some ⟨N, i, none⟩)) (ex_indexAddr 86 _ _ (.slice (some ⟨N, 0, none⟩) (s.size + 1) (s.size + 1)) (.int .i64 i) _ rfl (by kernel_rfl) (by kernel_rfl) (by go_simp)) ?_
                simp only [Act.put, List.setIfInBounds_toArray, List.set_cons_zero, List.set_cons_succ]
                refine sw_take (some 43) rfl (by kernel_rfl) (.bool false) (ex_load 4 _ (.pointer (some ⟨N, i, none⟩)) _ rfl (by kernel_rfl) (by go_simp)) ?_
                simp only [Act.put, List.setIfInBounds_toArray, List.set_cons_zero, List.set_cons_succ]
                refine sw_take (some 44) rfl (by kernel_rfl) (.bool false) (ex_pick _ _ _ true (.bool false) (.bool false) rfl (by kernel_rfl) (by kernel_rfl) (by kernel_rfl)) ?_
                simp only [Act.put, List.setIfInBounds_toArray, List.set_cons_zero, List.set_cons_succ]
                refine sw_take (some 45) rfl (by kernel_rfl) (.bool false) (ex_pick _ _ _ false (.bool true) (.bool false) rfl (by kernel_rfl) (by kernel_rfl) (by kernel_rfl)) ?_
                simp only [Act.put, List.setIfInBounds_toArray, List.set_cons_zero, List.set_cons_succ]
                refine sw_take (some 46) rfl (by kernel_rfl) (.bool false) (ex_move _ _ rfl (by kernel_rfl)) ?_
                simp only [Act.put, List.setIfInBounds_toArray, List.set_cons_zero, List.set_cons_succ]
                refine sw_pass (some 47) rfl (by kernel_rfl) ?_
                simp only [Act.put, List.setIfInBounds_toArray, List.set_cons_zero, List.set_cons_succ]
                refine sw_pass (some 48) rfl (by kernel_rfl) ?_
                simp only [Act.put, List.setIfInBounds_toArray, List.set_cons_zero, List.set_cons_succ]
                refine sw_pass (some 49) rfl (by kernel_rfl) ?_
                simp only [Act.put, List.setIfInBounds_toArray, List.set_cons_zero, List.set_cons_succ]
                refine sw_pass (some 50) rfl (by kernel_rfl) ?_
                simp only [Act.put, List.setIfInBounds_toArray, List.set_cons_zero, List.set_cons_succ]
                refine sw_pass (some 51) rfl (by kernel_rfl) ?_
                simp only [Act.put, List.setIfInBounds_toArray, List.set_cons_zero, List.set_cons_succ]
                refine sw_pass (some 52) rfl (by kernel_rfl) ?_
                simp only [Act.put, List.setIfInBounds_toArray, List.set_cons_zero, List.set_cons_succ]
                refine sw_pass (some 53) rfl (by kernel_rfl) ?_
                simp only [Act.put, List.setIfInBounds_toArray, List.set_cons_zero, List.set_cons_succ]
                refine sw_nil ?_
                change wpList _ _ _ _ _ wr.drew
                have HR6 : Hid (wr.drew.rowIs N 4 (s.size + 1) (fun j => .bool (if j ≤ i then nxF x s g j else false))) := HR.out.drew
                have HG6 : Hid (PlIn wr.drew (.slice (some ⟨ba, oa, none⟩) (s.size + 1) ca) (s.size + 1) g) := HG.out
                have HB6 : Hid (Below w.heap.size w wr.drew) := HB.out.drew
                clear hrg qa qm qn HR HG HB
                generalize wr.drew = w6 at HR6 HG6 HB6 ⊢
                go_wp2_with fail
                have HRE : Hid (w6.rowIs N 4 (s.size + 1) (fun j => .bool (if j ≤ i + 1 then nxF x s g j else false))) := HR6.out.congr fun j hj => by
                  by_cases h1 : j = i + 1
                  · rw [if_neg (by omega), if_pos (by omega), h1, HV.out]
                  · by_cases h2 : j ≤ i
                    · rw [if_pos h2, if_pos (by omega)]
                    · rw [if_neg h2, if_neg (by omega)]
                go_roundg (s.size - (i + 1))
                case measure => omega
                case rel => exact ⟨i + 1, by omega, by go_num, HRE.out, HG6.out, HB6.out, Nat.le_refl _⟩
              | true =>
                have HV0 : Hid (nxF x s g (i + 1) = (true && px)) := HV1.out
                clear HV1
                refine sw_region_tail 25 (by kernel_rfl) (by kernel_rfl) rfl rfl ?_
                refine sw_take (some 29) rfl (by kernel_rfl) (.slice (some ⟨ba, oa, none⟩) (s.size + 1) ca) (ex_move _ _ rfl (by kernel_rfl)) ?_
                simp only [Act.put, List.setIfInBounds_toArray, List.set_cons_zero, List.set_cons_succ]
                refine sw_take (some 30) rfl (by kernel_rfl) (.int .i64 i) (ex_move _ _ rfl (by kernel_rfl)) ?_
                simp only [Act.put, List.setIfInBounds_toArray, List.set_cons_zero, List.set_cons_succ]
                refine sw_take (some 31) rfl (by kernel_rfl) (.pointer (some ⟨ba, oa + i, none⟩)) (ex_indexAddr 86 _ _ (.slice (some ⟨ba, oa, none⟩) (s.size + 1) ca) (.int .i64 i) _ rfl (by kernel_rfl) (by kernel_rfl) (by go_simp)) ?_
                simp only [Act.put, List.setIfInBounds_toArray, List.set_cons_zero, List.set_cons_succ]
                refine sw_take (some 32) rfl (by kernel_rfl) (.bool false) (ex_load 4 _ (.pointer (some ⟨ba, oa + i, none⟩)) _ rfl (by kernel_rfl) (by go_simp)) ?_
                simp only [Act.put, List.setIfInBounds_toArray, List.set_cons_zero, List.set_cons_succ]
                refine sw_take (some 33) rfl (by kernel_rfl) (.bool false) (ex_move _ _ rfl (by kernel_rfl)) ?_
                simp only [Act.put, List.setIfInBounds_toArray, List.set_cons_zero, List.set_cons_succ]
                refine sw_take (some 34) rfl (by kernel_rfl) (.slice (some ⟨b, o, none⟩) l.length c) (ex_move _ _ rfl (by kernel_rfl)) ?_
                simp only [Act.put, List.setIfInBounds_toArray, List.set_cons_zero, List.set_cons_succ]
                refine sw_take (some 35) rfl (by kernel_rfl) (.int .i64 k) (ex_move _ _ rfl (by kernel_rfl)) ?_
                simp only [Act.put, List.setIfInBounds_toArray, List.set_cons_zero, List.set_cons_succ]
                refine sw_take (some 36) rfl (by kernel_rfl) (.pointer (some ⟨b, o + k * 34, none⟩)) (ex_indexAddr 28 _ _ (.slice (some ⟨b, o, none⟩) l.length c) (.int .i64 k) _ rfl (by kernel_rfl) (by kernel_rfl) (HIA.out)) ?_
                simp only [Act.put, List.setIfInBounds_toArray, List.set_cons_zero, List.set_cons_succ]
                refine sw_take (some 37) rfl (by kernel_rfl) (.pointer (some ⟨b, o + k * 34 + 33, none⟩)) (ex_fieldAddr 26 _ 2 (.pointer (some ⟨b, o + k * 34, none⟩)) _ rfl (by kernel_rfl) (HFA.out)) ?_
                simp only [Act.put, List.setIfInBounds_toArray, List.set_cons_zero, List.set_cons_succ]
                refine sw_take (some 38) rfl (by kernel_rfl) (.bool true) (ex_load 4 _ (.pointer (some ⟨b, o + k * 34 + 33, none⟩)) _ rfl (by kernel_rfl) (by go_simp)) ?_
                simp only [Act.put, List.setIfInBounds_toArray, List.set_cons_zero, List.set_cons_succ]
                refine sw_take (some 39) rfl (by kernel_rfl) (.bool true) (ex_move _ _ rfl (by kernel_rfl)) ?_
                simp only [Act.put, List.setIfInBounds_toArray, List.set_cons_zero, List.set_cons_succ]
                refine sw_take (some 40) rfl (by kernel_rfl) (.slice (some ⟨N, 0, none⟩) (s.size + 1) (s.size + 1)) (ex_move _ _ rfl (by kernel_rfl)) ?_
                simp only [Act.put, List.setIfInBounds_toArray, List.set_cons_zero, List.set_cons_succ]
                refine sw_take (some 41) rfl (by kernel_rfl) (.int .i64 i) (ex_move _ _ rfl (by kernel_rfl)) ?_
                simp only [Act.put, List.setIfInBounds_toArray, List.set_cons_zero, List.set_cons_succ]
                refine sw_take (some 42) rfl (by kernel_rfl) (.pointer (some ⟨N, i, none⟩)) (ex_indexAddr 86 _ _ (.slice (some ⟨N, 0, none⟩) (s.size + 1) (s.size + 1)) (.int .i64 i) _ rfl (by kernel_rfl) (by kernel_rfl) (by go_simp)) ?_
                simp only [Act.put, List.setIfInBounds_toArray, List.set_cons_zero, List.set_cons_succ]
                refine sw_take (some 43) rfl (by kernel_rfl) (.bool true) (ex_load 4 _ (.pointer (some ⟨N, i, none⟩)) _ rfl (by kernel_rfl) (by go_simp)) ?_
                simp only [Act.put, List.setIfInBounds_toArray, List.set_cons_zero, List.set_cons_succ]
                refine sw_take (some 44) rfl (by kernel_rfl) (.bool true) (ex_pick _ _ _ true (.bool true) (.bool false) rfl (by kernel_rfl) (by kernel_rfl) (by kernel_rfl)) ?_
                simp only [Act.put, List.setIfInBounds_toArray, List.set_cons_zero, List.set_cons_succ]
                refine sw_take (some 45) rfl (by kernel_rfl) (.bool true) (ex_pick _ _ _ false (.bool true) (.bool true) rfl (by kernel_rfl) (by kernel_rfl) (by kernel_rfl)) ?_
                simp only [Act.put, List.setIfInBounds_toArray, List.set_cons_zero, List.set_cons_succ]
                refine sw_take (some 46) rfl (by kernel_rfl) (.bool true) (ex_move _ _ rfl (by kernel_rfl)) ?_
                simp only [Act.put, List.setIfInBounds_toArray, List.set_cons_zero, List.set_cons_succ]
                refine sw_take (some 47) rfl (by kernel_rfl) (.slice (some ⟨b, o, none⟩) l.length c) (ex_move _ _ rfl (by kernel_rfl)) ?_
                simp only [Act.put, List.setIfInBounds_toArray, List.set_cons_zero, List.set_cons_succ]
                refine sw_take (some 48) rfl (by kernel_rfl) (.int .i64 k) (ex_move _ _ rfl (by kernel_rfl)) ?_
                simp only [Act.put, List.setIfInBounds_toArray, List.set_cons_zero, List.set_cons_succ]
                refine sw_take (some 49) rfl (by kernel_rfl) (.pointer (some ⟨b, o + k * 34, none⟩)) (ex_indexAddr 28 _ _ (.slice (some ⟨b, o, none⟩) l.length c) (.int .i64 k) _ rfl (by kernel_rfl) (by kernel_rfl) (HIA.out)) ?_
                simp only [Act.put, List.setIfInBounds_toArray, List.set_cons_zero, List.set_cons_succ]
                refine sw_take (some 50) rfl (by kernel_rfl) (.agg (atC x).toArray) (ex_load 26 _ (.pointer (some ⟨b, o + k * 34, none⟩)) _ rfl (by kernel_rfl) (HLA.out)) ?_
                simp only [Act.put, List.setIfInBounds_toArray, List.set_cons_zero, List.set_cons_succ]
                refine sw_take (some 51) rfl (by kernel_rfl) (.string s) (ex_move _ _ rfl (by kernel_rfl)) ?_
                simp only [Act.put, List.setIfInBounds_toArray, List.set_cons_zero, List.set_cons_succ]
                refine sw_take (some 52) rfl (by kernel_rfl) (.int .i64 i) (ex_move _ _ rfl (by kernel_rfl)) ?_
                simp only [Act.put, List.setIfInBounds_toArray, List.set_cons_zero, List.set_cons_succ]
                refine sw_take (some 53) rfl (by kernel_rfl) (.int .u8 (s[i].toNat)) (ex_index 9 _ _ (.string s) (.int .i64 i) _ rfl (by kernel_rfl) (by kernel_rfl) (by go_simp)) ?_
                simp only [Act.put, List.setIfInBounds_toArray, List.set_cons_zero, List.set_cons_succ]
                refine sw_nil ?_
                change wpList _ _ _ _ _ wr.drew
                have HR6 : Hid (wr.drew.rowIs N 4 (s.size + 1) (fun j => .bool (if j ≤ i then nxF x s g j else false))) := HR.out.drew
                have HG6 : Hid (PlIn wr.drew (.slice (some ⟨ba, oa, none⟩) (s.size + 1) ca) (s.size + 1) g) := HG.out
                have HB6 : Hid (Below w.heap.size w wr.drew) := HB.out.drew
                clear HR HG HB hrg qa qn qm
                generalize wr.drew = w6 at HR6 HG6 HB6 ⊢
                have hz6 := HR6.out.lt
                go_upto_if 55 with (go_at_call 93; refine (HC.out _).mono ?_; rintro e w7 ⟨rfl, hb7⟩)
                have HR7 := Lib.hid (HR6.out.of_block (hb7.block _ hz6))
                have HG7 := Lib.hid (HG6.out.below hb7 (Nat.le_refl _))
                have HB7 := Lib.hid (HB6.out.trans (hb7.mono HB6.out.size))
                clear HR6 HG6 HB6 hb7 HC
                have r0 := HR7.out.cell (i := i + 1) (by omega)
                have rf := HR7.out.frozen (i + 1)
                rw [if_neg (by omega)] at r0
                cases px with
                | false =>
                  have HV : Hid (nxF x s g (i + 1) = false) := by show _ = _; rw [HV0.out]; exact Bool.and_false _
                  clear r0 rf
                  go_wp2_with fail
                  have HRE : Hid (w7.rowIs N 4 (s.size + 1) (fun j => .bool (if j ≤ i + 1 then nxF x s g j else false))) := HR7.out.congr fun j hj => by
                    by_cases h1 : j = i + 1
                    · rw [if_neg (by omega), if_pos (by omega), h1, HV.out]
                    · by_cases h2 : j ≤ i
                      · rw [if_pos h2, if_pos (by omega)]
                      · rw [if_neg h2, if_neg (by omega)]
                  go_roundg (s.size - (i + 1))
                  case measure => omega
                  case rel => exact ⟨i + 1, by omega, by go_num, HRE.out, HG7.out, HB7.out, Nat.le_refl _⟩
                | true =>
                  have HV : Hid (nxF x s g (i + 1) = true) := by show _ = _; rw [HV0.out]; exact Bool.and_true _
                  go_wp2_with fail
                  have HRE : Hid ((w7.setCell ⟨N, i + 1, none⟩ (.bool true)).rowIs N 4 (s.size + 1) (fun j => .bool (if j ≤ i + 1 then nxF x s g j else false))) := (HR7.out.set (i + 1) (.bool true)).congr fun j hj => by
                    by_cases h1 : j = i + 1
                    · rw [if_pos h1, if_pos (by omega), h1, HV.out]
                    · by_cases h2 : j ≤ i
                      · rw [if_neg h1, if_pos h2, if_pos (by omega)]
                      · rw [if_neg h1, if_neg h2, if_neg (by omega)]
                  go_roundg (s.size - (i + 1))
                  case measure => omega
                  case rel => exact ⟨i + 1, by omega, by go_num, HRE.out, HG7.out.setOther (by omega) _, HB7.out.setCell (p := ⟨N, i + 1, none⟩) hN _, Nat.le_refl _⟩
        · obtain rfl : i = s.size := by omega
          have hii : ¬ (s.size : Int) < (s.size : Int) := by omega
          have HR2 : Hid (wr.rowIs N 4 (s.size + 1) (fun j => .bool (if j < 0 then advF x s g j else nxF x s g j))) := HR.out.congr fun j hj => by rw [if_pos (by omega), if_neg (by omega)]
          clear HR
          go_wp2_with fail
          obtain ⟨wp, rfl⟩ : ∃ wp : World, wp = wr := ⟨_, rfl⟩
          go_loopg [62] (s.size + 1) (fun n iv wr => ∃ i : Nat, i ≤ s.size + 1 ∧ iv = .int .i64 i ∧ Hid (wr.rowIs N 4 (s.size + 1) (fun j => .bool (if j < i then advF x s g j else nxF x s g j))) ∧ Hid (PlIn wr (.slice (some ⟨ba, oa, none⟩) (s.size + 1) ca) (s.size + 1) g) ∧ Hid (Below w.heap.size w wr) ∧ s.size + 1 - i ≤ n)
          case atStart => exact ⟨0, by omega, rfl, HR2.out, HG.out, HB.out, by omega⟩
          case round =>
            clear HR2 HG HB
            obtain ⟨i, hi1, rfl, HR, HG, HB, hgi⟩ := hrel
            by_cases hil : i < s.size + 1
            · have hi2 : (i : Int) < (s.size : Int) + 1 := by omega
              have qm : wr.cell? ⟨b, o + k * 34 + 32, none⟩ = some (.int .i64 x.mn) := (HB.out.cell (p := ⟨b, o + k * 34 + 32, none⟩) hbl).trans (HCL.out 32 _ (atC_mn x))
              have qa : wr.cell? ⟨ba, oa + i, none⟩ = some (.bool (g i)) := pl_cell HG.out i (by omega)
              have qn := HR.out.cell (i := i) (by omega)
              rw [if_neg (Nat.lt_irrefl _)] at qn
              have rf := HR.out.frozen i
              have HV1 : Hid (advF x s g i = (nxF x s g i || (decide (x.mn ≤ 0) && g i))) := by
                show _ = _
                unfold advF
                congr 2
                rw [decide_eq_decide]
                omega
              obtain ⟨ni, HNI⟩ : ∃ ni, Hid (ni = nxF x s g i) := ⟨_, rfl⟩
              obtain ⟨fi, HFI⟩ : ∃ fi, Hid (fi = g i) := ⟨_, rfl⟩
              rw [← HNI.out] at qn HV1
              rw [← HFI.out] at qa HV1
              clear HNI HFI
              go_upto_region 14 with fail
              cases ni with
              | true =>
                have HV : Hid (advF x s g i = true) := HV1.out
                have HRE : Hid ((wr.setCell ⟨N, i, none⟩ (.bool true)).rowIs N 4 (s.size + 1) (fun j => .bool (if j < i + 1 then advF x s g j else nxF x s g j))) :=
                  (HR.out.set i (.bool true)).congr fun j hj => by
                    by_cases h1 : j = i
                    · rw [if_pos h1, h1, if_pos (by omega), HV.out]
                    · rw [if_neg h1]
                      by_cases h2 : j < i
                      · rw [if_pos h2, if_pos (by omega)]
                      · rw [if_neg h2, if_neg (by omega)]
                go_wp2_with fail
                go_roundg (s.size + 1 - (i + 1))
                case measure => omega
                case rel => exact ⟨i + 1, by omega, by go_num, HRE.out, HG.out.setOther (by omega) _, HB.out.setCell (p := ⟨N, i, none⟩) hN _, Nat.le_refl _⟩
              | false =>
                by_cases hm : x.mn ≤ 0
                · have HV : Hid (advF x s g i = fi) := by show _ = _; rw [HV1.out, decide_eq_true hm]; rfl
                  have HRE : Hid ((wr.setCell ⟨N, i, none⟩ (.bool fi)).rowIs N 4 (s.size + 1) (fun j => .bool (if j < i + 1 then advF x s g j else nxF x s g j))) :=
                    (HR.out.set i (.bool fi)).congr fun j hj => by
                      by_cases h1 : j = i
                      · rw [if_pos h1, h1, if_pos (by omega), HV.out]
                      · rw [if_neg h1]
                        by_cases h2 : j < i
                        · rw [if_pos h2, if_pos (by omega)]
                        · rw [if_neg h2, if_neg (by omega)]
                  go_wp2_with fail
                  go_roundg (s.size + 1 - (i + 1))
                  case measure => omega
                  case rel => exact ⟨i + 1, by omega, by go_num, HRE.out, HG.out.setOther (by omega) _, HB.out.setCell (p := ⟨N, i, none⟩) hN _, Nat.le_refl _⟩
                · have HV : Hid (advF x s g i = false) := by show _ = _; rw [HV1.out, decide_eq_false hm]; rfl
                  have HRE : Hid ((wr.setCell ⟨N, i, none⟩ (.bool false)).rowIs N 4 (s.size + 1) (fun j => .bool (if j < i + 1 then advF x s g j else nxF x s g j))) :=
                    (HR.out.set i (.bool false)).congr fun j hj => by
                      by_cases h1 : j = i
                      · rw [if_pos h1, h1, if_pos (by omega), HV.out]
                      · rw [if_neg h1]
                        by_cases h2 : j < i
                        · rw [if_pos h2, if_pos (by omega)]
                        · rw [if_neg h2, if_neg (by omega)]
                  go_wp2_with fail
                  go_roundg (s.size + 1 - (i + 1))
                  case measure => omega
                  case rel => exact ⟨i + 1, by omega, by go_num, HRE.out, HG.out.setOther (by omega) _, HB.out.setCell (p := ⟨N, i, none⟩) hN _, Nat.le_refl _⟩
            · obtain rfl : i = s.size + 1 := by omega
              have hi2 : ¬ (((s.size + 1 : Nat)) : Int) < (s.size : Int) + 1 := by omega
              have HRE : Hid (wr.rowIs N 4 (s.size + 1) (fun j => .bool (advF x s g j))) := HR.out.congr fun j hj => by rw [if_pos hj]
              go_wp2_with fail
              go_roundg (l.length - (k + 1))
              case measure => omega
              case rel => exact ⟨k + 1, advF x s g, by go_num, by omega, row_pl HRE.out, HX2.out, HB.out, Nat.le_refl _⟩
    · have hki : ¬ (k : Int) < (l.length : Int) := by omega
      have HE : Hid (g = R) := by
        have h := HX.out
        rw [List.drop_eq_nil_of_le (by omega)] at h
        exact h
      go_wp2_with fail
      go_ret
      rw [HE.out] at HG
      exact ⟨_, rfl, HG.out, HB.out⟩

end Go.Proofs.YtpboaadjbkaidaaDoor

namespace Go.Proofs.YtpboaadjbkaidaaDoor
set_option maxRecDepth 100000
open Go.RowKit

set_option maxRecDepth 100000 in
set_option maxHeartbeats 4000000 in
theorem rstart_any (s : ByteArray) (w : World) (hs : s.size ≤ 2147483648) :
    Calls Tryd.prog 94 #[.string s] w (RetPl w (s.size + 1) startF) := by
  have hmk := fun w => run_make_row' (P := Tryd.prog) 86 4 (.bool false) 1 Tryd.underlying86 bool_info rfl .i64 .i64 (s.size + 1) (by omega) (by omega) w
  rw [show ((s.size + 1 : Nat) : Int) = (s.size : Int) + 1 by omega] at hmk
  go_enter Tryd.func94, Tryd.ntmps94
  have HR0 : Hid ((w.alloc (.cells (madeCells #[.bool false] (s.size + 1)) 4)).rowIs w.heap.size 4 (s.size + 1) (fun _ => .bool false)) := World.rowIs_made w (.bool false) (s.size + 1) 4
  have HB0 := Lib.hid ((Below.refl w.heap.size w).alloc (Nat.le_refl _) (.cells (madeCells #[.bool false] (s.size + 1)) 4))
  go_upto_region 2 with fail
  generalize w.alloc (.cells (madeCells #[.bool false] (s.size + 1)) 4) = w1 at HR0 HB0 ⊢
  have r0 := HR0.out.cell (i := 0) (by omega)
  have rf := HR0.out.frozen 0
  have HR1 : Hid ((w1.setCell ⟨w.heap.size, 0, none⟩ (.bool true)).rowIs w.heap.size 4 (s.size + 1) (fun j => .bool (startF j))) := (HR0.out.set 0 (.bool true)).congr fun j _ => by
    unfold startF
    by_cases h : j = 0
    · rw [if_pos h, h]; rfl
    · rw [if_neg h, show (j == 0) = false from beq_eq_false_iff_ne.2 h]
  have hse : (0 : Int) < (s.size : Int) + 1 := by omega
  go_wp2_with fail
  go_ret
  exact ⟨w.heap.size, rfl, Nat.le_refl _, HR1.out, HB0.out.setCell (p := ⟨w.heap.size, 0, none⟩) (Nat.le_refl _) _⟩

set_option maxRecDepth 100000 in
set_option maxHeartbeats 4000000 in
theorem rlongest_any (p : List At) (s : ByteArray) (pv : Value) (w : World) (hp : RdE atC 34 w pv p) (hs : s.size ≤ 2147483648) (hl : p.length ≤ 140737488355328) :
    Calls Tryd.prog 68 #[pv, .string s] w fun e w' => e = .returned (.int .i64 (longestF p s)) ∧ Below w.heap.size w w' := by
  obtain ⟨V, HV⟩ : ∃ V, Hid (V = longestF p s) := ⟨_, rfl⟩
  rw [← HV.out]
  go_enter Tryd.func68, Tryd.ntmps68
  go_wp2_with (first
    | (go_at_call 94; refine (rstart_any s _ hs).mono ?_; rintro e w1 ⟨g1, rfl, hg1, hr1, hb1⟩)
    | (go_at_call 67; refine (rreach_any p s pv _ _ _ (by exact hp.below hb1 (Nat.le_refl _)) (by exact row_rd hr1) hs hl).mono ?_; rintro e w2 ⟨v2, rfl, hv2, hb2⟩; obtain ⟨b2, o2, c2, rfl, hbl2, hc2⟩ := hv2))
  obtain ⟨R, HR⟩ : ∃ R, Hid (R = reachF s p startF) := ⟨_, rfl⟩
  rw [← HR.out] at hc2
  have HC := Lib.hid hc2
  have HB2 := Lib.hid (hb1.trans (hb2.mono hb1.size))
  have HV0 : Hid (longF R (s.size + 1) = V) := by show _ = _; rw [HV.out, HR.out]; rfl
  clear hc2 hb1 hb2 hr1 HV HR hp
  go_loopg [5, 14] (s.size + 1) (fun n bv iv wr => ∃ k : Nat, k ≤ s.size + 1 ∧ bv = .int .i64 (longF R k) ∧ iv = .int .i64 (k : Nat) ∧ w2 = wr ∧ s.size + 1 - k ≤ n)
  case atStart => exact ⟨0, by omega, rfl, rfl, rfl, by omega⟩
  case round =>
    obtain ⟨k, hk, rfl, rfl, rfl, hgk⟩ := hrel
    by_cases hkl : k < s.size + 1
    · have hki : (k : Int) < (s.size : Int) + 1 := by omega
      have q := HC.out k hkl
      have HS : Hid (longF R (k + 1) = if R k = true then (k : Int) else longF R k) := rfl
      generalize longF R k = y at HS
      cases hRk : R k with
      | true =>
        rw [hRk] at q HS
        rw [if_pos rfl] at HS
        go_wp2_with fail
        go_roundg (s.size + 1 - (k + 1))
        case measure => omega
        case rel => exact ⟨k + 1, by omega, by rw [HS.out], by go_num, rfl, Nat.le_refl _⟩
      | false =>
        rw [hRk] at q HS
        rw [if_neg Bool.false_ne_true] at HS
        go_wp2_with fail
        go_roundg (s.size + 1 - (k + 1))
        case measure => omega
        case rel => exact ⟨k + 1, by omega, by rw [HS.out], by go_num, rfl, Nat.le_refl _⟩
    · obtain rfl : k = s.size + 1 := by omega
      have hki : ¬ (((s.size + 1 : Nat)) : Int) < (s.size : Int) + 1 := by omega
      rw [HV0.out]
      go_wp2_with fail
      go_ret
      exact ⟨rfl, HB2.out⟩

set_option maxRecDepth 100000 in
set_option maxHeartbeats 4000000 in
theorem rprefix_any (p : List At) (s : ByteArray) (pv : Value) (w : World) (hp : RdE atC 34 w pv p) (hs : s.size ≤ 2147483648) (hl : p.length ≤ 140737488355328) :
    Calls Tryd.prog 33 #[pv, .string s] w fun e w' => e = .returned (.bool (prefixF p s)) ∧ Below w.heap.size w w' := by
  have HL := Lib.hid (rlongest_any p s pv w hp hs hl)
  have HP : Hid (prefixF p s = decide (0 ≤ longestF p s)) := rfl
  go_enter Tryd.func33, Tryd.ntmps33
  generalize longestF p s = z at HL HP
  go_wp2_with (go_at_call 68; refine HL.out.mono ?_; rintro e w1 ⟨rfl, hb1⟩)
  go_ret
  exact ⟨ret_bool (by rw [HP.out]), hb1⟩

set_option maxRecDepth 100000 in
set_option maxHeartbeats 4000000 in
theorem rsuffix_any (p : List At) (s : ByteArray) (pv : Value) (w : World) (hp : RdE atC 34 w pv p) (hs : s.size ≤ 2147483648) (hl : p.length ≤ 140737488355328) :
    Calls Tryd.prog 32 #[pv, .string s] w fun e w' => e = .returned (.bool (suffixF p s)) ∧ Below w.heap.size w w' := by
  have hmk := fun w => run_make_row' (P := Tryd.prog) 86 4 (.bool false) 1 Tryd.underlying86 bool_info rfl .i64 .i64 (s.size + 1) (by omega) (by omega) w
  rw [show ((s.size + 1 : Nat) : Int) = (s.size : Int) + 1 by omega] at hmk
  obtain ⟨V, HV⟩ : ∃ V, Hid (V = suffixF p s) := ⟨_, rfl⟩
  rw [← HV.out]
  go_enter Tryd.func32, Tryd.ntmps32
  have HR0 : Hid ((w.alloc (.cells (madeCells #[.bool false] (s.size + 1)) 4)).rowIs w.heap.size 4 (s.size + 1) (fun j => .bool (decide (j < 0)))) := (World.rowIs_made w (.bool false) (s.size + 1) 4).congr fun j _ => by rw [decide_eq_false (by omega)]
  have HB0 := Lib.hid ((Below.refl w.heap.size w).alloc (Nat.le_refl _) (.cells (madeCells #[.bool false] (s.size + 1)) 4))
  go_wp2_with fail
  generalize w.alloc (.cells (madeCells #[.bool false] (s.size + 1)) 4) = w1 at HR0 HB0
  go_loopg [13] (s.size + 1) (fun n kv wr => ∃ k : Nat, k ≤ s.size + 1 ∧ kv = .int .i64 k ∧ Hid (wr.rowIs w.heap.size 4 (s.size + 1) (fun j => .bool (decide (j < k)))) ∧ Hid (Below w.heap.size w wr) ∧ s.size + 1 - k ≤ n)
  case atStart => exact ⟨0, by omega, rfl, HR0.out, HB0.out, by omega⟩
  case round =>
    clear HR0 HB0
    obtain ⟨k, hk, rfl, HR, HB, hgk⟩ := hrel
    by_cases hkl : k < s.size + 1
    · have hki : (k : Int) < (s.size : Int) + 1 := by omega
      have r0 := HR.out.cell (i := k) hkl
      have rf := HR.out.frozen k
      have HR1 : Hid ((wr.setCell ⟨w.heap.size, k, none⟩ (.bool true)).rowIs w.heap.size 4 (s.size + 1) (fun j => .bool (decide (j < k + 1)))) := (HR.out.set k (.bool true)).congr fun j _ => by
        by_cases h : j = k
        · rw [if_pos h, decide_eq_true (by omega)]
        · rw [if_neg h]
          congr 1
          rw [decide_eq_decide]
          omega
      go_wp2_with fail
      go_roundg (s.size + 1 - (k + 1))
      case measure => omega
      case rel => exact ⟨k + 1, by omega, by go_num, HR1.out, HB.out.setCell (p := ⟨w.heap.size, k, none⟩) (Nat.le_refl _) _, Nat.le_refl _⟩
    · obtain rfl : k = s.size + 1 := by omega
      have hki : ¬ (((s.size + 1 : Nat)) : Int) < (s.size : Int) + 1 := by omega
      have HR1 : Hid (wr.rowIs w.heap.size 4 (s.size + 1) (fun j => .bool (allF j))) := HR.out.congr fun j hj => by rw [decide_eq_true hj]; rfl
      have HP := Lib.hid (hp.below HB.out (Nat.le_refl _))
      have HX := Lib.hid (rreach_any p s pv _ _ _ HP.out (row_rd HR1.out) hs hl)
      have hse : (s.size : Int) < (s.size : Int) + 1 := by omega
      go_wp2_with (go_at_call 67; refine HX.out.mono ?_; rintro e w2 ⟨v2, rfl, hv2, hb2⟩; obtain ⟨b2, o2, c2, rfl, hbl2, hc2⟩ := hv2; have qe := hc2 s.size (by omega))
      go_ret
      exact ⟨ret_bool (by rw [HV.out]; rfl), HB.out.trans (hb2.mono HB.out.size)⟩

set_option maxRecDepth 100000 in
set_option maxHeartbeats 4000000 in
theorem rvalid_any (p : List At) (pv : Value) (w : World) (hp : RdE atC 34 w pv p) (hl : p.length ≤ 140737488355328) :
    Calls Tryd.prog 62 #[pv] w fun e w' => e = .returned (.int .i64 (validF p)) ∧ Below w.heap.size w w' := by
  obtain ⟨A, c, rfl, hlc, _⟩ := hp.shape
  have HP := Lib.hid hp
  clear hp
  obtain ⟨V, HV⟩ : ∃ V, Hid (V = validF p) := ⟨_, rfl⟩
  rw [← HV.out]
  go_enter Tryd.func62, Tryd.ntmps62
  by_cases h32 : 32 < p.length
  · have h32i : (32 : Int) < (p.length : Int) := by omega
    have HE : Hid (V = 3) := by show _ = _; rw [HV.out]; unfold validF; rw [if_pos h32]
    go_wp2_with fail
    go_ret
    exact ⟨ret_int HE.out.symm, Below.refl _ _⟩
  have h32i : ¬ (32 : Int) < (p.length : Int) := by omega
  have HV1 : Hid (V = if p.all (fun x => x.mn == 0 || x.mn == 1) = true then 0 else 1) := by show _ = _; rw [HV.out]; unfold validF; rw [if_neg h32]
  clear HV
  go_wp2_with fail
  obtain ⟨w0, HW0⟩ : ∃ w0, Hid (w0 = w) := ⟨w, rfl⟩
  go_loopg [9] p.length (fun n kv wr => ∃ k : Nat, k ≤ p.length ∧ kv = .int .i64 k ∧ Hid (∀ j (h : j < p.length), j < k → (p[j].mn == 0 || p[j].mn == 1) = true) ∧ Hid (Below w.heap.size w wr) ∧ p.length - k ≤ n)
  case atStart => exact ⟨0, by omega, rfl, fun j _ h => absurd h (Nat.not_lt_zero j), Below.refl _ _, by omega⟩
  case round =>
    obtain ⟨k, hk, rfl, HA, HB, hgk⟩ := hrel
    by_cases hkl : k < p.length
    · have hki : (k : Int) < (p.length : Int) := by omega
      have hk0 : (0 : Int) ≤ (k : Int) := by omega
      obtain ⟨b, o, rfl, hbl, hcell⟩ := HP.out.cells (by omega)
      have hx : p[k]? = some p[k] := List.getElem?_eq_getElem hkl
      have qm : wr.cell? ⟨b, o + k * 34 + 32, none⟩ = some (.int .i64 p[k].mn) := by
        rw [Nat.add_assoc]
        exact (HB.out.cell (p := ⟨b, o + (k * 34 + 32), none⟩) hbl).trans (hcell k _ 32 _ hx (atC_mn _))
      clear hcell hx
      obtain ⟨x, HX⟩ : ∃ x : At, Hid (x = p[k]) := ⟨p[k], rfl⟩
      rw [← HX.out] at qm
      by_cases h0 : x.mn = 0
      · have t0 : (x.mn != 0) = false := bne_eq_false_iff_eq.2 h0
        have HA2 : Hid (∀ j (h : j < p.length), j < k + 1 → (p[j].mn == 0 || p[j].mn == 1) = true) := fun j hj hjk => by
          by_cases hj2 : j = k
          · subst hj2; rw [← HX.out, h0]; rfl
          · exact HA.out j hj (by omega)
        clear h0
        go_wp2_with fail
        go_roundg (p.length - (k + 1))
        case measure => omega
        case rel => exact ⟨k + 1, by omega, by go_num, HA2.out, HB.out, Nat.le_refl _⟩
      · have t0 : (x.mn != 0) = true := bne_iff_ne.2 h0
        by_cases h1 : x.mn = 1
        · have t1 : (x.mn != 1) = false := bne_eq_false_iff_eq.2 h1
          have HA2 : Hid (∀ j (h : j < p.length), j < k + 1 → (p[j].mn == 0 || p[j].mn == 1) = true) := fun j hj hjk => by
            by_cases hj2 : j = k
            · subst hj2; rw [← HX.out, h1]; rfl
            · exact HA.out j hj (by omega)
          clear h0 h1
          go_wp2_with fail
          go_roundg (p.length - (k + 1))
          case measure => omega
          case rel => exact ⟨k + 1, by omega, by go_num, HA2.out, HB.out, Nat.le_refl _⟩
        · have t1 : (x.mn != 1) = true := bne_iff_ne.2 h1
          have HE : Hid (V = 1) := by
            show _ = _
            rw [HV1.out, if_neg]
            intro ha
            have := List.all_eq_true.1 ha p[k] (List.getElem_mem _)
            rw [← HX.out] at this
            simp at this
            omega
          clear h0 h1
          go_wp2_with fail
          go_ret
          exact ⟨ret_int HE.out.symm, HB.out⟩
    · have hki : ¬ (k : Int) < (p.length : Int) := by omega
      have HE : Hid (V = 0) := by
        show _ = _
        rw [HV1.out, if_pos]
        refine List.all_eq_true.2 fun x hx => ?_
        obtain ⟨j, hj, rfl⟩ := List.mem_iff_getElem.1 hx
        exact HA.out j hj (by omega)
      go_wp2_with fail
      go_ret
      exact ⟨ret_int HE.out.symm, HB.out⟩

end Go.Proofs.YtpboaadjbkaidaaDoor

namespace Go.Proofs.YtpboaadjbkaidaaDoor
set_option maxRecDepth 100000

/-- Whether there is a break at a place that may lie outside. -/
def decB (rs : List Ru) (s : ByteArray) (k : Int) : Bool := decide (0 < k) && (decide (k < s.size) && decideF rs s k.toNat)
theorem suffix_nil (s : ByteArray) : suffixF [] s = true := rfl
theorem long_start (n : Nat) : 0 ≤ longF startF (n + 1) := by
  induction n with
  | zero => decide
  | succ n ih =>
    rw [longF]
    split
    · omega
    · exact ih
theorem prefix_nil (s : ByteArray) : prefixF [] s = true := decide_eq_true (long_start s.size)
theorem always (b : Bool) (s : ByteArray) (k : Nat) : applyF ⟨b, [], []⟩ s k = true := by
  unfold applyF
  rw [suffix_nil, prefix_nil]
  rfl
theorem decide_always (b : Bool) (qs : List Ru) (s : ByteArray) (k : Nat) : decideF (⟨b, [], []⟩ :: qs) s k = b := by
  rw [decide_cons, if_pos (always b s k)]
theorem first_all (a : List Ru) (b : Bool) (qs : List Ru) (s : ByteArray) (k : Nat) : decideF ((a ++ [⟨b, [], []⟩]) ++ qs) s k = if foundF a s k = true then decideF a s k else b := by
  rw [List.append_assoc, decide_append, List.cons_append, decide_always]
theorem first_one (a : List Ru) (b : Bool) (s : ByteArray) (k : Nat) : decideF (a ++ [⟨b, [], []⟩]) s k = if foundF a s k = true then decideF a s k else b := by
  rw [decide_append, decide_always]
theorem first_breaks (a : List Ru) (b : Bool) (qs : List Ru) (s : ByteArray) : breaksF ((a ++ [⟨b, [], []⟩]) ++ qs) s = breaksF (a ++ [⟨b, [], []⟩]) s := by
  unfold breaksF
  have e : (fun k => decide (0 < k) && decideF ((a ++ [⟨b, [], []⟩]) ++ qs) s k) = fun k => decide (0 < k) && decideF (a ++ [⟨b, [], []⟩]) s k := by
    funext k
    rw [first_all, first_one]
  rw [e]

end Go.Proofs.YtpboaadjbkaidaaDoor

namespace Go.Proofs.YtpboaadjbkaidaaDoor
set_option maxRecDepth 100000
open Go.RowKit

section
variable {P : Program} {ops : Array Oper} {w : World} {a : Act} {o : Oper}
theorem ex_slice (t : TypeId) (x : Operand) (lo hi : Option Operand) (vx v : Value) (vlo vhi : Option Value) (ho : o.op = .slice t x lo hi none) (hx : a.eval x = vx) (hl : lo.map a.eval = vlo) (hh : hi.map a.eval = vhi) (hr : (Instr.sliceAt t vx vlo vhi none).run P w = .ok v w) : (execOp a.eval o).run P w = .ok (.value v) w := by
  unfold execOp
  simp only [ho, hx, hl, hh, Option.map_none, Sem.run_bind, hr, Result.andThen_ok, Sem.run_pure]
theorem ex_unOp (op : UnOp) (t : TypeId) (x : Operand) (vx v : Value) (ho : o.op = .unOp op t x) (hx : a.eval x = vx) (hr : (Op.unary op vx).run P w = .ok v w) : (execOp a.eval o).run P w = .ok (.value v) w := by
  unfold execOp
  simp only [ho, hx, Sem.run_bind, hr, Result.andThen_ok, Sem.run_pure]
theorem put_comm (d e : Tmp) (v u : Value) (h : d ≠ e) : (a.put (some e) u).put (some d) v = (a.put (some d) v).put (some e) u := by
  unfold Act.put
  simp only
  rw [Array.setIfInBounds_comm _ _ (fun x => h x.symm)]
/-- Two reading operations may come up: both orders end alike. -/
theorem wpAny_both {md : Region.Mode} {QE : Exit → Act → World → Prop} (i j : Nat) (d e : Tmp) (v u : Value) {oi oj : Oper} {fuel : Nat} {listed L : Array Bool} {rs rs2 : List Oper} (hr : Region.ready md ops listed = [i, j]) (hri : Region.ready md ops (listed.setIfInBounds i true) = [j]) (hrj : Region.ready md ops (listed.setIfInBounds j true) = [i])
    (hi : ops.toList.drop i = oi :: rs) (hj : ops.toList.drop j = oj :: rs2) (hd : oi.dst = some d) (he : oj.dst = some e) (hde : d ≠ e) (hij : i ≠ j)
    (hwi : Region.wanted oi (yielded ops a.tmps) = true) (hwj : Region.wanted oj (yielded ops a.tmps) = true) (hwi2 : Region.wanted oi (yielded ops (a.put (some e) u).tmps) = true) (hwj2 : Region.wanted oj (yielded ops (a.put (some d) v).tmps) = true)
    (hv : (execOp a.eval oi).run P w = .ok (.value v) w) (hu : (execOp a.eval oj).run P w = .ok (.value u) w) (hv2 : (execOp (a.put (some e) u).eval oi).run P w = .ok (.value v) w) (hu2 : (execOp (a.put (some d) v).eval oj).run P w = .ok (.value u) w)
    (hL : (listed.setIfInBounds i true).setIfInBounds j true = L) (h : wpAny P md ops QE fuel L ((a.put (some d) v).put (some e) u) w) : wpAny P md ops QE (fuel + 1 + 1) listed a w := by
  refine wpAny_vals i j (some d) (some e) v u hr hi hj hd he hwi hwj hv hu ?_ ?_
  · refine wpAny_val j (some e) u hri hj he hwj2 hu2 ?_
    rw [hL]
    exact h
  · refine wpAny_val i (some d) v hrj hi hd hwi2 hv2 ?_
    rw [Array.setIfInBounds_comm _ _ (fun x => hij x.symm), hL, put_comm d e v u hde]
    exact h
end

end Go.Proofs.YtpboaadjbkaidaaDoor

namespace Go.Proofs.YtpboaadjbkaidaaDoor
set_option maxRecDepth 100000
open Go.RowKit

theorem decide_from (rs : List Ru) (s : ByteArray) (k : Nat) (n : Nat) (h : n < rs.length) : decideF (rs.drop n) s k = if (suffixF rs[n].bf (s.extract 0 k) && prefixF rs[n].af (s.extract k s.size)) = true then rs[n].br else decideF (rs.drop (n + 1)) s k := by
  rw [List.drop_eq_getElem_cons h]
  rfl
def DecRet (w : World) (b : Bool) (e : Ending) (w' : World) : Prop := e = .returned (.bool b) ∧ Below w.heap.size w w'
/-- The bounds under which a list of rules is asked. -/
def RuSmall (rs : List Ru) : Prop := rs.length ≤ 1000000 ∧ ∀ r ∈ rs, r.bf.length ≤ 1000000 ∧ r.af.length ≤ 1000000


set_option maxRecDepth 100000 in
set_option maxHeartbeats 8000000 in
theorem segDecide_any (rs : List Ru) (v : Value) (s : ByteArray) (at0 : Int) (w : World) (ht : RdRu w v rs) (hsm : RuSmall rs) (hs : s.size ≤ 1000000) (hin : IntIn at0) :
    Calls Tryd.prog 29 #[v, .string s, .int .i64 at0] w fun e w' => e = .returned (.bool (decB rs s at0)) ∧ Below w.heap.size w w' := by
  show Calls _ _ _ _ (DecRet w (decB rs s at0))
  obtain ⟨R, HRR⟩ : ∃ R, Hid (R = DecRet w (decB rs s at0)) := ⟨_, rfl⟩
  rw [← HRR.out]
  obtain ⟨hl, hal⟩ := hsm
  obtain ⟨xs, hx0, hxl, hx⟩ := ht
  have hxa : xs.length ≤ rs.length := Nat.le_of_eq hxl
  have hxb : rs.length ≤ xs.length := Nat.le_of_eq hxl.symm
  clear hxl
  obtain ⟨Av, cv, rfl, hlc, _⟩ := hx0.shape
  by_cases h1 : at0 ≤ 0
  · have e0 : decB rs s at0 = false := by unfold decB; rw [decide_eq_false (by omega)]; rfl
    go_enter Tryd.func29, Tryd.ntmps29
    go_wp2_with fail
    rw [HRR.out, e0]
    exact ⟨rfl, Below.refl _ _⟩
  by_cases h2 : (s.size : Int) ≤ at0
  · have e0 : decB rs s at0 = false := by unfold decB; rw [decide_eq_false (show ¬ at0 < s.size by omega), Bool.false_and, Bool.and_false]
    go_enter Tryd.func29, Tryd.ntmps29
    go_wp2_with fail
    rw [HRR.out, e0]
    exact ⟨rfl, Below.refl _ _⟩
  obtain ⟨a, rfl⟩ : ∃ a : Nat, at0 = (a : Int) := ⟨at0.toNat, by omega⟩
  have has : a ≤ s.size := by omega
  have hai : (a : Int) ≤ (s.size : Int) := by omega
  have ha0 : (0 : Int) ≤ (a : Int) := by omega
  obtain ⟨V, HV⟩ : ∃ V, Hid (V = decideF rs s a) := ⟨_, rfl⟩
  have HRV : Hid (R = DecRet w V) := by
    show _ = _
    rw [HRR.out, HV.out]
    unfold decB
    rw [decide_eq_true (show (0 : Int) < (a : Int) by omega), decide_eq_true (show (a : Int) < (s.size : Int) by omega), Int.toNat_natCast, Bool.true_and, Bool.true_and]
  clear HRR hin
  have HX := Lib.hid hx0
  have HXR := Lib.hid hx
  clear hx0 hx
  have hu := Tryd.underlying30
  have hi : (Tryd.prog.info? 30).map (·.size) = some 3 := by kernel_rfl
  go_enter Tryd.func29, Tryd.ntmps29
  go_wp2_with fail
  obtain ⟨wo, HWO⟩ : ∃ wo, Hid (wo = w) := ⟨w, rfl⟩
  go_loopg [19] xs.length (fun gk kv wr => ∃ k : Nat, kv = .int .i64 k ∧ k ≤ xs.length ∧ Hid (decideF (rs.drop k) s a = V) ∧ Hid (Below w.heap.size w wr) ∧ xs.length - k ≤ gk)
  case atStart => exact ⟨0, rfl, by omega, HV.out.symm, Below.refl _ _, by omega⟩
  case round =>
    clear HWO HV
    obtain ⟨k, rfl, hk, HV, HB, hgk⟩ := hrel
    by_cases hkl : k < xs.length
    · have hki : (k : Int) < (xs.length : Int) := by omega
      have hk0 : (0 : Int) ≤ (k : Int) := by omega
      obtain ⟨bp, o, rfl, hbl, hcell⟩ := HX.out.cells (by omega)
      have hxk : xs[k]? = some xs[k] := List.getElem?_eq_getElem hkl
      have hrk : rs[k]? = some (rs[k]'(by omega)) := List.getElem?_eq_getElem (by omega)
      have hrg : wr.rangeAt bp (o + k * 3) (ruC xs[k]) := fun j v hj => by
        rw [Nat.add_assoc]
        exact (HB.out.cell (p := ⟨bp, o + (k * 3 + j), none⟩) hbl).trans (hcell k _ j v hxk hj)
      obtain ⟨hbr, hbf, haf⟩ := HXR.out k _ _ hxk hrk
      have hrl := hal _ (List.getElem_mem (show k < rs.length by omega))
      have HV2 := Lib.hid ((decide_from rs s a k (by omega)).symm.trans HV.out)
      clear HV
      have HU1 := Lib.hid (hbf.below HB.out (Nat.le_refl _))
      have HT1 := Lib.hid (haf.below HB.out (Nat.le_refl _))
      clear hcell hxk hrk hbf haf
      generalize xs[k] = y at hrg hbr HU1 HT1
      generalize rs[k]'(by omega) = r at hbr HU1 HT1 hrl HV2
      obtain ⟨yb, ⟨uA, un, uc⟩, ⟨tA, tn, tc⟩⟩ := y
      obtain rfl : yb = r.br := hbr
      change Hid (RdE atC 34 wr (.slice uA un uc) r.bf) at HU1
      change Hid (RdE atC 34 wr (.slice tA tn tc) r.af) at HT1
      have hz := HB.out.size
      have hq1 : bp < wr.heap.size := Nat.lt_of_lt_of_le hbl hz

      have HQ : Hid (((wr.alloc (.cells #[.bool false, .slice none 0 0, .slice none 0 0] 30)).setRow wr.heap.size (ruC ⟨r.br, ⟨uA, un, uc⟩, ⟨tA, tn, tc⟩⟩).toArray).heap[wr.heap.size]? = some (.cells (ruC ⟨r.br, ⟨uA, un, uc⟩, ⟨tA, tn, tc⟩⟩).toArray 30)) := setRow_heap _ _ _ _ _ _ (heap_alloc_new wr _)
      have HB4 : Hid (Below w.heap.size w ((wr.alloc (.cells #[.bool false, .slice none 0 0, .slice none 0 0] 30)).setRow wr.heap.size (ruC ⟨r.br, ⟨uA, un, uc⟩, ⟨tA, tn, tc⟩⟩).toArray)) := below_setRow (HB.out.alloc hz _) hz _
      have HN4 : Hid (Below wr.heap.size wr ((wr.alloc (.cells #[.bool false, .slice none 0 0, .slice none 0 0] 30)).setRow wr.heap.size (ruC ⟨r.br, ⟨uA, un, uc⟩, ⟨tA, tn, tc⟩⟩).toArray)) := below_setRow ((Below.refl _ wr).alloc (Nat.le_refl _) _) (Nat.le_refl _) _
      go_upto_region 6 with (first
        | (refine wpList_load_mid rfl 30 (.tmp 21) rfl bp (o + k * 3) rfl (ruC ⟨r.br, ⟨uA, un, uc⟩, ⟨tA, tn, tc⟩⟩) _ hrg hu rfl (by rw [hi]; rfl) ?_)
        | (refine wpList_store_row rfl 30 (.tmp 8) (.tmp 22) rfl (wr.heap.size) (ruC ⟨r.br, ⟨uA, un, uc⟩, ⟨tA, tn, tc⟩⟩).toArray rfl rfl 30 _ (heap_alloc_new wr _) (by rw [hi]; rfl) rfl (ruC_oneA _) ?_))
      have HU4 := Lib.hid (HU1.out.below HN4.out (Nat.le_refl _))
      have HT4 := Lib.hid (HT1.out.below HN4.out (Nat.le_refl _))
      have hq4 : wr.heap.size < ((wr.alloc (.cells #[.bool false, .slice none 0 0, .slice none 0 0] 30)).setRow wr.heap.size (ruC ⟨r.br, ⟨uA, un, uc⟩, ⟨tA, tn, tc⟩⟩).toArray).heap.size := (Array.getElem?_eq_some_iff.1 HQ.out).1
      clear HB HN4 HU1 HT1 hrg hq1
      generalize wr.heap.size = q at HQ HB4 HU4 HT4 hq4 hz ⊢
      generalize (wr.alloc (.cells #[.bool false, .slice none 0 0, .slice none 0 0] 30)).setRow q (ruC ⟨r.br, ⟨uA, un, uc⟩, ⟨tA, tn, tc⟩⟩).toArray = w4 at HQ HB4 HU4 HT4 hq4 ⊢
      have z0 : w4.cell? ⟨q, 0, none⟩ = some (.bool r.br) := by rw [cell_of_row _ _ _ _ _ _ HQ.out]; rfl
      have z1 : w4.cell? ⟨q, 1, none⟩ = some (.slice uA un uc) := by rw [cell_of_row _ _ _ _ _ _ HQ.out]; rfl
      have z2 : w4.cell? ⟨q, 2, none⟩ = some (.slice tA tn tc) := by rw [cell_of_row _ _ _ _ _ _ HQ.out]; rfl
      have HS1 := Lib.hid (fun (w' : World) (h : Below w4.heap.size w4 w') => suffix_any r.bf (s.extract 0 a) (.slice uA un uc) w' (HU4.out.below h (Nat.le_refl _)) (by rw [ByteArray.size_extract]; omega) (by omega))
      have HP1 := Lib.hid (fun (w' : World) (h : Below w4.heap.size w4 w') => prefix_any r.af (s.extract a s.size) (.slice tA tn tc) w' (HT4.out.below h (Nat.le_refl _)) (by rw [ByteArray.size_extract]; omega) (by omega))
      obtain ⟨m1, HM1⟩ : ∃ m1, Hid (m1 = suffixF r.bf (s.extract 0 a)) := ⟨_, rfl⟩
      obtain ⟨m2, HM2⟩ : ∃ m2, Hid (m2 = prefixF r.af (s.extract a s.size)) := ⟨_, rfl⟩
      rw [← HM1.out] at HS1 HV2
      rw [← HM2.out] at HP1 HV2
      clear HM1 HM2 HU4 HT4
      have HSL1 : Hid (∀ w', (Instr.sliceAt 9 (.string s) none (some (.int .i64 (a : Int))) none).run Tryd.prog w' = .ok (.string (s.extract 0 a)) w') := fun w' => by go_simp
      have HSL2 : Hid (∀ w', (Instr.sliceAt 9 (.string s) (some (.int .i64 (a : Int))) none none).run Tryd.prog w' = .ok (.string (s.extract a s.size)) w') := fun w' => by go_simp
      have hz4 := HB4.out.size
      cases m1 with
      | false =>
        have HV3 : Hid (decideF (rs.drop (k + 1)) s a = V) := HV2.out
        clear HV2
        go_wp2_with fail
        refine wp_region_at 14 #[false, false, false, false, false, false, false, false, false, false, false, false, false, false] rfl rfl (by kernel_rfl) ?_
        refine wpAny_at (i := 0) (v := .pointer (some ⟨q, 1, none⟩)) (some 23) rfl rfl (by kernel_rfl) (by kernel_rfl) (by kernel_rfl) (fun _ _ _ h => h) (by kernel_rfl) (fun _ => ex_fieldAddr 30 _ 1 (.pointer (some ⟨q, 0, none⟩)) _ rfl (by kernel_rfl) (by go_simp)) ?_
        simp only [Act.put, List.setIfInBounds_toArray, List.set_cons_zero, List.set_cons_succ]
        refine wpAny_at (i := 2) (v := .string s) (some 25) rfl rfl (by kernel_rfl) (by kernel_rfl) (by kernel_rfl) (fun _ _ _ h => h) (by kernel_rfl) (fun _ => ex_move _ _ rfl (by kernel_rfl)) ?_
        simp only [Act.put, List.setIfInBounds_toArray, List.set_cons_zero, List.set_cons_succ]
        refine wpAny_at (i := 3) (v := .int .i64 (a : Int)) (some 26) rfl rfl (by kernel_rfl) (by kernel_rfl) (by kernel_rfl) (fun _ _ _ h => h) (by kernel_rfl) (fun _ => ex_move _ _ rfl (by kernel_rfl)) ?_
        simp only [Act.put, List.setIfInBounds_toArray, List.set_cons_zero, List.set_cons_succ]
        refine wpAny_at (i := 4) (v := .string (s.extract 0 a)) (some 27) rfl rfl (by kernel_rfl) (by kernel_rfl) (by kernel_rfl) (fun _ _ _ h => h) (by kernel_rfl) (fun _ => ex_slice 9 _ _ _ (.string s) _ none (some (.int .i64 (a : Int))) rfl (by kernel_rfl) (by kernel_rfl) (by kernel_rfl) (HSL1.out _)) ?_
        simp only [Act.put, List.setIfInBounds_toArray, List.set_cons_zero, List.set_cons_succ]
        refine wpAny_val 1 (some 24) (.slice uA un uc) (by kernel_rfl) rfl rfl (by kernel_rfl) (ex_load 28 _ (.pointer (some ⟨q, 1, none⟩)) _ rfl (by kernel_rfl) (ld_slice (w := w4.drew) z1)) ?_
        simp only [Act.put, List.setIfInBounds_toArray, List.set_cons_zero, List.set_cons_succ]
        refine wpAny_call 5 (some 28) (by kernel_rfl) rfl rfl (by kernel_rfl) 65 (#[.slice uA un uc, .string (s.extract 0 a)]) (by go_simp) (HS1.out _ (below_drewN (Below.refl _ w4) 1)) ?_
        rintro e w5 ⟨rfl, hb5⟩
        refine ⟨_, rfl, ?_⟩
        have hx5 := (below_drewN (Below.refl w4.heap.size w4) 1).trans hb5
        simp only [Act.put, List.setIfInBounds_toArray, List.set_cons_zero, List.set_cons_succ]
        refine wpAny_at (i := 6) (v := .bool false) (some 29) rfl rfl (by kernel_rfl) (by kernel_rfl) (by kernel_rfl) (fun _ _ _ h => h) (by kernel_rfl) (fun _ => ex_move _ _ rfl (by kernel_rfl)) ?_
        simp only [Act.put, List.setIfInBounds_toArray, List.set_cons_zero, List.set_cons_succ]
        refine wpAny_skip 7 (some 30) rfl rfl (by kernel_rfl) (by kernel_rfl) (by kernel_rfl) (fun _ _ _ h => h) (by kernel_rfl) ?_
        simp only [Act.put, List.setIfInBounds_toArray, List.set_cons_zero, List.set_cons_succ]
        refine wpAny_skip 8 (some 31) rfl rfl (by kernel_rfl) (by kernel_rfl) (by kernel_rfl) (fun _ _ _ h => h) (by kernel_rfl) ?_
        simp only [Act.put, List.setIfInBounds_toArray, List.set_cons_zero, List.set_cons_succ]
        refine wpAny_skip 9 (some 32) rfl rfl (by kernel_rfl) (by kernel_rfl) (by kernel_rfl) (fun _ _ _ h => h) (by kernel_rfl) ?_
        simp only [Act.put, List.setIfInBounds_toArray, List.set_cons_zero, List.set_cons_succ]
        refine wpAny_skip 10 (some 33) rfl rfl (by kernel_rfl) (by kernel_rfl) (by kernel_rfl) (fun _ _ _ h => h) (by kernel_rfl) ?_
        simp only [Act.put, List.setIfInBounds_toArray, List.set_cons_zero, List.set_cons_succ]
        refine wpAny_skip 11 (some 34) rfl rfl (by kernel_rfl) (by kernel_rfl) (by kernel_rfl) (fun _ _ _ h => h) (by kernel_rfl) ?_
        simp only [Act.put, List.setIfInBounds_toArray, List.set_cons_zero, List.set_cons_succ]
        refine wpAny_skip 12 (some 35) rfl rfl (by kernel_rfl) (by kernel_rfl) (by kernel_rfl) (fun _ _ _ h => h) (by kernel_rfl) ?_
        simp only [Act.put, List.setIfInBounds_toArray, List.set_cons_zero, List.set_cons_succ]
        refine wpAny_at (i := 13) (v := .bool false) (some 36) rfl rfl (by kernel_rfl) (by kernel_rfl) (by kernel_rfl) (fun _ _ _ h => h) (by kernel_rfl) (fun _ => ex_pick _ _ _ false (undef) (.bool false) rfl (by kernel_rfl) (by kernel_rfl) (by kernel_rfl)) ?_
        simp only [Act.put, List.setIfInBounds_toArray, List.set_cons_zero, List.set_cons_succ]
        refine wpAny_done (by kernel_rfl) ?_ _
        have HB5 := Lib.hid (HB4.out.trans (hx5.mono hz4))
        clear HB4 HS1 HP1 hb5 hx5 HSL1 HSL2
        go_wp2_with fail
        go_roundg (xs.length - (k + 1))
        case measure => omega
        case rel => exact ⟨k + 1, by go_num, by omega, HV3.out, HB5.out, Nat.le_refl _⟩
      | true =>
        cases m2 with
        | false =>
          have HV3 : Hid (decideF (rs.drop (k + 1)) s a = V) := HV2.out
          clear HV2
          go_wp2_with fail
          refine wp_region_at 14 #[false, false, false, false, false, false, false, false, false, false, false, false, false, false] rfl rfl (by kernel_rfl) ?_
          refine wpAny_at (i := 0) (v := .pointer (some ⟨q, 1, none⟩)) (some 23) rfl rfl (by kernel_rfl) (by kernel_rfl) (by kernel_rfl) (fun _ _ _ h => h) (by kernel_rfl) (fun _ => ex_fieldAddr 30 _ 1 (.pointer (some ⟨q, 0, none⟩)) _ rfl (by kernel_rfl) (by go_simp)) ?_
          simp only [Act.put, List.setIfInBounds_toArray, List.set_cons_zero, List.set_cons_succ]
          refine wpAny_at (i := 2) (v := .string s) (some 25) rfl rfl (by kernel_rfl) (by kernel_rfl) (by kernel_rfl) (fun _ _ _ h => h) (by kernel_rfl) (fun _ => ex_move _ _ rfl (by kernel_rfl)) ?_
          simp only [Act.put, List.setIfInBounds_toArray, List.set_cons_zero, List.set_cons_succ]
          refine wpAny_at (i := 3) (v := .int .i64 (a : Int)) (some 26) rfl rfl (by kernel_rfl) (by kernel_rfl) (by kernel_rfl) (fun _ _ _ h => h) (by kernel_rfl) (fun _ => ex_move _ _ rfl (by kernel_rfl)) ?_
          simp only [Act.put, List.setIfInBounds_toArray, List.set_cons_zero, List.set_cons_succ]
          refine wpAny_at (i := 4) (v := .string (s.extract 0 a)) (some 27) rfl rfl (by kernel_rfl) (by kernel_rfl) (by kernel_rfl) (fun _ _ _ h => h) (by kernel_rfl) (fun _ => ex_slice 9 _ _ _ (.string s) _ none (some (.int .i64 (a : Int))) rfl (by kernel_rfl) (by kernel_rfl) (by kernel_rfl) (HSL1.out _)) ?_
          simp only [Act.put, List.setIfInBounds_toArray, List.set_cons_zero, List.set_cons_succ]
          refine wpAny_val 1 (some 24) (.slice uA un uc) (by kernel_rfl) rfl rfl (by kernel_rfl) (ex_load 28 _ (.pointer (some ⟨q, 1, none⟩)) _ rfl (by kernel_rfl) (ld_slice (w := w4.drew) z1)) ?_
          simp only [Act.put, List.setIfInBounds_toArray, List.set_cons_zero, List.set_cons_succ]
          refine wpAny_call 5 (some 28) (by kernel_rfl) rfl rfl (by kernel_rfl) 65 (#[.slice uA un uc, .string (s.extract 0 a)]) (by go_simp) (HS1.out _ (below_drewN (Below.refl _ w4) 1)) ?_
          rintro e w5 ⟨rfl, hb5⟩
          refine ⟨_, rfl, ?_⟩
          have hx5 := (below_drewN (Below.refl w4.heap.size w4) 1).trans hb5
          simp only [Act.put, List.setIfInBounds_toArray, List.set_cons_zero, List.set_cons_succ]
          refine wpAny_at (i := 6) (v := .bool true) (some 29) rfl rfl (by kernel_rfl) (by kernel_rfl) (by kernel_rfl) (fun _ _ _ h => h) (by kernel_rfl) (fun _ => ex_move _ _ rfl (by kernel_rfl)) ?_
          simp only [Act.put, List.setIfInBounds_toArray, List.set_cons_zero, List.set_cons_succ]
          refine wpAny_at (i := 7) (v := .pointer (some ⟨q, 2, none⟩)) (some 30) rfl rfl (by kernel_rfl) (by kernel_rfl) (by kernel_rfl) (fun _ _ _ h => h) (by kernel_rfl) (fun _ => ex_fieldAddr 30 _ 2 (.pointer (some ⟨q, 0, none⟩)) _ rfl (by kernel_rfl) (by go_simp)) ?_
          simp only [Act.put, List.setIfInBounds_toArray, List.set_cons_zero, List.set_cons_succ]
          refine wpAny_at (i := 9) (v := .string s) (some 32) rfl rfl (by kernel_rfl) (by kernel_rfl) (by kernel_rfl) (fun _ _ _ h => h) (by kernel_rfl) (fun _ => ex_move _ _ rfl (by kernel_rfl)) ?_
          simp only [Act.put, List.setIfInBounds_toArray, List.set_cons_zero, List.set_cons_succ]
          refine wpAny_at (i := 10) (v := .int .i64 (a : Int)) (some 33) rfl rfl (by kernel_rfl) (by kernel_rfl) (by kernel_rfl) (fun _ _ _ h => h) (by kernel_rfl) (fun _ => ex_move _ _ rfl (by kernel_rfl)) ?_
          simp only [Act.put, List.setIfInBounds_toArray, List.set_cons_zero, List.set_cons_succ]
          refine wpAny_at (i := 11) (v := .string (s.extract a s.size)) (some 34) rfl rfl (by kernel_rfl) (by kernel_rfl) (by kernel_rfl) (fun _ _ _ h => h) (by kernel_rfl) (fun _ => ex_slice 9 _ _ _ (.string s) _ (some (.int .i64 (a : Int))) none rfl (by kernel_rfl) (by kernel_rfl) (by kernel_rfl) (HSL2.out _)) ?_
          simp only [Act.put, List.setIfInBounds_toArray, List.set_cons_zero, List.set_cons_succ]
          refine wpAny_val 8 (some 31) (.slice tA tn tc) (by kernel_rfl) rfl rfl (by kernel_rfl) (ex_load 28 _ (.pointer (some ⟨q, 2, none⟩)) _ rfl (by kernel_rfl) (ld_slice ((hx5.cell (p := ⟨q, 2, none⟩) hq4).trans z2))) ?_
          simp only [Act.put, List.setIfInBounds_toArray, List.set_cons_zero, List.set_cons_succ]
          refine wpAny_call 12 (some 35) (by kernel_rfl) rfl rfl (by kernel_rfl) 66 (#[.slice tA tn tc, .string (s.extract a s.size)]) (by go_simp) (HP1.out _ hx5) ?_
          rintro e w6 ⟨rfl, hb6⟩
          refine ⟨_, rfl, ?_⟩
          simp only [Act.put, List.setIfInBounds_toArray, List.set_cons_zero, List.set_cons_succ]
          refine wpAny_at (i := 13) (v := .bool false) (some 36) rfl rfl (by kernel_rfl) (by kernel_rfl) (by kernel_rfl) (fun _ _ _ h => h) (by kernel_rfl) (fun _ => ex_pick _ _ _ true (.bool false) (.bool false) rfl (by kernel_rfl) (by kernel_rfl) (by kernel_rfl)) ?_
          simp only [Act.put, List.setIfInBounds_toArray, List.set_cons_zero, List.set_cons_succ]
          refine wpAny_done (by kernel_rfl) ?_ _
          have HB5 := Lib.hid (HB4.out.trans ((hx5.trans (hb6.mono hx5.size)).mono hz4))
          clear HB4 HS1 HP1 hb5 hb6 hx5 HSL1 HSL2
          go_wp2_with fail
          go_roundg (xs.length - (k + 1))
          case measure => omega
          case rel => exact ⟨k + 1, by go_num, by omega, HV3.out, HB5.out, Nat.le_refl _⟩
        | true =>
          have HV3 : Hid (r.br = V) := HV2.out
          clear HV2
          go_wp2_with fail
          refine wp_region_at 14 #[false, false, false, false, false, false, false, false, false, false, false, false, false, false] rfl rfl (by kernel_rfl) ?_
          refine wpAny_at (i := 0) (v := .pointer (some ⟨q, 1, none⟩)) (some 23) rfl rfl (by kernel_rfl) (by kernel_rfl) (by kernel_rfl) (fun _ _ _ h => h) (by kernel_rfl) (fun _ => ex_fieldAddr 30 _ 1 (.pointer (some ⟨q, 0, none⟩)) _ rfl (by kernel_rfl) (by go_simp)) ?_
          simp only [Act.put, List.setIfInBounds_toArray, List.set_cons_zero, List.set_cons_succ]
          refine wpAny_at (i := 2) (v := .string s) (some 25) rfl rfl (by kernel_rfl) (by kernel_rfl) (by kernel_rfl) (fun _ _ _ h => h) (by kernel_rfl) (fun _ => ex_move _ _ rfl (by kernel_rfl)) ?_
          simp only [Act.put, List.setIfInBounds_toArray, List.set_cons_zero, List.set_cons_succ]
          refine wpAny_at (i := 3) (v := .int .i64 (a : Int)) (some 26) rfl rfl (by kernel_rfl) (by kernel_rfl) (by kernel_rfl) (fun _ _ _ h => h) (by kernel_rfl) (fun _ => ex_move _ _ rfl (by kernel_rfl)) ?_
          simp only [Act.put, List.setIfInBounds_toArray, List.set_cons_zero, List.set_cons_succ]
          refine wpAny_at (i := 4) (v := .string (s.extract 0 a)) (some 27) rfl rfl (by kernel_rfl) (by kernel_rfl) (by kernel_rfl) (fun _ _ _ h => h) (by kernel_rfl) (fun _ => ex_slice 9 _ _ _ (.string s) _ none (some (.int .i64 (a : Int))) rfl (by kernel_rfl) (by kernel_rfl) (by kernel_rfl) (HSL1.out _)) ?_
          simp only [Act.put, List.setIfInBounds_toArray, List.set_cons_zero, List.set_cons_succ]
          refine wpAny_val 1 (some 24) (.slice uA un uc) (by kernel_rfl) rfl rfl (by kernel_rfl) (ex_load 28 _ (.pointer (some ⟨q, 1, none⟩)) _ rfl (by kernel_rfl) (ld_slice (w := w4.drew) z1)) ?_
          simp only [Act.put, List.setIfInBounds_toArray, List.set_cons_zero, List.set_cons_succ]
          refine wpAny_call 5 (some 28) (by kernel_rfl) rfl rfl (by kernel_rfl) 65 (#[.slice uA un uc, .string (s.extract 0 a)]) (by go_simp) (HS1.out _ (below_drewN (Below.refl _ w4) 1)) ?_
          rintro e w5 ⟨rfl, hb5⟩
          refine ⟨_, rfl, ?_⟩
          have hx5 := (below_drewN (Below.refl w4.heap.size w4) 1).trans hb5
          simp only [Act.put, List.setIfInBounds_toArray, List.set_cons_zero, List.set_cons_succ]
          refine wpAny_at (i := 6) (v := .bool true) (some 29) rfl rfl (by kernel_rfl) (by kernel_rfl) (by kernel_rfl) (fun _ _ _ h => h) (by kernel_rfl) (fun _ => ex_move _ _ rfl (by kernel_rfl)) ?_
          simp only [Act.put, List.setIfInBounds_toArray, List.set_cons_zero, List.set_cons_succ]
          refine wpAny_at (i := 7) (v := .pointer (some ⟨q, 2, none⟩)) (some 30) rfl rfl (by kernel_rfl) (by kernel_rfl) (by kernel_rfl) (fun _ _ _ h => h) (by kernel_rfl) (fun _ => ex_fieldAddr 30 _ 2 (.pointer (some ⟨q, 0, none⟩)) _ rfl (by kernel_rfl) (by go_simp)) ?_
          simp only [Act.put, List.setIfInBounds_toArray, List.set_cons_zero, List.set_cons_succ]
          refine wpAny_at (i := 9) (v := .string s) (some 32) rfl rfl (by kernel_rfl) (by kernel_rfl) (by kernel_rfl) (fun _ _ _ h => h) (by kernel_rfl) (fun _ => ex_move _ _ rfl (by kernel_rfl)) ?_
          simp only [Act.put, List.setIfInBounds_toArray, List.set_cons_zero, List.set_cons_succ]
          refine wpAny_at (i := 10) (v := .int .i64 (a : Int)) (some 33) rfl rfl (by kernel_rfl) (by kernel_rfl) (by kernel_rfl) (fun _ _ _ h => h) (by kernel_rfl) (fun _ => ex_move _ _ rfl (by kernel_rfl)) ?_
          simp only [Act.put, List.setIfInBounds_toArray, List.set_cons_zero, List.set_cons_succ]
          refine wpAny_at (i := 11) (v := .string (s.extract a s.size)) (some 34) rfl rfl (by kernel_rfl) (by kernel_rfl) (by kernel_rfl) (fun _ _ _ h => h) (by kernel_rfl) (fun _ => ex_slice 9 _ _ _ (.string s) _ (some (.int .i64 (a : Int))) none rfl (by kernel_rfl) (by kernel_rfl) (by kernel_rfl) (HSL2.out _)) ?_
          simp only [Act.put, List.setIfInBounds_toArray, List.set_cons_zero, List.set_cons_succ]
          refine wpAny_val 8 (some 31) (.slice tA tn tc) (by kernel_rfl) rfl rfl (by kernel_rfl) (ex_load 28 _ (.pointer (some ⟨q, 2, none⟩)) _ rfl (by kernel_rfl) (ld_slice ((hx5.cell (p := ⟨q, 2, none⟩) hq4).trans z2))) ?_
          simp only [Act.put, List.setIfInBounds_toArray, List.set_cons_zero, List.set_cons_succ]
          refine wpAny_call 12 (some 35) (by kernel_rfl) rfl rfl (by kernel_rfl) 66 (#[.slice tA tn tc, .string (s.extract a s.size)]) (by go_simp) (HP1.out _ hx5) ?_
          rintro e w6 ⟨rfl, hb6⟩
          refine ⟨_, rfl, ?_⟩
          simp only [Act.put, List.setIfInBounds_toArray, List.set_cons_zero, List.set_cons_succ]
          refine wpAny_at (i := 13) (v := .bool true) (some 36) rfl rfl (by kernel_rfl) (by kernel_rfl) (by kernel_rfl) (fun _ _ _ h => h) (by kernel_rfl) (fun _ => ex_pick _ _ _ true (.bool true) (.bool false) rfl (by kernel_rfl) (by kernel_rfl) (by kernel_rfl)) ?_
          simp only [Act.put, List.setIfInBounds_toArray, List.set_cons_zero, List.set_cons_succ]
          refine wpAny_done (by kernel_rfl) ?_ _
          have HB5 := Lib.hid (HB4.out.trans ((hx5.trans (hb6.mono hx5.size)).mono hz4))
          have y0 := ((hx5.trans (hb6.mono hx5.size)).cell (p := ⟨q, 0, none⟩) hq4).trans z0
          clear HB4 HS1 HP1 hb5 hb6 hx5 HSL1 HSL2
          go_wp2_with fail
          rw [HRV.out, ← HV3.out]
          exact ⟨rfl, HB5.out⟩
    · obtain rfl : k = xs.length := by omega
      have hki : ¬ (xs.length : Int) < (xs.length : Int) := by omega
      have e : V = false := by
        rw [← HV.out, List.drop_eq_nil_of_le (by omega)]
        rfl
      go_wp2_with fail
      rw [HRV.out, e]
      exact ⟨rfl, HB.out⟩

set_option maxRecDepth 100000 in
set_option maxHeartbeats 8000000 in
theorem rDecide_any (rs : List Ru) (v : Value) (s : ByteArray) (at0 : Int) (w : World) (ht : RdRu w v rs) (hsm : RuSmall rs) (hs : s.size ≤ 1000000) (hin : IntIn at0) :
    Calls Tryd.prog 30 #[v, .string s, .int .i64 at0] w fun e w' => e = .returned (.bool (decB rs s at0)) ∧ Below w.heap.size w w' := by
  show Calls _ _ _ _ (DecRet w (decB rs s at0))
  obtain ⟨R, HRR⟩ : ∃ R, Hid (R = DecRet w (decB rs s at0)) := ⟨_, rfl⟩
  rw [← HRR.out]
  obtain ⟨hl, hal⟩ := hsm
  obtain ⟨xs, hx0, hxl, hx⟩ := ht
  have hxa : xs.length ≤ rs.length := Nat.le_of_eq hxl
  have hxb : rs.length ≤ xs.length := Nat.le_of_eq hxl.symm
  clear hxl
  obtain ⟨Av, cv, rfl, hlc, _⟩ := hx0.shape
  by_cases h1 : at0 ≤ 0
  · have e0 : decB rs s at0 = false := by unfold decB; rw [decide_eq_false (by omega)]; rfl
    go_enter Tryd.func30, Tryd.ntmps30
    go_wp2_with fail
    rw [HRR.out, e0]
    exact ⟨rfl, Below.refl _ _⟩
  by_cases h2 : (s.size : Int) ≤ at0
  · have e0 : decB rs s at0 = false := by unfold decB; rw [decide_eq_false (show ¬ at0 < s.size by omega), Bool.false_and, Bool.and_false]
    go_enter Tryd.func30, Tryd.ntmps30
    go_wp2_with fail
    rw [HRR.out, e0]
    exact ⟨rfl, Below.refl _ _⟩
  obtain ⟨a, rfl⟩ : ∃ a : Nat, at0 = (a : Int) := ⟨at0.toNat, by omega⟩
  have has : a ≤ s.size := by omega
  have hai : (a : Int) ≤ (s.size : Int) := by omega
  have ha0 : (0 : Int) ≤ (a : Int) := by omega
  obtain ⟨V, HV⟩ : ∃ V, Hid (V = decideF rs s a) := ⟨_, rfl⟩
  have HRV : Hid (R = DecRet w V) := by
    show _ = _
    rw [HRR.out, HV.out]
    unfold decB
    rw [decide_eq_true (show (0 : Int) < (a : Int) by omega), decide_eq_true (show (a : Int) < (s.size : Int) by omega), Int.toNat_natCast, Bool.true_and, Bool.true_and]
  clear HRR hin
  have HX := Lib.hid hx0
  have HXR := Lib.hid hx
  clear hx0 hx
  have hu := Tryd.underlying30
  have hi : (Tryd.prog.info? 30).map (·.size) = some 3 := by kernel_rfl
  go_enter Tryd.func30, Tryd.ntmps30
  go_wp2_with fail
  obtain ⟨wo, HWO⟩ : ∃ wo, Hid (wo = w) := ⟨w, rfl⟩
  go_loopg [18] xs.length (fun gk kv wr => ∃ k : Nat, kv = .int .i64 k ∧ k ≤ xs.length ∧ Hid (decideF (rs.drop k) s a = V) ∧ Hid (Below w.heap.size w wr) ∧ xs.length - k ≤ gk)
  case atStart => exact ⟨0, rfl, by omega, HV.out.symm, Below.refl _ _, by omega⟩
  case round =>
    clear HWO HV
    obtain ⟨k, rfl, hk, HV, HB, hgk⟩ := hrel
    by_cases hkl : k < xs.length
    · have hki : (k : Int) < (xs.length : Int) := by omega
      have hk0 : (0 : Int) ≤ (k : Int) := by omega
      obtain ⟨bp, o, rfl, hbl, hcell⟩ := HX.out.cells (by omega)
      have hxk : xs[k]? = some xs[k] := List.getElem?_eq_getElem hkl
      have hrk : rs[k]? = some (rs[k]'(by omega)) := List.getElem?_eq_getElem (by omega)
      have hrg : wr.rangeAt bp (o + k * 3) (ruC xs[k]) := fun j v hj => by
        rw [Nat.add_assoc]
        exact (HB.out.cell (p := ⟨bp, o + (k * 3 + j), none⟩) hbl).trans (hcell k _ j v hxk hj)
      obtain ⟨hbr, hbf, haf⟩ := HXR.out k _ _ hxk hrk
      have hrl := hal _ (List.getElem_mem (show k < rs.length by omega))
      have HV2 := Lib.hid ((decide_from rs s a k (by omega)).symm.trans HV.out)
      clear HV
      have HU1 := Lib.hid (hbf.below HB.out (Nat.le_refl _))
      have HT1 := Lib.hid (haf.below HB.out (Nat.le_refl _))
      clear hcell hxk hrk hbf haf
      generalize xs[k] = y at hrg hbr HU1 HT1
      generalize rs[k]'(by omega) = r at hbr HU1 HT1 hrl HV2
      obtain ⟨yb, ⟨uA, un, uc⟩, ⟨tA, tn, tc⟩⟩ := y
      obtain rfl : yb = r.br := hbr
      change Hid (RdE atC 34 wr (.slice uA un uc) r.bf) at HU1
      change Hid (RdE atC 34 wr (.slice tA tn tc) r.af) at HT1
      have hz := HB.out.size
      have hq1 : bp < wr.heap.size := Nat.lt_of_lt_of_le hbl hz

      have z0 : wr.cell? ⟨bp, o + k * 3, none⟩ = some (.bool r.br) := hrg 0 _ rfl
      have z1 : wr.cell? ⟨bp, o + k * 3 + 1, none⟩ = some (.slice uA un uc) := hrg 1 _ rfl
      have z2 : wr.cell? ⟨bp, o + k * 3 + 2, none⟩ = some (.slice tA tn tc) := hrg 2 _ rfl
      have HB4 := HB
      have HU4 := HU1
      have HT4 := HT1
      clear HB HU1 HT1 hrg
      obtain ⟨w4, rfl⟩ : ∃ w4 : World, w4 = wr := ⟨_, rfl⟩
      have hq4 := hq1
      have HS1 := Lib.hid (fun (w' : World) (h : Below w4.heap.size w4 w') => rsuffix_any r.bf (s.extract 0 a) (.slice uA un uc) w' (HU4.out.below h (Nat.le_refl _)) (by rw [ByteArray.size_extract]; omega) (by omega))
      have HP1 := Lib.hid (fun (w' : World) (h : Below w4.heap.size w4 w') => rprefix_any r.af (s.extract a s.size) (.slice tA tn tc) w' (HT4.out.below h (Nat.le_refl _)) (by rw [ByteArray.size_extract]; omega) (by omega))
      obtain ⟨m1, HM1⟩ : ∃ m1, Hid (m1 = suffixF r.bf (s.extract 0 a)) := ⟨_, rfl⟩
      obtain ⟨m2, HM2⟩ : ∃ m2, Hid (m2 = prefixF r.af (s.extract a s.size)) := ⟨_, rfl⟩
      rw [← HM1.out] at HS1 HV2
      rw [← HM2.out] at HP1 HV2
      clear HM1 HM2 HU4 HT4
      have HSL1 : Hid (∀ w', (Instr.sliceAt 9 (.string s) none (some (.int .i64 (a : Int))) none).run Tryd.prog w' = .ok (.string (s.extract 0 a)) w') := fun w' => by go_simp
      have HSL2 : Hid (∀ w', (Instr.sliceAt 9 (.string s) (some (.int .i64 (a : Int))) none none).run Tryd.prog w' = .ok (.string (s.extract a s.size)) w') := fun w' => by go_simp
      have hz4 := HB4.out.size
      cases m1 with
      | false =>
        have HV3 : Hid (decideF (rs.drop (k + 1)) s a = V) := HV2.out
        clear HV2
        go_wp2_with fail
        refine wp_region_at 20 #[false, false, false, false, false, false, false, false, false, false, false, false, false, false, false, false, false, false, false, false] rfl rfl (by kernel_rfl) ?_
        refine wpAny_at (i := 0) (v := .slice (some ⟨bp, o, none⟩) xs.length cv) (some 21) rfl rfl (by kernel_rfl) (by kernel_rfl) (by kernel_rfl) (fun _ _ _ h => h) (by kernel_rfl) (fun _ => ex_move _ _ rfl (by kernel_rfl)) ?_
        simp only [Act.put, List.setIfInBounds_toArray, List.set_cons_zero, List.set_cons_succ]
        refine wpAny_at (i := 1) (v := .int .i64 (k : Int)) (some 22) rfl rfl (by kernel_rfl) (by kernel_rfl) (by kernel_rfl) (fun _ _ _ h => h) (by kernel_rfl) (fun _ => ex_move _ _ rfl (by kernel_rfl)) ?_
        simp only [Act.put, List.setIfInBounds_toArray, List.set_cons_zero, List.set_cons_succ]
        refine wpAny_at (i := 2) (v := .pointer (some ⟨bp, o + k * 3, none⟩)) (some 23) rfl rfl (by kernel_rfl) (by kernel_rfl) (by kernel_rfl) (fun _ _ _ h => h) (by kernel_rfl) (fun _ => ex_indexAddr 31 _ _ (.slice (some ⟨bp, o, none⟩) xs.length cv) (.int .i64 (k : Int)) _ rfl (by kernel_rfl) (by kernel_rfl) (by go_simp)) ?_
        simp only [Act.put, List.setIfInBounds_toArray, List.set_cons_zero, List.set_cons_succ]
        refine wpAny_at (i := 3) (v := .pointer (some ⟨bp, o + k * 3 + 1, none⟩)) (some 24) rfl rfl (by kernel_rfl) (by kernel_rfl) (by kernel_rfl) (fun _ _ _ h => h) (by kernel_rfl) (fun _ => ex_fieldAddr 30 _ 1 (.pointer (some ⟨bp, o + k * 3, none⟩)) _ rfl (by kernel_rfl) (by go_simp)) ?_
        simp only [Act.put, List.setIfInBounds_toArray, List.set_cons_zero, List.set_cons_succ]
        refine wpAny_at (i := 5) (v := .string s) (some 26) rfl rfl (by kernel_rfl) (by kernel_rfl) (by kernel_rfl) (fun _ _ _ h => h) (by kernel_rfl) (fun _ => ex_move _ _ rfl (by kernel_rfl)) ?_
        simp only [Act.put, List.setIfInBounds_toArray, List.set_cons_zero, List.set_cons_succ]
        refine wpAny_at (i := 6) (v := .int .i64 (a : Int)) (some 27) rfl rfl (by kernel_rfl) (by kernel_rfl) (by kernel_rfl) (fun _ _ _ h => h) (by kernel_rfl) (fun _ => ex_move _ _ rfl (by kernel_rfl)) ?_
        simp only [Act.put, List.setIfInBounds_toArray, List.set_cons_zero, List.set_cons_succ]
        refine wpAny_at (i := 7) (v := .string (s.extract 0 a)) (some 28) rfl rfl (by kernel_rfl) (by kernel_rfl) (by kernel_rfl) (fun _ _ _ h => h) (by kernel_rfl) (fun _ => ex_slice 9 _ _ _ (.string s) _ none (some (.int .i64 (a : Int))) rfl (by kernel_rfl) (by kernel_rfl) (by kernel_rfl) (HSL1.out _)) ?_
        simp only [Act.put, List.setIfInBounds_toArray, List.set_cons_zero, List.set_cons_succ]
        refine wpAny_val 4 (some 25) (.slice uA un uc) (by kernel_rfl) rfl rfl (by kernel_rfl) (ex_load 28 _ (.pointer (some ⟨bp, o + k * 3 + 1, none⟩)) _ rfl (by kernel_rfl) (ld_slice (w := w4.drew) z1)) ?_
        simp only [Act.put, List.setIfInBounds_toArray, List.set_cons_zero, List.set_cons_succ]
        refine wpAny_call 8 (some 29) (by kernel_rfl) rfl rfl (by kernel_rfl) 32 (#[.slice uA un uc, .string (s.extract 0 a)]) (by go_simp) (HS1.out _ (below_drewN (Below.refl _ w4) 1)) ?_
        rintro e w5 ⟨rfl, hb5⟩
        refine ⟨_, rfl, ?_⟩
        have hx5 := (below_drewN (Below.refl w4.heap.size w4) 1).trans hb5
        simp only [Act.put, List.setIfInBounds_toArray, List.set_cons_zero, List.set_cons_succ]
        refine wpAny_at (i := 9) (v := .bool false) (some 30) rfl rfl (by kernel_rfl) (by kernel_rfl) (by kernel_rfl) (fun _ _ _ h => h) (by kernel_rfl) (fun _ => ex_move _ _ rfl (by kernel_rfl)) ?_
        simp only [Act.put, List.setIfInBounds_toArray, List.set_cons_zero, List.set_cons_succ]
        refine wpAny_skip 10 (some 31) rfl rfl (by kernel_rfl) (by kernel_rfl) (by kernel_rfl) (fun _ _ _ h => h) (by kernel_rfl) ?_
        simp only [Act.put, List.setIfInBounds_toArray, List.set_cons_zero, List.set_cons_succ]
        refine wpAny_skip 11 (some 32) rfl rfl (by kernel_rfl) (by kernel_rfl) (by kernel_rfl) (fun _ _ _ h => h) (by kernel_rfl) ?_
        simp only [Act.put, List.setIfInBounds_toArray, List.set_cons_zero, List.set_cons_succ]
        refine wpAny_skip 12 (some 33) rfl rfl (by kernel_rfl) (by kernel_rfl) (by kernel_rfl) (fun _ _ _ h => h) (by kernel_rfl) ?_
        simp only [Act.put, List.setIfInBounds_toArray, List.set_cons_zero, List.set_cons_succ]
        refine wpAny_skip 13 (some 34) rfl rfl (by kernel_rfl) (by kernel_rfl) (by kernel_rfl) (fun _ _ _ h => h) (by kernel_rfl) ?_
        simp only [Act.put, List.setIfInBounds_toArray, List.set_cons_zero, List.set_cons_succ]
        refine wpAny_skip 14 (some 35) rfl rfl (by kernel_rfl) (by kernel_rfl) (by kernel_rfl) (fun _ _ _ h => h) (by kernel_rfl) ?_
        simp only [Act.put, List.setIfInBounds_toArray, List.set_cons_zero, List.set_cons_succ]
        refine wpAny_skip 15 (some 36) rfl rfl (by kernel_rfl) (by kernel_rfl) (by kernel_rfl) (fun _ _ _ h => h) (by kernel_rfl) ?_
        simp only [Act.put, List.setIfInBounds_toArray, List.set_cons_zero, List.set_cons_succ]
        refine wpAny_skip 16 (some 37) rfl rfl (by kernel_rfl) (by kernel_rfl) (by kernel_rfl) (fun _ _ _ h => h) (by kernel_rfl) ?_
        simp only [Act.put, List.setIfInBounds_toArray, List.set_cons_zero, List.set_cons_succ]
        refine wpAny_skip 17 (some 38) rfl rfl (by kernel_rfl) (by kernel_rfl) (by kernel_rfl) (fun _ _ _ h => h) (by kernel_rfl) ?_
        simp only [Act.put, List.setIfInBounds_toArray, List.set_cons_zero, List.set_cons_succ]
        refine wpAny_skip 18 (some 39) rfl rfl (by kernel_rfl) (by kernel_rfl) (by kernel_rfl) (fun _ _ _ h => h) (by kernel_rfl) ?_
        simp only [Act.put, List.setIfInBounds_toArray, List.set_cons_zero, List.set_cons_succ]
        refine wpAny_at (i := 19) (v := .bool false) (some 40) rfl rfl (by kernel_rfl) (by kernel_rfl) (by kernel_rfl) (fun _ _ _ h => h) (by kernel_rfl) (fun _ => ex_pick _ _ _ false (undef) (.bool false) rfl (by kernel_rfl) (by kernel_rfl) (by kernel_rfl)) ?_
        simp only [Act.put, List.setIfInBounds_toArray, List.set_cons_zero, List.set_cons_succ]
        refine wpAny_done (by kernel_rfl) ?_ _
        have HB5 := Lib.hid (HB4.out.trans (hx5.mono hz4))
        clear HB4 HS1 HP1 hb5 hx5 HSL1 HSL2
        go_wp2_with fail
        go_roundg (xs.length - (k + 1))
        case measure => omega
        case rel => exact ⟨k + 1, by go_num, by omega, HV3.out, HB5.out, Nat.le_refl _⟩
      | true =>
        cases m2 with
        | false =>
          have HV3 : Hid (decideF (rs.drop (k + 1)) s a = V) := HV2.out
          clear HV2
          go_wp2_with fail
          refine wp_region_at 20 #[false, false, false, false, false, false, false, false, false, false, false, false, false, false, false, false, false, false, false, false] rfl rfl (by kernel_rfl) ?_
          refine wpAny_at (i := 0) (v := .slice (some ⟨bp, o, none⟩) xs.length cv) (some 21) rfl rfl (by kernel_rfl) (by kernel_rfl) (by kernel_rfl) (fun _ _ _ h => h) (by kernel_rfl) (fun _ => ex_move _ _ rfl (by kernel_rfl)) ?_
          simp only [Act.put, List.setIfInBounds_toArray, List.set_cons_zero, List.set_cons_succ]
          refine wpAny_at (i := 1) (v := .int .i64 (k : Int)) (some 22) rfl rfl (by kernel_rfl) (by kernel_rfl) (by kernel_rfl) (fun _ _ _ h => h) (by kernel_rfl) (fun _ => ex_move _ _ rfl (by kernel_rfl)) ?_
          simp only [Act.put, List.setIfInBounds_toArray, List.set_cons_zero, List.set_cons_succ]
          refine wpAny_at (i := 2) (v := .pointer (some ⟨bp, o + k * 3, none⟩)) (some 23) rfl rfl (by kernel_rfl) (by kernel_rfl) (by kernel_rfl) (fun _ _ _ h => h) (by kernel_rfl) (fun _ => ex_indexAddr 31 _ _ (.slice (some ⟨bp, o, none⟩) xs.length cv) (.int .i64 (k : Int)) _ rfl (by kernel_rfl) (by kernel_rfl) (by go_simp)) ?_
          simp only [Act.put, List.setIfInBounds_toArray, List.set_cons_zero, List.set_cons_succ]
          refine wpAny_at (i := 3) (v := .pointer (some ⟨bp, o + k * 3 + 1, none⟩)) (some 24) rfl rfl (by kernel_rfl) (by kernel_rfl) (by kernel_rfl) (fun _ _ _ h => h) (by kernel_rfl) (fun _ => ex_fieldAddr 30 _ 1 (.pointer (some ⟨bp, o + k * 3, none⟩)) _ rfl (by kernel_rfl) (by go_simp)) ?_
          simp only [Act.put, List.setIfInBounds_toArray, List.set_cons_zero, List.set_cons_succ]
          refine wpAny_at (i := 5) (v := .string s) (some 26) rfl rfl (by kernel_rfl) (by kernel_rfl) (by kernel_rfl) (fun _ _ _ h => h) (by kernel_rfl) (fun _ => ex_move _ _ rfl (by kernel_rfl)) ?_
          simp only [Act.put, List.setIfInBounds_toArray, List.set_cons_zero, List.set_cons_succ]
          refine wpAny_at (i := 6) (v := .int .i64 (a : Int)) (some 27) rfl rfl (by kernel_rfl) (by kernel_rfl) (by kernel_rfl) (fun _ _ _ h => h) (by kernel_rfl) (fun _ => ex_move _ _ rfl (by kernel_rfl)) ?_
          simp only [Act.put, List.setIfInBounds_toArray, List.set_cons_zero, List.set_cons_succ]
          refine wpAny_at (i := 7) (v := .string (s.extract 0 a)) (some 28) rfl rfl (by kernel_rfl) (by kernel_rfl) (by kernel_rfl) (fun _ _ _ h => h) (by kernel_rfl) (fun _ => ex_slice 9 _ _ _ (.string s) _ none (some (.int .i64 (a : Int))) rfl (by kernel_rfl) (by kernel_rfl) (by kernel_rfl) (HSL1.out _)) ?_
          simp only [Act.put, List.setIfInBounds_toArray, List.set_cons_zero, List.set_cons_succ]
          refine wpAny_val 4 (some 25) (.slice uA un uc) (by kernel_rfl) rfl rfl (by kernel_rfl) (ex_load 28 _ (.pointer (some ⟨bp, o + k * 3 + 1, none⟩)) _ rfl (by kernel_rfl) (ld_slice (w := w4.drew) z1)) ?_
          simp only [Act.put, List.setIfInBounds_toArray, List.set_cons_zero, List.set_cons_succ]
          refine wpAny_call 8 (some 29) (by kernel_rfl) rfl rfl (by kernel_rfl) 32 (#[.slice uA un uc, .string (s.extract 0 a)]) (by go_simp) (HS1.out _ (below_drewN (Below.refl _ w4) 1)) ?_
          rintro e w5 ⟨rfl, hb5⟩
          refine ⟨_, rfl, ?_⟩
          have hx5 := (below_drewN (Below.refl w4.heap.size w4) 1).trans hb5
          simp only [Act.put, List.setIfInBounds_toArray, List.set_cons_zero, List.set_cons_succ]
          refine wpAny_at (i := 9) (v := .bool true) (some 30) rfl rfl (by kernel_rfl) (by kernel_rfl) (by kernel_rfl) (fun _ _ _ h => h) (by kernel_rfl) (fun _ => ex_move _ _ rfl (by kernel_rfl)) ?_
          simp only [Act.put, List.setIfInBounds_toArray, List.set_cons_zero, List.set_cons_succ]
          refine wpAny_at (i := 10) (v := .slice (some ⟨bp, o, none⟩) xs.length cv) (some 31) rfl rfl (by kernel_rfl) (by kernel_rfl) (by kernel_rfl) (fun _ _ _ h => h) (by kernel_rfl) (fun _ => ex_move _ _ rfl (by kernel_rfl)) ?_
          simp only [Act.put, List.setIfInBounds_toArray, List.set_cons_zero, List.set_cons_succ]
          refine wpAny_at (i := 11) (v := .int .i64 (k : Int)) (some 32) rfl rfl (by kernel_rfl) (by kernel_rfl) (by kernel_rfl) (fun _ _ _ h => h) (by kernel_rfl) (fun _ => ex_move _ _ rfl (by kernel_rfl)) ?_
          simp only [Act.put, List.setIfInBounds_toArray, List.set_cons_zero, List.set_cons_succ]
          refine wpAny_at (i := 12) (v := .pointer (some ⟨bp, o + k * 3, none⟩)) (some 33) rfl rfl (by kernel_rfl) (by kernel_rfl) (by kernel_rfl) (fun _ _ _ h => h) (by kernel_rfl) (fun _ => ex_indexAddr 31 _ _ (.slice (some ⟨bp, o, none⟩) xs.length cv) (.int .i64 (k : Int)) _ rfl (by kernel_rfl) (by kernel_rfl) (by go_simp)) ?_
          simp only [Act.put, List.setIfInBounds_toArray, List.set_cons_zero, List.set_cons_succ]
          refine wpAny_at (i := 13) (v := .pointer (some ⟨bp, o + k * 3 + 2, none⟩)) (some 34) rfl rfl (by kernel_rfl) (by kernel_rfl) (by kernel_rfl) (fun _ _ _ h => h) (by kernel_rfl) (fun _ => ex_fieldAddr 30 _ 2 (.pointer (some ⟨bp, o + k * 3, none⟩)) _ rfl (by kernel_rfl) (by go_simp)) ?_
          simp only [Act.put, List.setIfInBounds_toArray, List.set_cons_zero, List.set_cons_succ]
          refine wpAny_at (i := 15) (v := .string s) (some 36) rfl rfl (by kernel_rfl) (by kernel_rfl) (by kernel_rfl) (fun _ _ _ h => h) (by kernel_rfl) (fun _ => ex_move _ _ rfl (by kernel_rfl)) ?_
          simp only [Act.put, List.setIfInBounds_toArray, List.set_cons_zero, List.set_cons_succ]
          refine wpAny_at (i := 16) (v := .int .i64 (a : Int)) (some 37) rfl rfl (by kernel_rfl) (by kernel_rfl) (by kernel_rfl) (fun _ _ _ h => h) (by kernel_rfl) (fun _ => ex_move _ _ rfl (by kernel_rfl)) ?_
          simp only [Act.put, List.setIfInBounds_toArray, List.set_cons_zero, List.set_cons_succ]
          refine wpAny_at (i := 17) (v := .string (s.extract a s.size)) (some 38) rfl rfl (by kernel_rfl) (by kernel_rfl) (by kernel_rfl) (fun _ _ _ h => h) (by kernel_rfl) (fun _ => ex_slice 9 _ _ _ (.string s) _ (some (.int .i64 (a : Int))) none rfl (by kernel_rfl) (by kernel_rfl) (by kernel_rfl) (HSL2.out _)) ?_
          simp only [Act.put, List.setIfInBounds_toArray, List.set_cons_zero, List.set_cons_succ]
          refine wpAny_val 14 (some 35) (.slice tA tn tc) (by kernel_rfl) rfl rfl (by kernel_rfl) (ex_load 28 _ (.pointer (some ⟨bp, o + k * 3 + 2, none⟩)) _ rfl (by kernel_rfl) (ld_slice ((hx5.cell (p := ⟨bp, o + k * 3 + 2, none⟩) hq4).trans z2))) ?_
          simp only [Act.put, List.setIfInBounds_toArray, List.set_cons_zero, List.set_cons_succ]
          refine wpAny_call 18 (some 39) (by kernel_rfl) rfl rfl (by kernel_rfl) 33 (#[.slice tA tn tc, .string (s.extract a s.size)]) (by go_simp) (HP1.out _ hx5) ?_
          rintro e w6 ⟨rfl, hb6⟩
          refine ⟨_, rfl, ?_⟩
          simp only [Act.put, List.setIfInBounds_toArray, List.set_cons_zero, List.set_cons_succ]
          refine wpAny_at (i := 19) (v := .bool false) (some 40) rfl rfl (by kernel_rfl) (by kernel_rfl) (by kernel_rfl) (fun _ _ _ h => h) (by kernel_rfl) (fun _ => ex_pick _ _ _ true (.bool false) (.bool false) rfl (by kernel_rfl) (by kernel_rfl) (by kernel_rfl)) ?_
          simp only [Act.put, List.setIfInBounds_toArray, List.set_cons_zero, List.set_cons_succ]
          refine wpAny_done (by kernel_rfl) ?_ _
          have HB5 := Lib.hid (HB4.out.trans ((hx5.trans (hb6.mono hx5.size)).mono hz4))
          clear HB4 HS1 HP1 hb5 hb6 hx5 HSL1 HSL2
          go_wp2_with fail
          go_roundg (xs.length - (k + 1))
          case measure => omega
          case rel => exact ⟨k + 1, by go_num, by omega, HV3.out, HB5.out, Nat.le_refl _⟩
        | true =>
          have HV3 : Hid (r.br = V) := HV2.out
          clear HV2
          go_wp2_with fail
          refine wp_region_at 20 #[false, false, false, false, false, false, false, false, false, false, false, false, false, false, false, false, false, false, false, false] rfl rfl (by kernel_rfl) ?_
          refine wpAny_at (i := 0) (v := .slice (some ⟨bp, o, none⟩) xs.length cv) (some 21) rfl rfl (by kernel_rfl) (by kernel_rfl) (by kernel_rfl) (fun _ _ _ h => h) (by kernel_rfl) (fun _ => ex_move _ _ rfl (by kernel_rfl)) ?_
          simp only [Act.put, List.setIfInBounds_toArray, List.set_cons_zero, List.set_cons_succ]
          refine wpAny_at (i := 1) (v := .int .i64 (k : Int)) (some 22) rfl rfl (by kernel_rfl) (by kernel_rfl) (by kernel_rfl) (fun _ _ _ h => h) (by kernel_rfl) (fun _ => ex_move _ _ rfl (by kernel_rfl)) ?_
          simp only [Act.put, List.setIfInBounds_toArray, List.set_cons_zero, List.set_cons_succ]
          refine wpAny_at (i := 2) (v := .pointer (some ⟨bp, o + k * 3, none⟩)) (some 23) rfl rfl (by kernel_rfl) (by kernel_rfl) (by kernel_rfl) (fun _ _ _ h => h) (by kernel_rfl) (fun _ => ex_indexAddr 31 _ _ (.slice (some ⟨bp, o, none⟩) xs.length cv) (.int .i64 (k : Int)) _ rfl (by kernel_rfl) (by kernel_rfl) (by go_simp)) ?_
          simp only [Act.put, List.setIfInBounds_toArray, List.set_cons_zero, List.set_cons_succ]
          refine wpAny_at (i := 3) (v := .pointer (some ⟨bp, o + k * 3 + 1, none⟩)) (some 24) rfl rfl (by kernel_rfl) (by kernel_rfl) (by kernel_rfl) (fun _ _ _ h => h) (by kernel_rfl) (fun _ => ex_fieldAddr 30 _ 1 (.pointer (some ⟨bp, o + k * 3, none⟩)) _ rfl (by kernel_rfl) (by go_simp)) ?_
          simp only [Act.put, List.setIfInBounds_toArray, List.set_cons_zero, List.set_cons_succ]
          refine wpAny_at (i := 5) (v := .string s) (some 26) rfl rfl (by kernel_rfl) (by kernel_rfl) (by kernel_rfl) (fun _ _ _ h => h) (by kernel_rfl) (fun _ => ex_move _ _ rfl (by kernel_rfl)) ?_
          simp only [Act.put, List.setIfInBounds_toArray, List.set_cons_zero, List.set_cons_succ]
          refine wpAny_at (i := 6) (v := .int .i64 (a : Int)) (some 27) rfl rfl (by kernel_rfl) (by kernel_rfl) (by kernel_rfl) (fun _ _ _ h => h) (by kernel_rfl) (fun _ => ex_move _ _ rfl (by kernel_rfl)) ?_
          simp only [Act.put, List.setIfInBounds_toArray, List.set_cons_zero, List.set_cons_succ]
          refine wpAny_at (i := 7) (v := .string (s.extract 0 a)) (some 28) rfl rfl (by kernel_rfl) (by kernel_rfl) (by kernel_rfl) (fun _ _ _ h => h) (by kernel_rfl) (fun _ => ex_slice 9 _ _ _ (.string s) _ none (some (.int .i64 (a : Int))) rfl (by kernel_rfl) (by kernel_rfl) (by kernel_rfl) (HSL1.out _)) ?_
          simp only [Act.put, List.setIfInBounds_toArray, List.set_cons_zero, List.set_cons_succ]
          refine wpAny_val 4 (some 25) (.slice uA un uc) (by kernel_rfl) rfl rfl (by kernel_rfl) (ex_load 28 _ (.pointer (some ⟨bp, o + k * 3 + 1, none⟩)) _ rfl (by kernel_rfl) (ld_slice (w := w4.drew) z1)) ?_
          simp only [Act.put, List.setIfInBounds_toArray, List.set_cons_zero, List.set_cons_succ]
          refine wpAny_call 8 (some 29) (by kernel_rfl) rfl rfl (by kernel_rfl) 32 (#[.slice uA un uc, .string (s.extract 0 a)]) (by go_simp) (HS1.out _ (below_drewN (Below.refl _ w4) 1)) ?_
          rintro e w5 ⟨rfl, hb5⟩
          refine ⟨_, rfl, ?_⟩
          have hx5 := (below_drewN (Below.refl w4.heap.size w4) 1).trans hb5
          simp only [Act.put, List.setIfInBounds_toArray, List.set_cons_zero, List.set_cons_succ]
          refine wpAny_at (i := 9) (v := .bool true) (some 30) rfl rfl (by kernel_rfl) (by kernel_rfl) (by kernel_rfl) (fun _ _ _ h => h) (by kernel_rfl) (fun _ => ex_move _ _ rfl (by kernel_rfl)) ?_
          simp only [Act.put, List.setIfInBounds_toArray, List.set_cons_zero, List.set_cons_succ]
          refine wpAny_at (i := 10) (v := .slice (some ⟨bp, o, none⟩) xs.length cv) (some 31) rfl rfl (by kernel_rfl) (by kernel_rfl) (by kernel_rfl) (fun _ _ _ h => h) (by kernel_rfl) (fun _ => ex_move _ _ rfl (by kernel_rfl)) ?_
          simp only [Act.put, List.setIfInBounds_toArray, List.set_cons_zero, List.set_cons_succ]
          refine wpAny_at (i := 11) (v := .int .i64 (k : Int)) (some 32) rfl rfl (by kernel_rfl) (by kernel_rfl) (by kernel_rfl) (fun _ _ _ h => h) (by kernel_rfl) (fun _ => ex_move _ _ rfl (by kernel_rfl)) ?_
          simp only [Act.put, List.setIfInBounds_toArray, List.set_cons_zero, List.set_cons_succ]
          refine wpAny_at (i := 12) (v := .pointer (some ⟨bp, o + k * 3, none⟩)) (some 33) rfl rfl (by kernel_rfl) (by kernel_rfl) (by kernel_rfl) (fun _ _ _ h => h) (by kernel_rfl) (fun _ => ex_indexAddr 31 _ _ (.slice (some ⟨bp, o, none⟩) xs.length cv) (.int .i64 (k : Int)) _ rfl (by kernel_rfl) (by kernel_rfl) (by go_simp)) ?_
          simp only [Act.put, List.setIfInBounds_toArray, List.set_cons_zero, List.set_cons_succ]
          refine wpAny_at (i := 13) (v := .pointer (some ⟨bp, o + k * 3 + 2, none⟩)) (some 34) rfl rfl (by kernel_rfl) (by kernel_rfl) (by kernel_rfl) (fun _ _ _ h => h) (by kernel_rfl) (fun _ => ex_fieldAddr 30 _ 2 (.pointer (some ⟨bp, o + k * 3, none⟩)) _ rfl (by kernel_rfl) (by go_simp)) ?_
          simp only [Act.put, List.setIfInBounds_toArray, List.set_cons_zero, List.set_cons_succ]
          refine wpAny_at (i := 15) (v := .string s) (some 36) rfl rfl (by kernel_rfl) (by kernel_rfl) (by kernel_rfl) (fun _ _ _ h => h) (by kernel_rfl) (fun _ => ex_move _ _ rfl (by kernel_rfl)) ?_
          simp only [Act.put, List.setIfInBounds_toArray, List.set_cons_zero, List.set_cons_succ]
          refine wpAny_at (i := 16) (v := .int .i64 (a : Int)) (some 37) rfl rfl (by kernel_rfl) (by kernel_rfl) (by kernel_rfl) (fun _ _ _ h => h) (by kernel_rfl) (fun _ => ex_move _ _ rfl (by kernel_rfl)) ?_
          simp only [Act.put, List.setIfInBounds_toArray, List.set_cons_zero, List.set_cons_succ]
          refine wpAny_at (i := 17) (v := .string (s.extract a s.size)) (some 38) rfl rfl (by kernel_rfl) (by kernel_rfl) (by kernel_rfl) (fun _ _ _ h => h) (by kernel_rfl) (fun _ => ex_slice 9 _ _ _ (.string s) _ (some (.int .i64 (a : Int))) none rfl (by kernel_rfl) (by kernel_rfl) (by kernel_rfl) (HSL2.out _)) ?_
          simp only [Act.put, List.setIfInBounds_toArray, List.set_cons_zero, List.set_cons_succ]
          refine wpAny_val 14 (some 35) (.slice tA tn tc) (by kernel_rfl) rfl rfl (by kernel_rfl) (ex_load 28 _ (.pointer (some ⟨bp, o + k * 3 + 2, none⟩)) _ rfl (by kernel_rfl) (ld_slice ((hx5.cell (p := ⟨bp, o + k * 3 + 2, none⟩) hq4).trans z2))) ?_
          simp only [Act.put, List.setIfInBounds_toArray, List.set_cons_zero, List.set_cons_succ]
          refine wpAny_call 18 (some 39) (by kernel_rfl) rfl rfl (by kernel_rfl) 33 (#[.slice tA tn tc, .string (s.extract a s.size)]) (by go_simp) (HP1.out _ hx5) ?_
          rintro e w6 ⟨rfl, hb6⟩
          refine ⟨_, rfl, ?_⟩
          simp only [Act.put, List.setIfInBounds_toArray, List.set_cons_zero, List.set_cons_succ]
          refine wpAny_at (i := 19) (v := .bool true) (some 40) rfl rfl (by kernel_rfl) (by kernel_rfl) (by kernel_rfl) (fun _ _ _ h => h) (by kernel_rfl) (fun _ => ex_pick _ _ _ true (.bool true) (.bool false) rfl (by kernel_rfl) (by kernel_rfl) (by kernel_rfl)) ?_
          simp only [Act.put, List.setIfInBounds_toArray, List.set_cons_zero, List.set_cons_succ]
          refine wpAny_done (by kernel_rfl) ?_ _
          have HB5 := Lib.hid (HB4.out.trans ((hx5.trans (hb6.mono hx5.size)).mono hz4))
          have y0 := ((hx5.trans (hb6.mono hx5.size)).cell (p := ⟨bp, o + k * 3, none⟩) hq4).trans z0
          clear HB4 HS1 HP1 hb5 hb6 hx5 HSL1 HSL2
          go_wp2_with fail
          rw [HRV.out, ← HV3.out]
          exact ⟨rfl, HB5.out⟩
    · obtain rfl : k = xs.length := by omega
      have hki : ¬ (xs.length : Int) < (xs.length : Int) := by omega
      have e : V = false := by
        rw [← HV.out, List.drop_eq_nil_of_le (by omega)]
        rfl
      go_wp2_with fail
      rw [HRV.out, e]
      exact ⟨rfl, HB.out⟩

theorem breaks_len (rs : List Ru) (s : ByteArray) : (breaksF rs s).length ≤ s.size := by
  unfold breaksF
  split
  · simp
  · rw [List.length_map]
    exact Nat.le_trans (List.length_filter_le _ _) (by simp)

set_option maxRecDepth 100000 in
set_option maxHeartbeats 8000000 in
theorem rBreaks_any (rs : List Ru) (v : Value) (s : ByteArray) (w : World) (ht : RdRu w v rs) (hsm : RuSmall rs) (hs : s.size ≤ 1000000) :
    Calls Tryd.prog 31 #[v, .string s] w (RetOwn 3 intC 1 w (breaksF rs s)) := by
  obtain ⟨R, HRR⟩ : ∃ R, Hid (R = RetOwn 3 intC 1 w (breaksF rs s)) := ⟨_, rfl⟩
  rw [← HRR.out]
  obtain ⟨Av, cv, rfl⟩ := ht.shape
  by_cases h24 : 1024 < s.size
  · have h24i : (1024 : Int) < (s.size : Int) := by omega
    have e0 : breaksF rs s = [] := by unfold breaksF; rw [if_pos h24]
    go_enter Tryd.func31, Tryd.ntmps31
    go_wp2_with fail
    rw [HRR.out, e0]
    exact ⟨_, rfl, OwnE.nil, Below.refl _ _⟩
  have h24i : ¬ (1024 : Int) < (s.size : Int) := by omega
  have HD := Lib.hid (fun (k : Nat) (hk0 : 0 < k) (hk : k < s.size) (w' : World) (h : Below w.heap.size w w') => rDecide_any rs _ s (k : Int) w' (ht.below h (Nat.le_refl _)) hsm hs ⟨by omega, by omega⟩)
  have HE : Hid (∀ k : Nat, 0 < k → k < s.size → decB rs s (k : Int) = inB rs s k) := fun k h1 h2 => by
    unfold decB inB
    rw [decide_eq_true (show (0 : Int) < (k : Int) by omega), decide_eq_true (show (k : Int) < (s.size : Int) by omega), decide_eq_true h1, Int.toNat_natCast, Bool.true_and]
  have HBU : Hid (breaksF rs s = uptoN (inB rs s) s.size) := breaks_upto rs s (by omega)
  have H0 : Hid (uptoN (inB rs s) 1 = []) := by
    show _ = _
    rw [uptoN_succ]
    rfl
  clear ht hsm
  go_enter Tryd.func31, Tryd.ntmps31
  go_wp2_with fail
  obtain ⟨wo, HWO⟩ : ∃ wo, Hid (wo = w) := ⟨w, rfl⟩
  go_loopg [5, 6] s.size (fun gk ov kv wr => ∃ (k : Nat) (q : List Int) (A : Option Addr) (c : Nat), ov = .slice A q.length c ∧ kv = .int .i64 k ∧ 0 < k ∧ (k ≤ s.size ∨ k = 1) ∧ Hid (q = uptoN (inB rs s) k) ∧ q.length ≤ k ∧ Hid (OwnE 3 intC 1 wr w.heap.size (.slice A q.length c) q) ∧ Hid (Below w.heap.size w wr) ∧ s.size - k ≤ gk)
  case atStart => exact ⟨1, [], none, 0, rfl, rfl, by omega, .inr rfl, H0.out.symm, by simp, OwnE.nil, Below.refl _ _, by omega⟩
  case round =>
    clear HWO
    obtain ⟨k, q, A, c, rfl, rfl, hk0, hk, HQ, hqk, HO, HB, hgk⟩ := hrel
    by_cases hkl : k < s.size
    · have hki : (k : Int) < (s.size : Int) := by omega
      have HD2 := Lib.hid (HD.out k hk0 hkl)
      rw [HE.out k hk0 hkl] at HD2
      have HQ2 : Hid (uptoN (inB rs s) (k + 1) = q ++ if inB rs s k = true then [(k : Int)] else []) := by
        show _ = _
        rw [uptoN_succ, ← HQ.out]
      generalize inB rs s k = b at HD2 HQ2
      have hsz := HB.out.size
      cases b with
      | false =>
        rw [if_neg Bool.false_ne_true, List.append_nil] at HQ2
        go_wp2_with (go_at_call 30; refine (HD2.out _ HB.out).mono ?_; rintro e w3 ⟨rfl, hb3⟩; have HB3 := Lib.hid (HB.out.trans (hb3.mono hsz)); have HO3 := Lib.hid (own_below HO.out hb3 (Nat.le_refl _)); have hs3 := HB3.out.size; clear hb3 HB HO)
        go_roundg (s.size - (k + 1))
        case measure => omega
        case rel => exact ⟨k + 1, q, A, c, rfl, by go_num, by omega, .inl (by omega), HQ2.out.symm, by omega, HO3.out, HB3.out, Nat.le_refl _⟩
      | true =>
        rw [if_pos rfl] at HQ2
        go_wp2_with (first
          | (go_at_call 30; refine (HD2.out _ HB.out).mono ?_; rintro e w3 ⟨rfl, hb3⟩; have HB3 := Lib.hid (HB.out.trans (hb3.mono hsz)); have HO3 := Lib.hid (own_below HO.out hb3 (Nat.le_refl _)); have hs3 := HB3.out.size; clear hb3 HB HO)
          | (at_builtin; go_must (refine wpList_app1 rfl (.tmp 20) (.tmp 22) 32 3 rfl Tryd.underlying32 _ 1 8 int_info6 rfl (by decide) w.heap.size (.slice A q.length c) q.length (q.flatMap intC) rfl (own_below HO3.out ((Below.refl _ w3).alloc (Nat.le_refl _) _) (Nat.le_refl _)) ⟨w3.heap.size, 0, none⟩ 1 (intC k) rfl rfl (cells_new w3 (intC k) 3) (intC_oneA k) (by omega) (by decide) (by simp; omega) ?_); intro g9 cap w9 hown9 hbg9 hbel9 hgrow9))
        have hbn := hbel9 w.heap.size w3 (Nat.le_refl _) ((Below.refl w.heap.size w3).alloc hs3 (.cells (intC k).toArray 3))
        have HB9 := Lib.hid (HB3.out.trans hbn)
        have HO9 : Hid (OwnE 3 intC 1 w9 w.heap.size (.slice (some ⟨g9, 0, none⟩) (q.length + 1) cap) (q ++ [(k : Int)])) := OwnE.snoc hown9
        clear hown9 hbel9 hgrow9 hbn
        go_wp2_with fail
        go_roundg (s.size - (k + 1))
        case measure => omega
        case rel => exact ⟨k + 1, q ++ [(k : Int)], some ⟨g9, 0, none⟩, cap, by (show Value.slice _ _ _ = Value.slice _ _ _); rw [List.length_append]; rfl, by go_num, by omega, .inl (by omega), HQ2.out.symm, by rw [List.length_append]; show q.length + 1 ≤ k + 1; omega, by (show OwnE _ _ _ _ _ _ _); rw [List.length_append]; exact HO9.out, HB9.out, Nat.le_refl _⟩
    · have hki : ¬ (k : Int) < (s.size : Int) := by omega
      have e : q = breaksF rs s := by
        rw [HQ.out, HBU.out]
        by_cases h : k = s.size
        · rw [h]
        · have h1 : k = 1 := by omega
          have h2 : s.size = 0 := by omega
          rw [h1, h2, H0.out]
          rfl
      go_wp2_with fail
      rw [HRR.out, ← e]
      exact ⟨_, rfl, HO.out, HB.out⟩

end Go.Proofs.YtpboaadjbkaidaaDoor

namespace Go.Proofs.YtpboaadjbkaidaaDoor
set_option maxRecDepth 100000
open Go.RowKit

set_option maxRecDepth 100000 in
set_option maxHeartbeats 8000000 in
theorem sameInts_any (l : List Int) (va vb : Value) (w : World) (ha : RdE intC 1 w va l) (hb : RdE intC 1 w vb l) (hl : l.length ≤ 140737488355328) :
    Calls Tryd.prog 18 #[va, vb] w fun e w' => e = .returned (.bool true) ∧ Below w.heap.size w w' := by
  obtain ⟨A, c, rfl, hlc, _⟩ := ha.shape
  obtain ⟨A2, c2, rfl, hlc2, _⟩ := hb.shape
  have HA := Lib.hid ha
  have HB := Lib.hid hb
  clear ha hb
  go_enter Tryd.func18, Tryd.ntmps18
  go_wp2_with fail
  obtain ⟨wo, HWO⟩ : ∃ wo, Hid (wo = w) := ⟨w, rfl⟩
  go_loopg [13] l.length (fun gk kv wr => ∃ k : Nat, kv = .int .i64 k ∧ k ≤ l.length ∧ Hid (Below w.heap.size w wr) ∧ l.length - k ≤ gk)
  case atStart => exact ⟨0, rfl, by omega, Below.refl _ _, by omega⟩
  case round =>
    obtain ⟨k, rfl, hk, HW, hgk⟩ := hrel
    by_cases hkl : k < l.length
    · have hki : (k : Int) < (l.length : Int) := by omega
      have hk0 : (0 : Int) ≤ (k : Int) := by omega
      obtain ⟨b1, o1, rfl, hb1, hc1⟩ := HA.out.cells (by omega)
      obtain ⟨b2, o2, rfl, hb2, hc2⟩ := HB.out.cells (by omega)
      have q1 := (HW.out.cell (p := ⟨b1, o1 + (k * 1 + 0), none⟩) hb1).trans (hc1 k l[k] 0 _ (List.getElem?_eq_getElem hkl) rfl)
      have q2 := (HW.out.cell (p := ⟨b2, o2 + (k * 1 + 0), none⟩) hb2).trans (hc2 k l[k] 0 _ (List.getElem?_eq_getElem hkl) rfl)
      rw [show o1 + (k * 1 + 0) = o1 + k by omega] at q1
      rw [show o2 + (k * 1 + 0) = o2 + k by omega] at q2
      clear hc1 hc2
      generalize l[k] = x at q1 q2
      have t1 : (x != x) = false := bne_self_eq_false x
      go_upto_region 6 with fail
      go_quiet (fail)
      go_wp2_with fail
      go_roundg (l.length - (k + 1))
      case measure => omega
      case rel => exact ⟨k + 1, by go_num, by omega, below_drewN HW.out _, Nat.le_refl _⟩
    · obtain rfl : k = l.length := by omega
      have hki : ¬ (l.length : Int) < (l.length : Int) := by omega
      go_wp2_with fail
      go_ret
      exact ⟨rfl, HW.out⟩
theorem got_below {w w' : World} (hg : Got w) (hb : Below w.heap.size w w') : Got w' := by
  obtain ⟨m, hm⟩ := hg
  exact ⟨m, (hb.cell (p := ⟨0, 0, none⟩) (got_lt hm)).trans hm⟩
theorem rulesM_small (L : List Int) : RuSmall (rulesM L 0 5).1 := by
  have h := rulesM_bd L 0 5 (by decide)
  refine ⟨Nat.le_trans h.1 (by decide), fun r hr => ?_⟩
  have := h.2.2 r hr
  exact ⟨Nat.le_trans this.1 (by decide), Nat.le_trans this.2.1 (by decide)⟩

theorem idx_fst (s u : ByteArray) (w : World) : (Instr.index 38 (.agg #[.string s, .string u]) (.int .i64 0)).run Tryd.prog w = .ok (.string s) w := by
  simp [Instr.index, run_underlying Tryd.underlying38, asIntOf, go_sem, Go.part]
theorem idx_snd (s u : ByteArray) (w : World) : (Instr.index 38 (.agg #[.string s, .string u]) (.int .i64 1)).run Tryd.prog w = .ok (.string u) w := by
  simp [Instr.index, run_underlying Tryd.underlying38, asIntOf, go_sem, Go.part]

end Go.Proofs.YtpboaadjbkaidaaDoor

namespace Go.Proofs.YtpboaadjbkaidaaDoor
set_option maxRecDepth 100000

theorem extract_list (s : ByteArray) (a b : Nat) : (s.extract a b).data.toList = (s.data.toList.take b).drop a := by
  rw [ByteArray.data_extract, Array.toList_extract, List.extract_eq_drop_take']
theorem midL_self {α : Type} (l : List α) (i : Nat) : (l.take i).drop i = [] := List.drop_eq_nil_of_le (by simp; omega)
theorem midL_snoc {α : Type} (l : List α) (f i : Nat) (hf : f ≤ i) (hi : i < l.length) : (l.take (i + 1)).drop f = (l.take i).drop f ++ [l[i]] := by
  rw [List.take_succ_eq_append_getElem hi, List.drop_append_of_le_length (by simp; omega)]
theorem midL_len {α : Type} (l : List α) (f i : Nat) (hi : i ≤ l.length) : ((l.take i).drop f).length = i - f := by simp; omega
theorem midL_nil {α : Type} (l : List α) (f i : Nat) (hi : i ≤ l.length) : (l.take i).drop f = [] ↔ i ≤ f := by
  rw [← List.length_eq_zero_iff, midL_len l f i hi]; omega
/-- What is to be done of the words at place i, the word under way beginning at f. -/
def wordsR (l : List UInt8) (f i : Nat) : List (List UInt8) := wordsA ((l.take i).drop f) (l.drop i)
theorem wordsR_start (l : List UInt8) : wordsR l 0 0 = wordsL l := rfl
theorem wordsR_step (l : List UInt8) (f i : Nat) (hf : f ≤ i) (hi : i < l.length) (h : l[i] ≠ 32) : wordsR l f i = wordsR l f (i + 1) := by
  unfold wordsR
  rw [List.drop_eq_getElem_cons hi, wordsA, if_neg h, midL_snoc l f i hf hi]
theorem wordsR_sep (l : List UInt8) (f i : Nat) (hi : i < l.length) (h : l[i] = 32) : wordsR l f i = (if f < i then [(l.take i).drop f] else []) ++ wordsR l (i + 1) (i + 1) := by
  unfold wordsR
  rw [List.drop_eq_getElem_cons hi, wordsA, if_pos h, midL_self l (i + 1)]
  congr 1
  by_cases hf : f < i
  · rw [if_pos hf, if_neg (by rw [midL_nil l f i (by omega)]; omega)]
  · rw [if_neg hf, if_pos (by rw [midL_nil l f i (by omega)]; omega)]
theorem wordsR_end (l : List UInt8) (f : Nat) : wordsR l f l.length = if f < l.length then [(l.take l.length).drop f] else [] := by
  unfold wordsR
  rw [List.drop_eq_nil_of_le (Nat.le_refl _), wordsA]
  by_cases hf : f < l.length
  · rw [if_pos hf, if_neg (by rw [midL_nil l f _ (Nat.le_refl _)]; omega)]
  · rw [if_neg hf, if_pos (by rw [midL_nil l f _ (Nat.le_refl _)]; omega)]
/-- What is to be done of the lines at place i, the line under way beginning at f. -/
def linesA : List UInt8 → List UInt8 → List (List UInt8)
  | cur, [] => if cur = [] then [] else [cur]
  | cur, b :: l => if b = 10 then cur :: linesA [] l else linesA (cur ++ [b]) l
theorem linesA_eq : ∀ (l cur : List UInt8), (∀ b ∈ cur, b ≠ 10) → linesA cur l = linesL (cur ++ l)
  | [], cur, h => by rw [linesA, List.append_nil, linesL_end cur h]
  | b :: l, cur, h => by
    rw [linesA]
    split
    · rename_i hb
      subst hb
      rw [linesL_sep cur l h, linesA_eq l [] (by simp)]
      rfl
    · rename_i hb
      rw [linesA_eq l (cur ++ [b]) (fun x hx => by
        rcases List.mem_append.1 hx with hx | hx
        · exact h x hx
        · rw [List.mem_singleton.1 hx]; exact hb), List.append_assoc]
      rfl
def linesR (l : List UInt8) (f i : Nat) : List (List UInt8) := linesA ((l.take i).drop f) (l.drop i)
theorem linesR_start (l : List UInt8) : linesR l 0 0 = linesL l := linesA_eq l [] (by simp)
theorem linesR_step (l : List UInt8) (f i : Nat) (hf : f ≤ i) (hi : i < l.length) (h : l[i] ≠ 10) : linesR l f i = linesR l f (i + 1) := by
  unfold linesR
  rw [List.drop_eq_getElem_cons hi, linesA, if_neg h, midL_snoc l f i hf hi]
theorem linesR_sep (l : List UInt8) (f i : Nat) (hi : i < l.length) (h : l[i] = 10) : linesR l f i = [(l.take i).drop f] ++ linesR l (i + 1) (i + 1) := by
  unfold linesR
  rw [List.drop_eq_getElem_cons hi, linesA, if_pos h, midL_self l (i + 1)]
  rfl
theorem linesR_end (l : List UInt8) (f : Nat) : linesR l f l.length = if f < l.length then [(l.take l.length).drop f] else [] := by
  unfold linesR
  rw [List.drop_eq_nil_of_le (Nat.le_refl _), linesA]
  by_cases hf : f < l.length
  · rw [if_pos hf, if_neg (by rw [midL_nil l f _ (Nat.le_refl _)]; omega)]
  · rw [if_neg hf, if_pos (by rw [midL_nil l f _ (Nat.le_refl _)]; omega)]
theorem linesL_len : ∀ (l : List UInt8), ∀ x ∈ linesL l, x.length ≤ l.length
  | [], x, h => by simp [linesL] at h
  | b :: l, x, h => by
    rw [linesL] at h
    split at h
    · rcases List.mem_cons.1 h with rfl | h
      · simp
      · have := linesL_len l x h; simp; omega
    · cases hl : linesL l with
      | nil => rw [hl] at h; simp at h; subst h; simp
      | cons y ys =>
        rw [hl] at h
        rcases List.mem_cons.1 h with rfl | h
        · have := linesL_len l y (by rw [hl]; simp); simp; omega
        · have := linesL_len l x (by rw [hl]; simp [h]); simp; omega
theorem linesL_count : ∀ (l : List UInt8), (linesL l).length ≤ l.length
  | [] => Nat.le_refl _
  | b :: l => by
    have ih := linesL_count l
    rw [linesL]
    split
    · simp; omega
    · cases hl : linesL l with
      | nil => simp
      | cons y ys => rw [hl] at ih; simp at ih ⊢; omega

end Go.Proofs.YtpboaadjbkaidaaDoor

namespace Go.Proofs.YtpboaadjbkaidaaDoor
set_option maxRecDepth 100000
open Go.RowKit

theorem rset_size : (Tryd.prog.info? 24).map (·.size) = some 32 := by kernel_rfl
theorem rres_set_tmp {fn : Func} {p u : Tmp} (h : fn.results = #[.cell p 24, .tmp u]) (tmps : Array Value) (w : World) (g : Nat) (t : TypeId) (q : Nat → Bool) (v : Value) (hp : tmps.getD p undef = .pointer (some ⟨g, 0, none⟩)) (hu : tmps.getD u undef = v) (hs : SetIn w g t q) :
    (results fn tmps).run Tryd.prog w = .ok (.tuple #[.agg (setC q).toArray, v]) w := by
  rw [results_cell_tmp h, hp, hu]
  have hl := run_loadVar_row (P := Tryd.prog) w g t 24 (setC q).toArray (0, 0) _ hs Tryd.underlying24 rfl (by rw [rset_size, setC_size])
  simp [asAddr, Result.andThen, hl]

/-- What the letters s, d, l, c, m stand for, the first k of them. -/
def wantK (low k : Nat) : Nat :=
  if 4 < k ∧ low = 109 then 5 else if 3 < k ∧ low = 99 then 1 else if 2 < k ∧ low = 108 then 4 else if 1 < k ∧ low = 100 then 3 else if 0 < k ∧ low = 115 then 2 else 0
def lowN (c : Nat) : Nat := if 65 ≤ c ∧ c ≤ 90 then c + 32 else c
/-- Does the reference know the letter. -/
def okL (c : Nat) : Bool := !(wantK (lowN c) 5 == 0 && lowN c != 117)
theorem wantK_lt (low k : Nat) : wantK low k < 6 := by
  unfold wantK
  repeat' split
  all_goals omega
theorem wantK_hit0 (low : Nat) (h : low = 115) : wantK low 1 = 2 := by subst h; decide
theorem wantK_miss0 (low : Nat) (h : ¬ low = 115) : wantK low 1 = wantK low 0 := by unfold wantK; simp [h]
theorem wantK_hit1 (low : Nat) (h : low = 100) : wantK low 2 = 3 := by subst h; decide
theorem wantK_miss1 (low : Nat) (h : ¬ low = 100) : wantK low 2 = wantK low 1 := by unfold wantK; simp [h]
theorem wantK_hit2 (low : Nat) (h : low = 108) : wantK low 3 = 4 := by subst h; decide
theorem wantK_miss2 (low : Nat) (h : ¬ low = 108) : wantK low 3 = wantK low 2 := by unfold wantK; simp [h]
theorem wantK_hit3 (low : Nat) (h : low = 99) : wantK low 4 = 1 := by subst h; decide
theorem wantK_miss3 (low : Nat) (h : ¬ low = 99) : wantK low 4 = wantK low 3 := by unfold wantK; simp [h]
theorem wantK_hit4 (low : Nat) (h : low = 109) : wantK low 5 = 5 := by subst h; decide
theorem wantK_miss4 (low : Nat) (h : ¬ low = 109) : wantK low 5 = wantK low 4 := by unfold wantK; simp [h]
theorem class_none : ∀ c : Fin 256, okL c.val = (classP c.val).isSome := by decide +kernel
def HeadR (low : Nat) (tv iv : Value) : Prop := (iv = .int .i64 0 ∧ tv = .int .i64 (wantK low 0 : Nat)) ∨ (iv = .int .i64 1 ∧ tv = .int .i64 (wantK low 1 : Nat)) ∨ (iv = .int .i64 2 ∧ tv = .int .i64 (wantK low 2 : Nat)) ∨ (iv = .int .i64 3 ∧ tv = .int .i64 (wantK low 3 : Nat)) ∨ (iv = .int .i64 4 ∧ tv = .int .i64 (wantK low 4 : Nat)) ∨ (iv = .int .i64 5 ∧ tv = .int .i64 (wantK low 5 : Nat))
def setL (c : Nat) : Nat → Bool := if c = lowN c then kindP (wantK (lowN c) 5 : Nat) else notP (kindP (wantK (lowN c) 5 : Nat))
theorem class_some (c : Nat) (hc : c < 256) (h : okL c = true) : classP c = some (setL c) := by
  have hs := class_none ⟨c, hc⟩
  simp only [h] at hs
  unfold classP at hs ⊢
  have e : c = 115 ∨ c = 83 ∨ c = 100 ∨ c = 68 ∨ c = 108 ∨ c = 76 ∨ c = 99 ∨ c = 67 ∨ c = 109 ∨ c = 77 ∨ c = 117 ∨ c = 85 := by
    refine Decidable.byContradiction fun hn => ?_
    simp only [not_or] at hn
    simp [hn] at hs
  rcases e with rfl | rfl | rfl | rfl | rfl | rfl | rfl | rfl | rfl | rfl | rfl | rfl <;> rfl

set_option maxRecDepth 100000 in
set_option maxHeartbeats 4000000 in
theorem rclass_any (c : Nat) (w : World) (hc : c < 256) :
    Calls Tryd.prog 123 #[.int .u8 c] w fun e w' => (∃ p, (okL c = true → p = setL c) ∧ e = .returned (.tuple #[.agg (setC p).toArray, .bool (okL c)])) ∧ Below w.heap.size w w' := by
  have HA0 : Hid (SetIn (((w.alloc (.cells #[.int .u8 0, .int .u8 0, .int .u8 0, .int .u8 0, .int .u8 0, .int .u8 0, .int .u8 0, .int .u8 0, .int .u8 0, .int .u8 0, .int .u8 0, .int .u8 0, .int .u8 0, .int .u8 0, .int .u8 0, .int .u8 0, .int .u8 0, .int .u8 0, .int .u8 0, .int .u8 0, .int .u8 0, .int .u8 0, .int .u8 0, .int .u8 0, .int .u8 0, .int .u8 0, .int .u8 0, .int .u8 0, .int .u8 0, .int .u8 0, .int .u8 0, .int .u8 0] 24)).alloc (.cells #[.int .u8 0, .int .u8 0, .int .u8 0, .int .u8 0, .int .u8 0, .int .u8 0, .int .u8 0, .int .u8 0, .int .u8 0, .int .u8 0, .int .u8 0, .int .u8 0, .int .u8 0, .int .u8 0, .int .u8 0, .int .u8 0, .int .u8 0, .int .u8 0, .int .u8 0, .int .u8 0, .int .u8 0, .int .u8 0, .int .u8 0, .int .u8 0, .int .u8 0, .int .u8 0, .int .u8 0, .int .u8 0, .int .u8 0, .int .u8 0, .int .u8 0, .int .u8 0] 24)).alloc (.cells #[.int .i64 2, .int .i64 3, .int .i64 4, .int .i64 1, .int .i64 5] 3)) w.heap.size 24 noP) := ((zero_in w 24).keep (Below.heap_alloc _ _ _ (by simp))).keep (Below.heap_alloc _ _ _ (by simp; omega))
  have HS0 : Hid (SetIn (((w.alloc (.cells #[.int .u8 0, .int .u8 0, .int .u8 0, .int .u8 0, .int .u8 0, .int .u8 0, .int .u8 0, .int .u8 0, .int .u8 0, .int .u8 0, .int .u8 0, .int .u8 0, .int .u8 0, .int .u8 0, .int .u8 0, .int .u8 0, .int .u8 0, .int .u8 0, .int .u8 0, .int .u8 0, .int .u8 0, .int .u8 0, .int .u8 0, .int .u8 0, .int .u8 0, .int .u8 0, .int .u8 0, .int .u8 0, .int .u8 0, .int .u8 0, .int .u8 0, .int .u8 0] 24)).alloc (.cells #[.int .u8 0, .int .u8 0, .int .u8 0, .int .u8 0, .int .u8 0, .int .u8 0, .int .u8 0, .int .u8 0, .int .u8 0, .int .u8 0, .int .u8 0, .int .u8 0, .int .u8 0, .int .u8 0, .int .u8 0, .int .u8 0, .int .u8 0, .int .u8 0, .int .u8 0, .int .u8 0, .int .u8 0, .int .u8 0, .int .u8 0, .int .u8 0, .int .u8 0, .int .u8 0, .int .u8 0, .int .u8 0, .int .u8 0, .int .u8 0, .int .u8 0, .int .u8 0] 24)).alloc (.cells #[.int .i64 2, .int .i64 3, .int .i64 4, .int .i64 1, .int .i64 5] 3)) (w.heap.size + 1) 24 noP) := by
    have h := zero_in (w.alloc (.cells #[.int .u8 0, .int .u8 0, .int .u8 0, .int .u8 0, .int .u8 0, .int .u8 0, .int .u8 0, .int .u8 0, .int .u8 0, .int .u8 0, .int .u8 0, .int .u8 0, .int .u8 0, .int .u8 0, .int .u8 0, .int .u8 0, .int .u8 0, .int .u8 0, .int .u8 0, .int .u8 0, .int .u8 0, .int .u8 0, .int .u8 0, .int .u8 0, .int .u8 0, .int .u8 0, .int .u8 0, .int .u8 0, .int .u8 0, .int .u8 0, .int .u8 0, .int .u8 0] 24)) 24
    rw [show (w.alloc (.cells #[.int .u8 0, .int .u8 0, .int .u8 0, .int .u8 0, .int .u8 0, .int .u8 0, .int .u8 0, .int .u8 0, .int .u8 0, .int .u8 0, .int .u8 0, .int .u8 0, .int .u8 0, .int .u8 0, .int .u8 0, .int .u8 0, .int .u8 0, .int .u8 0, .int .u8 0, .int .u8 0, .int .u8 0, .int .u8 0, .int .u8 0, .int .u8 0, .int .u8 0, .int .u8 0, .int .u8 0, .int .u8 0, .int .u8 0, .int .u8 0, .int .u8 0, .int .u8 0] 24)).heap.size = w.heap.size + 1 by simp] at h
    exact h.keep (Below.heap_alloc _ _ _ (by simp))
  have HB0 := Lib.hid ((((Below.refl w.heap.size w).alloc (Nat.le_refl _) (.cells #[.int .u8 0, .int .u8 0, .int .u8 0, .int .u8 0, .int .u8 0, .int .u8 0, .int .u8 0, .int .u8 0, .int .u8 0, .int .u8 0, .int .u8 0, .int .u8 0, .int .u8 0, .int .u8 0, .int .u8 0, .int .u8 0, .int .u8 0, .int .u8 0, .int .u8 0, .int .u8 0, .int .u8 0, .int .u8 0, .int .u8 0, .int .u8 0, .int .u8 0, .int .u8 0, .int .u8 0, .int .u8 0, .int .u8 0, .int .u8 0, .int .u8 0, .int .u8 0] 24)).alloc (by simp) (.cells #[.int .u8 0, .int .u8 0, .int .u8 0, .int .u8 0, .int .u8 0, .int .u8 0, .int .u8 0, .int .u8 0, .int .u8 0, .int .u8 0, .int .u8 0, .int .u8 0, .int .u8 0, .int .u8 0, .int .u8 0, .int .u8 0, .int .u8 0, .int .u8 0, .int .u8 0, .int .u8 0, .int .u8 0, .int .u8 0, .int .u8 0, .int .u8 0, .int .u8 0, .int .u8 0, .int .u8 0, .int .u8 0, .int .u8 0, .int .u8 0, .int .u8 0, .int .u8 0] 24)).alloc (by simp; omega) (.cells #[.int .i64 2, .int .i64 3, .int .i64 4, .int .i64 1, .int .i64 5] 3))
  have HK0 : Hid ((((w.alloc (.cells #[.int .u8 0, .int .u8 0, .int .u8 0, .int .u8 0, .int .u8 0, .int .u8 0, .int .u8 0, .int .u8 0, .int .u8 0, .int .u8 0, .int .u8 0, .int .u8 0, .int .u8 0, .int .u8 0, .int .u8 0, .int .u8 0, .int .u8 0, .int .u8 0, .int .u8 0, .int .u8 0, .int .u8 0, .int .u8 0, .int .u8 0, .int .u8 0, .int .u8 0, .int .u8 0, .int .u8 0, .int .u8 0, .int .u8 0, .int .u8 0, .int .u8 0, .int .u8 0] 24)).alloc (.cells #[.int .u8 0, .int .u8 0, .int .u8 0, .int .u8 0, .int .u8 0, .int .u8 0, .int .u8 0, .int .u8 0, .int .u8 0, .int .u8 0, .int .u8 0, .int .u8 0, .int .u8 0, .int .u8 0, .int .u8 0, .int .u8 0, .int .u8 0, .int .u8 0, .int .u8 0, .int .u8 0, .int .u8 0, .int .u8 0, .int .u8 0, .int .u8 0, .int .u8 0, .int .u8 0, .int .u8 0, .int .u8 0, .int .u8 0, .int .u8 0, .int .u8 0, .int .u8 0] 24)).alloc (.cells #[.int .i64 2, .int .i64 3, .int .i64 4, .int .i64 1, .int .i64 5] 3)).heap[w.heap.size + 2]? = some (.cells #[.int .i64 2, .int .i64 3, .int .i64 4, .int .i64 1, .int .i64 5] 3)) := by
    have h := heap_alloc_new ((w.alloc (.cells #[.int .u8 0, .int .u8 0, .int .u8 0, .int .u8 0, .int .u8 0, .int .u8 0, .int .u8 0, .int .u8 0, .int .u8 0, .int .u8 0, .int .u8 0, .int .u8 0, .int .u8 0, .int .u8 0, .int .u8 0, .int .u8 0, .int .u8 0, .int .u8 0, .int .u8 0, .int .u8 0, .int .u8 0, .int .u8 0, .int .u8 0, .int .u8 0, .int .u8 0, .int .u8 0, .int .u8 0, .int .u8 0, .int .u8 0, .int .u8 0, .int .u8 0, .int .u8 0] 24)).alloc (.cells #[.int .u8 0, .int .u8 0, .int .u8 0, .int .u8 0, .int .u8 0, .int .u8 0, .int .u8 0, .int .u8 0, .int .u8 0, .int .u8 0, .int .u8 0, .int .u8 0, .int .u8 0, .int .u8 0, .int .u8 0, .int .u8 0, .int .u8 0, .int .u8 0, .int .u8 0, .int .u8 0, .int .u8 0, .int .u8 0, .int .u8 0, .int .u8 0, .int .u8 0, .int .u8 0, .int .u8 0, .int .u8 0, .int .u8 0, .int .u8 0, .int .u8 0, .int .u8 0] 24)) (.cells #[.int .i64 2, .int .i64 3, .int .i64 4, .int .i64 1, .int .i64 5] 3)
    rw [show ((w.alloc (.cells #[.int .u8 0, .int .u8 0, .int .u8 0, .int .u8 0, .int .u8 0, .int .u8 0, .int .u8 0, .int .u8 0, .int .u8 0, .int .u8 0, .int .u8 0, .int .u8 0, .int .u8 0, .int .u8 0, .int .u8 0, .int .u8 0, .int .u8 0, .int .u8 0, .int .u8 0, .int .u8 0, .int .u8 0, .int .u8 0, .int .u8 0, .int .u8 0, .int .u8 0, .int .u8 0, .int .u8 0, .int .u8 0, .int .u8 0, .int .u8 0, .int .u8 0, .int .u8 0] 24)).alloc (.cells #[.int .u8 0, .int .u8 0, .int .u8 0, .int .u8 0, .int .u8 0, .int .u8 0, .int .u8 0, .int .u8 0, .int .u8 0, .int .u8 0, .int .u8 0, .int .u8 0, .int .u8 0, .int .u8 0, .int .u8 0, .int .u8 0, .int .u8 0, .int .u8 0, .int .u8 0, .int .u8 0, .int .u8 0, .int .u8 0, .int .u8 0, .int .u8 0, .int .u8 0, .int .u8 0, .int .u8 0, .int .u8 0, .int .u8 0, .int .u8 0, .int .u8 0, .int .u8 0] 24)).heap.size = w.heap.size + 2 by simp] at h
    exact h
  go_enter Tryd.func123, Tryd.ntmps123
  by_cases hup : 65 ≤ c ∧ c ≤ 90
  · have hu1 : (65 : Int) ≤ (c : Int) := by omega
    have hu2 : (c : Int) ≤ 90 := by omega
    obtain ⟨low, HL⟩ : ∃ low, Hid (low = lowN c) := ⟨_, rfl⟩
    have hl1 : low < c + 33 := by have := HL.out; unfold lowN at this; rw [if_pos hup] at this; omega
    have hl2 : c + 32 ≤ low := by have := HL.out; unfold lowN at this; rw [if_pos hup] at this; omega
    have tcl : ((c : Int) == (low : Int)) = false := beq_eq_false_iff_ne.2 (by omega)
    clear hup
    go_wp2_with fail
    rw [show (c : Int) + 32 = (low : Int) by omega]
    generalize ((w.alloc (.cells #[.int .u8 0, .int .u8 0, .int .u8 0, .int .u8 0, .int .u8 0, .int .u8 0, .int .u8 0, .int .u8 0, .int .u8 0, .int .u8 0, .int .u8 0, .int .u8 0, .int .u8 0, .int .u8 0, .int .u8 0, .int .u8 0, .int .u8 0, .int .u8 0, .int .u8 0, .int .u8 0, .int .u8 0, .int .u8 0, .int .u8 0, .int .u8 0, .int .u8 0, .int .u8 0, .int .u8 0, .int .u8 0, .int .u8 0, .int .u8 0, .int .u8 0, .int .u8 0] 24)).alloc (.cells #[.int .u8 0, .int .u8 0, .int .u8 0, .int .u8 0, .int .u8 0, .int .u8 0, .int .u8 0, .int .u8 0, .int .u8 0, .int .u8 0, .int .u8 0, .int .u8 0, .int .u8 0, .int .u8 0, .int .u8 0, .int .u8 0, .int .u8 0, .int .u8 0, .int .u8 0, .int .u8 0, .int .u8 0, .int .u8 0, .int .u8 0, .int .u8 0, .int .u8 0, .int .u8 0, .int .u8 0, .int .u8 0, .int .u8 0, .int .u8 0, .int .u8 0, .int .u8 0] 24)).alloc (.cells #[.int .i64 2, .int .i64 3, .int .i64 4, .int .i64 1, .int .i64 5] 3) = w1 at HA0 HS0 HB0 HK0
    have q0 : w1.cell? ⟨w.heap.size + 2, 0, none⟩ = some (.int .i64 2) := by rw [cell_of_row _ _ _ _ _ _ HK0.out]; rfl
    have q1 : w1.cell? ⟨w.heap.size + 2, 1, none⟩ = some (.int .i64 3) := by rw [cell_of_row _ _ _ _ _ _ HK0.out]; rfl
    have q2 : w1.cell? ⟨w.heap.size + 2, 2, none⟩ = some (.int .i64 4) := by rw [cell_of_row _ _ _ _ _ _ HK0.out]; rfl
    have q3 : w1.cell? ⟨w.heap.size + 2, 3, none⟩ = some (.int .i64 1) := by rw [cell_of_row _ _ _ _ _ _ HK0.out]; rfl
    have q4 : w1.cell? ⟨w.heap.size + 2, 4, none⟩ = some (.int .i64 5) := by rw [cell_of_row _ _ _ _ _ _ HK0.out]; rfl
    have kb0 : ∀ h, ((⟨#[115, 100, 108, 99, 109]⟩ : ByteArray)[0]'h).toNat = 115 := fun _ => rfl
    have kb1 : ∀ h, ((⟨#[115, 100, 108, 99, 109]⟩ : ByteArray)[1]'h).toNat = 100 := fun _ => rfl
    have kb2 : ∀ h, ((⟨#[115, 100, 108, 99, 109]⟩ : ByteArray)[2]'h).toNat = 108 := fun _ => rfl
    have kb3 : ∀ h, ((⟨#[115, 100, 108, 99, 109]⟩ : ByteArray)[3]'h).toNat = 99 := fun _ => rfl
    have kb4 : ∀ h, ((⟨#[115, 100, 108, 99, 109]⟩ : ByteArray)[4]'h).toNat = 109 := fun _ => rfl
    clear HK0
    go_loop [7, 23] (fun tv iv => HeadR low tv iv) (fun _ iv => 5 - (intOf iv).toNat)
    case atStart => exact .inl ⟨rfl, rfl⟩
    case round =>
      unfold HeadR at hrel
      rcases hrel with ⟨rfl, rfl⟩ | ⟨rfl, rfl⟩ | ⟨rfl, rfl⟩ | ⟨rfl, rfl⟩ | ⟨rfl, rfl⟩ | ⟨rfl, rfl⟩
      · by_cases hl : low = 115
        · have tl : ((115 : Int) == (low : Int)) = true := beq_iff_eq.2 (by omega)
          have HE := Lib.hid (wantK_hit0 low hl)
          clear hl
          go_wp2_with fail
          exact ⟨.inr (.inl ⟨rfl, by rw [HE.out]; rfl⟩), by simp [intOf]⟩
        · have tl : ((115 : Int) == (low : Int)) = false := beq_eq_false_iff_ne.2 (by omega)
          have HE := Lib.hid (wantK_miss0 low hl)
          clear hl
          go_wp2_with fail
          exact ⟨.inr (.inl ⟨rfl, by rw [HE.out]⟩), by simp [intOf]⟩
      · by_cases hl : low = 100
        · have tl : ((100 : Int) == (low : Int)) = true := beq_iff_eq.2 (by omega)
          have HE := Lib.hid (wantK_hit1 low hl)
          clear hl
          go_wp2_with fail
          exact ⟨.inr (.inr (.inl ⟨rfl, by rw [HE.out]; rfl⟩)), by simp [intOf]⟩
        · have tl : ((100 : Int) == (low : Int)) = false := beq_eq_false_iff_ne.2 (by omega)
          have HE := Lib.hid (wantK_miss1 low hl)
          clear hl
          go_wp2_with fail
          exact ⟨.inr (.inr (.inl ⟨rfl, by rw [HE.out]⟩)), by simp [intOf]⟩
      · by_cases hl : low = 108
        · have tl : ((108 : Int) == (low : Int)) = true := beq_iff_eq.2 (by omega)
          have HE := Lib.hid (wantK_hit2 low hl)
          clear hl
          go_wp2_with fail
          exact ⟨.inr (.inr (.inr (.inl ⟨rfl, by rw [HE.out]; rfl⟩))), by simp [intOf]⟩
        · have tl : ((108 : Int) == (low : Int)) = false := beq_eq_false_iff_ne.2 (by omega)
          have HE := Lib.hid (wantK_miss2 low hl)
          clear hl
          go_wp2_with fail
          exact ⟨.inr (.inr (.inr (.inl ⟨rfl, by rw [HE.out]⟩))), by simp [intOf]⟩
      · by_cases hl : low = 99
        · have tl : ((99 : Int) == (low : Int)) = true := beq_iff_eq.2 (by omega)
          have HE := Lib.hid (wantK_hit3 low hl)
          clear hl
          go_wp2_with fail
          exact ⟨.inr (.inr (.inr (.inr (.inl ⟨rfl, by rw [HE.out]; rfl⟩)))), by simp [intOf]⟩
        · have tl : ((99 : Int) == (low : Int)) = false := beq_eq_false_iff_ne.2 (by omega)
          have HE := Lib.hid (wantK_miss3 low hl)
          clear hl
          go_wp2_with fail
          exact ⟨.inr (.inr (.inr (.inr (.inl ⟨rfl, by rw [HE.out]⟩)))), by simp [intOf]⟩
      · by_cases hl : low = 109
        · have tl : ((109 : Int) == (low : Int)) = true := beq_iff_eq.2 (by omega)
          have HE := Lib.hid (wantK_hit4 low hl)
          clear hl
          go_wp2_with fail
          exact ⟨.inr (.inr (.inr (.inr (.inr (⟨rfl, by rw [HE.out]; rfl⟩))))), by simp [intOf]⟩
        · have tl : ((109 : Int) == (low : Int)) = false := beq_eq_false_iff_ne.2 (by omega)
          have HE := Lib.hid (wantK_miss4 low hl)
          clear hl
          go_wp2_with fail
          exact ⟨.inr (.inr (.inr (.inr (.inr (⟨rfl, by rw [HE.out]⟩))))), by simp [intOf]⟩
      · skip
        obtain ⟨want, HW⟩ : ∃ n, Hid (n = wantK low 5) := ⟨_, rfl⟩
        rw [← HW.out]
        have hw5 : want < 6 := by have := HW.out; have := wantK_lt low 5; omega
        by_cases hz : want = 0
        · have tz : ((want : Int) == 0) = true := beq_iff_eq.2 (by omega)
          have tn : ((want : Int) != 0) = false := bne_eq_false_iff_eq.2 (by omega)
          by_cases h117 : low = 117
          · have t117 : ((low : Int) != 117) = false := bne_eq_false_iff_eq.2 (by omega)
            have HP : Hid (∀ k, setL c k = notP (kindP (want : Int)) k) := fun k => by
              unfold setL
              rw [← HL.out, ← HW.out]
              rw [if_neg (by omega)]
            have HOK : Hid (okL c = true) := by
              show _ = _
              unfold okL
              rw [← HL.out, ← HW.out]
              rw [hz]; simp [h117]
            have hz1 : want < 1 := by omega
            clear hz
            clear h117
            have HU : Hid (SetIn w1 (w.heap.size + 1) 24 (uptoP (setL c) 0)) := HS0.out.congr (upto_zero _)
            go_wp2_with fail
            go_loopw [10] (fun kv wr => ∃ k : Nat, k ≤ 256 ∧ kv = .int .i64 k ∧ Hid (SetIn wr w.heap.size 24 noP) ∧ Hid (SetIn wr (w.heap.size + 1) 24 (uptoP (setL c) k)) ∧ Hid (Below w.heap.size w wr)) (fun kv _ => 256 - (intOf kv).toNat)
            case atStart => exact ⟨0, by omega, rfl, HA0.out, HU.out, HB0.out⟩
            case round =>
              clear HA0 HS0 HU HB0 q0 q1 q2 q3 q4
              obtain ⟨k, hk, rfl, HA, HS, HB⟩ := hrel
              by_cases hkl : k < 256
              · have ec : IntKind.u8.wrap (k : Int) = (k : Int) := by rw [IntKind.wrap_u8]; omega
                by_cases h65 : 65 ≤ k
                · have h65i : (65 : Int) ≤ (k : Int) := by omega
                  by_cases h90 : k ≤ 90
                  · have h90i : (k : Int) ≤ 90 := by omega
                    have hkp : kindP (want : Int) k = true := by unfold kindP; rw [if_pos (by omega)]; exact decide_eq_true ⟨h65, h90⟩
                    have hp : setL c k = false := by rw [HP.out]; unfold notP; rw [hkp]; rfl
                    have HS2 := Lib.hid (HS.out.congr (upto_out _ k hp))
                    go_wp2_with (go_at_call 99; refine (cls_any _ _ (by omega) (by omega)).mono ?_; rintro e w' ⟨rfl, rfl⟩)
                    exact ⟨⟨k + 1, by omega, by go_num, HA.out, HS2.out, HB.out⟩, by simp [intOf]; try omega⟩
                  · have h90i : ¬ (k : Int) ≤ 90 := by omega
                    have hkp : kindP (want : Int) k = false := by unfold kindP; rw [if_pos (by omega)]; exact decide_eq_false (fun h => h90 h.2)
                    have hp : setL c k = true := by rw [HP.out]; unfold notP; rw [hkp]; rfl
                    go_wp2_with (first
                      | (go_at_call 99; refine (cls_any _ _ (by omega) (by omega)).mono ?_; rintro e w' ⟨rfl, rfl⟩)
                      | (go_at_call 124; refine (put_any _ (w.heap.size + 1) k _ _ (by exact HS.out) hkl).mono ?_; rintro e w2 ⟨rfl, hs2, ho2⟩))
                    have HS2 := Lib.hid (hs2.congr (upto_in _ k hp))
                    have HA2 := Lib.hid (HA.out.keep (ho2.block _ HA.out.lt (by omega)))
                    have HB2 := Lib.hid (HB.out.trans (ho2.below (B := w.heap.size) (Nat.le_succ _) HB.out.size))
                    exact ⟨⟨k + 1, by omega, by go_num, HA2.out, HS2.out, HB2.out⟩, by simp [intOf]; try omega⟩
                · have h65i : ¬ (65 : Int) ≤ (k : Int) := by omega
                  have hkp : kindP (want : Int) k = false := by unfold kindP; rw [if_pos (by omega)]; exact decide_eq_false (fun h => h65 h.1)
                  have hp : setL c k = true := by rw [HP.out]; unfold notP; rw [hkp]; rfl
                  go_wp2_with (first
                    | (go_at_call 99; refine (cls_any _ _ (by omega) (by omega)).mono ?_; rintro e w' ⟨rfl, rfl⟩)
                    | (go_at_call 124; refine (put_any _ (w.heap.size + 1) k _ _ (by exact HS.out) hkl).mono ?_; rintro e w2 ⟨rfl, hs2, ho2⟩))
                  have HS2 := Lib.hid (hs2.congr (upto_in _ k hp))
                  have HA2 := Lib.hid (HA.out.keep (ho2.block _ HA.out.lt (by omega)))
                  have HB2 := Lib.hid (HB.out.trans (ho2.below (B := w.heap.size) (Nat.le_succ _) HB.out.size))
                  exact ⟨⟨k + 1, by omega, by go_num, HA2.out, HS2.out, HB2.out⟩, by simp [intOf]; try omega⟩
              · obtain rfl : k = 256 := by omega
                have HS2 : Hid (SetIn wr (w.heap.size + 1) 24 (setL c)) := HS.out.congr (upto_all _)
                go_wp2_with (first
                  | (refine wpList_load_row rfl 24 (.tmp 4) rfl ((w.heap.size + 1)) rfl 24 (setC (setL c)).toArray (0, 0) _ HS2.out Tryd.underlying24 rfl (by rw [rset_size, setC_size]) ?_)
                  | (refine wpList_store_row rfl 24 (.tmp 2) (.tmp 75) rfl (w.heap.size) (setC (setL c)).toArray rfl rfl 24 (setC noP).toArray HA.out (by rw [rset_size, setC_size]) (by simp only [setC_size]) (setC_one _) ?_))
                exact bodyPost_ret (v := .tuple #[.agg (setC (setL c)).toArray, .bool true]) (rres_set_tmp Tryd.results123 _ _ w.heap.size 24 (setL c) _ rfl rfl (HA.out.row (setL c))) rfl ⟨⟨setL c, fun _ => rfl, by rw [HOK.out]⟩, below_setRow HB.out (Nat.le_refl _) _⟩
          · have t117 : ((low : Int) != 117) = true := bne_iff_ne.2 (by omega)
            have HOK : Hid (okL c = false) := by
              show _ = _
              unfold okL
              rw [← HL.out, ← HW.out, hz]
              simp [h117]
            clear hz
            go_wp2_with (first
              | (refine wpList_load_row rfl 24 (.tmp 4) rfl ((w.heap.size + 1)) rfl 24 (setC noP).toArray (0, 0) _ HS0.out Tryd.underlying24 rfl (by rw [rset_size, setC_size]) ?_)
              | (refine wpList_store_row rfl 24 (.tmp 2) (.tmp 41) rfl (w.heap.size) (setC noP).toArray rfl rfl 24 (setC noP).toArray HA0.out (by rw [rset_size, setC_size]) (by simp only [setC_size]) (setC_one _) ?_))
            exact bodyPost_ret (v := .tuple #[.agg (setC noP).toArray, .bool false]) (rres_set_tmp Tryd.results123 _ _ w.heap.size 24 noP _ rfl rfl (HA0.out.row noP)) rfl ⟨⟨noP, fun h => by rw [HOK.out] at h; exact absurd h Bool.false_ne_true, by rw [HOK.out]⟩, below_setRow HB0.out (Nat.le_refl _) _⟩
        · have tz : ((want : Int) == 0) = false := beq_eq_false_iff_ne.2 (by omega)
          have tn : ((want : Int) != 0) = true := bne_iff_ne.2 (by omega)
          have HP : Hid (∀ k, setL c k = notP (kindP (want : Int)) k) := fun k => by
            unfold setL
            rw [← HL.out, ← HW.out]
            rw [if_neg (by omega)]
          have HOK : Hid (okL c = true) := by
            show _ = _
            unfold okL
            rw [← HL.out, ← HW.out]
            simp [hz]
          have hz1 : 0 < want := by omega
          clear hz
          skip
          have HU : Hid (SetIn w1 (w.heap.size + 1) 24 (uptoP (setL c) 0)) := HS0.out.congr (upto_zero _)
          go_wp2_with fail
          go_loopw [10] (fun kv wr => ∃ k : Nat, k ≤ 256 ∧ kv = .int .i64 k ∧ Hid (SetIn wr w.heap.size 24 noP) ∧ Hid (SetIn wr (w.heap.size + 1) 24 (uptoP (setL c) k)) ∧ Hid (Below w.heap.size w wr)) (fun kv _ => 256 - (intOf kv).toNat)
          case atStart => exact ⟨0, by omega, rfl, HA0.out, HU.out, HB0.out⟩
          case round =>
            clear HA0 HS0 HU HB0 q0 q1 q2 q3 q4
            obtain ⟨k, hk, rfl, HA, HS, HB⟩ := hrel
            by_cases hkl : k < 256
            · have ec : IntKind.u8.wrap (k : Int) = (k : Int) := by rw [IntKind.wrap_u8]; omega
              by_cases hcl : clsN (k : Int) = (want : Int)
              · have tcl : (clsN (k : Int) == (want : Int)) = true := beq_iff_eq.2 hcl
                have hkp : kindP (want : Int) k = true := by unfold kindP; rw [if_neg (by omega)]; exact decide_eq_true hcl
                clear hcl
                have hp : setL c k = false := by rw [HP.out]; unfold notP; rw [hkp]; rfl
                have HS2 := Lib.hid (HS.out.congr (upto_out _ k hp))
                go_wp2_with (go_at_call 99; refine (cls_any _ _ (by omega) (by omega)).mono ?_; rintro e w' ⟨rfl, rfl⟩)
                exact ⟨⟨k + 1, by omega, by go_num, HA.out, HS2.out, HB.out⟩, by simp [intOf]; try omega⟩
              · have tcl : (clsN (k : Int) == (want : Int)) = false := beq_eq_false_iff_ne.2 hcl
                have hkp : kindP (want : Int) k = false := by unfold kindP; rw [if_neg (by omega)]; exact decide_eq_false hcl
                clear hcl
                have hp : setL c k = true := by rw [HP.out]; unfold notP; rw [hkp]; rfl
                go_wp2_with (first
                  | (go_at_call 99; refine (cls_any _ _ (by omega) (by omega)).mono ?_; rintro e w' ⟨rfl, rfl⟩)
                  | (go_at_call 124; refine (put_any _ (w.heap.size + 1) k _ _ (by exact HS.out) hkl).mono ?_; rintro e w2 ⟨rfl, hs2, ho2⟩))
                have HS2 := Lib.hid (hs2.congr (upto_in _ k hp))
                have HA2 := Lib.hid (HA.out.keep (ho2.block _ HA.out.lt (by omega)))
                have HB2 := Lib.hid (HB.out.trans (ho2.below (B := w.heap.size) (Nat.le_succ _) HB.out.size))
                exact ⟨⟨k + 1, by omega, by go_num, HA2.out, HS2.out, HB2.out⟩, by simp [intOf]; try omega⟩
            · obtain rfl : k = 256 := by omega
              have HS2 : Hid (SetIn wr (w.heap.size + 1) 24 (setL c)) := HS.out.congr (upto_all _)
              go_wp2_with (first
                | (refine wpList_load_row rfl 24 (.tmp 4) rfl ((w.heap.size + 1)) rfl 24 (setC (setL c)).toArray (0, 0) _ HS2.out Tryd.underlying24 rfl (by rw [rset_size, setC_size]) ?_)
                | (refine wpList_store_row rfl 24 (.tmp 2) (.tmp 75) rfl (w.heap.size) (setC (setL c)).toArray rfl rfl 24 (setC noP).toArray HA.out (by rw [rset_size, setC_size]) (by simp only [setC_size]) (setC_one _) ?_))
              exact bodyPost_ret (v := .tuple #[.agg (setC (setL c)).toArray, .bool true]) (rres_set_tmp Tryd.results123 _ _ w.heap.size 24 (setL c) _ rfl rfl (HA.out.row (setL c))) rfl ⟨⟨setL c, fun _ => rfl, by rw [HOK.out]⟩, below_setRow HB.out (Nat.le_refl _) _⟩
  · have HL : Hid (c = lowN c) := by show _ = _; unfold lowN; rw [if_neg hup]
    have hu3 : ((65 : Int) ≤ (c : Int)) ∧ ¬ ((c : Int) ≤ 90) ∨ ¬ ((65 : Int) ≤ (c : Int)) := by omega
    clear hup
    rcases hu3 with ⟨hu1, hu2⟩ | hu1
    all_goals
      go_wp2_with fail
      skip
      generalize ((w.alloc (.cells #[.int .u8 0, .int .u8 0, .int .u8 0, .int .u8 0, .int .u8 0, .int .u8 0, .int .u8 0, .int .u8 0, .int .u8 0, .int .u8 0, .int .u8 0, .int .u8 0, .int .u8 0, .int .u8 0, .int .u8 0, .int .u8 0, .int .u8 0, .int .u8 0, .int .u8 0, .int .u8 0, .int .u8 0, .int .u8 0, .int .u8 0, .int .u8 0, .int .u8 0, .int .u8 0, .int .u8 0, .int .u8 0, .int .u8 0, .int .u8 0, .int .u8 0, .int .u8 0] 24)).alloc (.cells #[.int .u8 0, .int .u8 0, .int .u8 0, .int .u8 0, .int .u8 0, .int .u8 0, .int .u8 0, .int .u8 0, .int .u8 0, .int .u8 0, .int .u8 0, .int .u8 0, .int .u8 0, .int .u8 0, .int .u8 0, .int .u8 0, .int .u8 0, .int .u8 0, .int .u8 0, .int .u8 0, .int .u8 0, .int .u8 0, .int .u8 0, .int .u8 0, .int .u8 0, .int .u8 0, .int .u8 0, .int .u8 0, .int .u8 0, .int .u8 0, .int .u8 0, .int .u8 0] 24)).alloc (.cells #[.int .i64 2, .int .i64 3, .int .i64 4, .int .i64 1, .int .i64 5] 3) = w1 at HA0 HS0 HB0 HK0
      have q0 : w1.cell? ⟨w.heap.size + 2, 0, none⟩ = some (.int .i64 2) := by rw [cell_of_row _ _ _ _ _ _ HK0.out]; rfl
      have q1 : w1.cell? ⟨w.heap.size + 2, 1, none⟩ = some (.int .i64 3) := by rw [cell_of_row _ _ _ _ _ _ HK0.out]; rfl
      have q2 : w1.cell? ⟨w.heap.size + 2, 2, none⟩ = some (.int .i64 4) := by rw [cell_of_row _ _ _ _ _ _ HK0.out]; rfl
      have q3 : w1.cell? ⟨w.heap.size + 2, 3, none⟩ = some (.int .i64 1) := by rw [cell_of_row _ _ _ _ _ _ HK0.out]; rfl
      have q4 : w1.cell? ⟨w.heap.size + 2, 4, none⟩ = some (.int .i64 5) := by rw [cell_of_row _ _ _ _ _ _ HK0.out]; rfl
      have kb0 : ∀ h, ((⟨#[115, 100, 108, 99, 109]⟩ : ByteArray)[0]'h).toNat = 115 := fun _ => rfl
      have kb1 : ∀ h, ((⟨#[115, 100, 108, 99, 109]⟩ : ByteArray)[1]'h).toNat = 100 := fun _ => rfl
      have kb2 : ∀ h, ((⟨#[115, 100, 108, 99, 109]⟩ : ByteArray)[2]'h).toNat = 108 := fun _ => rfl
      have kb3 : ∀ h, ((⟨#[115, 100, 108, 99, 109]⟩ : ByteArray)[3]'h).toNat = 99 := fun _ => rfl
      have kb4 : ∀ h, ((⟨#[115, 100, 108, 99, 109]⟩ : ByteArray)[4]'h).toNat = 109 := fun _ => rfl
      clear HK0
      go_loop [7, 23] (fun tv iv => HeadR c tv iv) (fun _ iv => 5 - (intOf iv).toNat)
      case atStart => exact .inl ⟨rfl, rfl⟩
      case round =>
        unfold HeadR at hrel
        rcases hrel with ⟨rfl, rfl⟩ | ⟨rfl, rfl⟩ | ⟨rfl, rfl⟩ | ⟨rfl, rfl⟩ | ⟨rfl, rfl⟩ | ⟨rfl, rfl⟩
        · by_cases hl : c = 115
          · have tl : ((115 : Int) == (c : Int)) = true := beq_iff_eq.2 (by omega)
            have HE := Lib.hid (wantK_hit0 c hl)
            clear hl
            go_wp2_with fail
            exact ⟨.inr (.inl ⟨rfl, by rw [HE.out]; rfl⟩), by simp [intOf]⟩
          · have tl : ((115 : Int) == (c : Int)) = false := beq_eq_false_iff_ne.2 (by omega)
            have HE := Lib.hid (wantK_miss0 c hl)
            clear hl
            go_wp2_with fail
            exact ⟨.inr (.inl ⟨rfl, by rw [HE.out]⟩), by simp [intOf]⟩
        · by_cases hl : c = 100
          · have tl : ((100 : Int) == (c : Int)) = true := beq_iff_eq.2 (by omega)
            have HE := Lib.hid (wantK_hit1 c hl)
            clear hl
            go_wp2_with fail
            exact ⟨.inr (.inr (.inl ⟨rfl, by rw [HE.out]; rfl⟩)), by simp [intOf]⟩
          · have tl : ((100 : Int) == (c : Int)) = false := beq_eq_false_iff_ne.2 (by omega)
            have HE := Lib.hid (wantK_miss1 c hl)
            clear hl
            go_wp2_with fail
            exact ⟨.inr (.inr (.inl ⟨rfl, by rw [HE.out]⟩)), by simp [intOf]⟩
        · by_cases hl : c = 108
          · have tl : ((108 : Int) == (c : Int)) = true := beq_iff_eq.2 (by omega)
            have HE := Lib.hid (wantK_hit2 c hl)
            clear hl
            go_wp2_with fail
            exact ⟨.inr (.inr (.inr (.inl ⟨rfl, by rw [HE.out]; rfl⟩))), by simp [intOf]⟩
          · have tl : ((108 : Int) == (c : Int)) = false := beq_eq_false_iff_ne.2 (by omega)
            have HE := Lib.hid (wantK_miss2 c hl)
            clear hl
            go_wp2_with fail
            exact ⟨.inr (.inr (.inr (.inl ⟨rfl, by rw [HE.out]⟩))), by simp [intOf]⟩
        · by_cases hl : c = 99
          · have tl : ((99 : Int) == (c : Int)) = true := beq_iff_eq.2 (by omega)
            have HE := Lib.hid (wantK_hit3 c hl)
            clear hl
            go_wp2_with fail
            exact ⟨.inr (.inr (.inr (.inr (.inl ⟨rfl, by rw [HE.out]; rfl⟩)))), by simp [intOf]⟩
          · have tl : ((99 : Int) == (c : Int)) = false := beq_eq_false_iff_ne.2 (by omega)
            have HE := Lib.hid (wantK_miss3 c hl)
            clear hl
            go_wp2_with fail
            exact ⟨.inr (.inr (.inr (.inr (.inl ⟨rfl, by rw [HE.out]⟩)))), by simp [intOf]⟩
        · by_cases hl : c = 109
          · have tl : ((109 : Int) == (c : Int)) = true := beq_iff_eq.2 (by omega)
            have HE := Lib.hid (wantK_hit4 c hl)
            clear hl
            go_wp2_with fail
            exact ⟨.inr (.inr (.inr (.inr (.inr (⟨rfl, by rw [HE.out]; rfl⟩))))), by simp [intOf]⟩
          · have tl : ((109 : Int) == (c : Int)) = false := beq_eq_false_iff_ne.2 (by omega)
            have HE := Lib.hid (wantK_miss4 c hl)
            clear hl
            go_wp2_with fail
            exact ⟨.inr (.inr (.inr (.inr (.inr (⟨rfl, by rw [HE.out]⟩))))), by simp [intOf]⟩
        · skip
          obtain ⟨want, HW⟩ : ∃ n, Hid (n = wantK c 5) := ⟨_, rfl⟩
          rw [← HW.out]
          have hw5 : want < 6 := by have := HW.out; have := wantK_lt c 5; omega
          by_cases hz : want = 0
          · have tz : ((want : Int) == 0) = true := beq_iff_eq.2 (by omega)
            have tn : ((want : Int) != 0) = false := bne_eq_false_iff_eq.2 (by omega)
            by_cases h117 : c = 117
            · have t117 : ((c : Int) != 117) = false := bne_eq_false_iff_eq.2 (by omega)
              have HP : Hid (∀ k, setL c k = kindP (want : Int) k) := fun k => by
                unfold setL
                rw [← HL.out, ← HW.out]
                rw [if_pos rfl]
              have HOK : Hid (okL c = true) := by
                show _ = _
                unfold okL
                rw [← HL.out, ← HW.out]
                rw [hz]; simp [h117]
              have hz1 : want < 1 := by omega
              clear hz
              clear h117
              have HU : Hid (SetIn w1 (w.heap.size + 1) 24 (uptoP (setL c) 0)) := HS0.out.congr (upto_zero _)
              go_wp2_with fail
              go_loopw [10] (fun kv wr => ∃ k : Nat, k ≤ 256 ∧ kv = .int .i64 k ∧ Hid (SetIn wr w.heap.size 24 noP) ∧ Hid (SetIn wr (w.heap.size + 1) 24 (uptoP (setL c) k)) ∧ Hid (Below w.heap.size w wr)) (fun kv _ => 256 - (intOf kv).toNat)
              case atStart => exact ⟨0, by omega, rfl, HA0.out, HU.out, HB0.out⟩
              case round =>
                clear HA0 HS0 HU HB0 q0 q1 q2 q3 q4
                obtain ⟨k, hk, rfl, HA, HS, HB⟩ := hrel
                by_cases hkl : k < 256
                · have ec : IntKind.u8.wrap (k : Int) = (k : Int) := by rw [IntKind.wrap_u8]; omega
                  by_cases h65 : 65 ≤ k
                  · have h65i : (65 : Int) ≤ (k : Int) := by omega
                    by_cases h90 : k ≤ 90
                    · have h90i : (k : Int) ≤ 90 := by omega
                      have hkp : kindP (want : Int) k = true := by unfold kindP; rw [if_pos (by omega)]; exact decide_eq_true ⟨h65, h90⟩
                      have hp : setL c k = true := by rw [HP.out]; exact hkp
                      go_wp2_with (first
                        | (go_at_call 99; refine (cls_any _ _ (by omega) (by omega)).mono ?_; rintro e w' ⟨rfl, rfl⟩)
                        | (go_at_call 124; refine (put_any _ (w.heap.size + 1) k _ _ (by exact HS.out) hkl).mono ?_; rintro e w2 ⟨rfl, hs2, ho2⟩))
                      have HS2 := Lib.hid (hs2.congr (upto_in _ k hp))
                      have HA2 := Lib.hid (HA.out.keep (ho2.block _ HA.out.lt (by omega)))
                      have HB2 := Lib.hid (HB.out.trans (ho2.below (B := w.heap.size) (Nat.le_succ _) HB.out.size))
                      exact ⟨⟨k + 1, by omega, by go_num, HA2.out, HS2.out, HB2.out⟩, by simp [intOf]; try omega⟩
                    · have h90i : ¬ (k : Int) ≤ 90 := by omega
                      have hkp : kindP (want : Int) k = false := by unfold kindP; rw [if_pos (by omega)]; exact decide_eq_false (fun h => h90 h.2)
                      have hp : setL c k = false := by rw [HP.out]; exact hkp
                      have HS2 := Lib.hid (HS.out.congr (upto_out _ k hp))
                      go_wp2_with (go_at_call 99; refine (cls_any _ _ (by omega) (by omega)).mono ?_; rintro e w' ⟨rfl, rfl⟩)
                      exact ⟨⟨k + 1, by omega, by go_num, HA.out, HS2.out, HB.out⟩, by simp [intOf]; try omega⟩
                  · have h65i : ¬ (65 : Int) ≤ (k : Int) := by omega
                    have hkp : kindP (want : Int) k = false := by unfold kindP; rw [if_pos (by omega)]; exact decide_eq_false (fun h => h65 h.1)
                    have hp : setL c k = false := by rw [HP.out]; exact hkp
                    have HS2 := Lib.hid (HS.out.congr (upto_out _ k hp))
                    go_wp2_with (go_at_call 99; refine (cls_any _ _ (by omega) (by omega)).mono ?_; rintro e w' ⟨rfl, rfl⟩)
                    exact ⟨⟨k + 1, by omega, by go_num, HA.out, HS2.out, HB.out⟩, by simp [intOf]; try omega⟩
                · obtain rfl : k = 256 := by omega
                  have HS2 : Hid (SetIn wr (w.heap.size + 1) 24 (setL c)) := HS.out.congr (upto_all _)
                  go_wp2_with (first
                    | (refine wpList_load_row rfl 24 (.tmp 4) rfl ((w.heap.size + 1)) rfl 24 (setC (setL c)).toArray (0, 0) _ HS2.out Tryd.underlying24 rfl (by rw [rset_size, setC_size]) ?_)
                    | (refine wpList_store_row rfl 24 (.tmp 2) (.tmp 75) rfl (w.heap.size) (setC (setL c)).toArray rfl rfl 24 (setC noP).toArray HA.out (by rw [rset_size, setC_size]) (by simp only [setC_size]) (setC_one _) ?_))
                  exact bodyPost_ret (v := .tuple #[.agg (setC (setL c)).toArray, .bool true]) (rres_set_tmp Tryd.results123 _ _ w.heap.size 24 (setL c) _ rfl rfl (HA.out.row (setL c))) rfl ⟨⟨setL c, fun _ => rfl, by rw [HOK.out]⟩, below_setRow HB.out (Nat.le_refl _) _⟩
            · have t117 : ((c : Int) != 117) = true := bne_iff_ne.2 (by omega)
              have HOK : Hid (okL c = false) := by
                show _ = _
                unfold okL
                rw [← HL.out, ← HW.out, hz]
                simp [h117]
              clear hz
              go_wp2_with (first
                | (refine wpList_load_row rfl 24 (.tmp 4) rfl ((w.heap.size + 1)) rfl 24 (setC noP).toArray (0, 0) _ HS0.out Tryd.underlying24 rfl (by rw [rset_size, setC_size]) ?_)
                | (refine wpList_store_row rfl 24 (.tmp 2) (.tmp 41) rfl (w.heap.size) (setC noP).toArray rfl rfl 24 (setC noP).toArray HA0.out (by rw [rset_size, setC_size]) (by simp only [setC_size]) (setC_one _) ?_))
              exact bodyPost_ret (v := .tuple #[.agg (setC noP).toArray, .bool false]) (rres_set_tmp Tryd.results123 _ _ w.heap.size 24 noP _ rfl rfl (HA0.out.row noP)) rfl ⟨⟨noP, fun h => by rw [HOK.out] at h; exact absurd h Bool.false_ne_true, by rw [HOK.out]⟩, below_setRow HB0.out (Nat.le_refl _) _⟩
          · have tz : ((want : Int) == 0) = false := beq_eq_false_iff_ne.2 (by omega)
            have tn : ((want : Int) != 0) = true := bne_iff_ne.2 (by omega)
            have HP : Hid (∀ k, setL c k = kindP (want : Int) k) := fun k => by
              unfold setL
              rw [← HL.out, ← HW.out]
              rw [if_pos rfl]
            have HOK : Hid (okL c = true) := by
              show _ = _
              unfold okL
              rw [← HL.out, ← HW.out]
              simp [hz]
            have hz1 : 0 < want := by omega
            clear hz
            skip
            have HU : Hid (SetIn w1 (w.heap.size + 1) 24 (uptoP (setL c) 0)) := HS0.out.congr (upto_zero _)
            go_wp2_with fail
            go_loopw [10] (fun kv wr => ∃ k : Nat, k ≤ 256 ∧ kv = .int .i64 k ∧ Hid (SetIn wr w.heap.size 24 noP) ∧ Hid (SetIn wr (w.heap.size + 1) 24 (uptoP (setL c) k)) ∧ Hid (Below w.heap.size w wr)) (fun kv _ => 256 - (intOf kv).toNat)
            case atStart => exact ⟨0, by omega, rfl, HA0.out, HU.out, HB0.out⟩
            case round =>
              clear HA0 HS0 HU HB0 q0 q1 q2 q3 q4
              obtain ⟨k, hk, rfl, HA, HS, HB⟩ := hrel
              by_cases hkl : k < 256
              · have ec : IntKind.u8.wrap (k : Int) = (k : Int) := by rw [IntKind.wrap_u8]; omega
                by_cases hcl : clsN (k : Int) = (want : Int)
                · have tcl : (clsN (k : Int) == (want : Int)) = true := beq_iff_eq.2 hcl
                  have hkp : kindP (want : Int) k = true := by unfold kindP; rw [if_neg (by omega)]; exact decide_eq_true hcl
                  clear hcl
                  have hp : setL c k = true := by rw [HP.out]; exact hkp
                  go_wp2_with (first
                    | (go_at_call 99; refine (cls_any _ _ (by omega) (by omega)).mono ?_; rintro e w' ⟨rfl, rfl⟩)
                    | (go_at_call 124; refine (put_any _ (w.heap.size + 1) k _ _ (by exact HS.out) hkl).mono ?_; rintro e w2 ⟨rfl, hs2, ho2⟩))
                  have HS2 := Lib.hid (hs2.congr (upto_in _ k hp))
                  have HA2 := Lib.hid (HA.out.keep (ho2.block _ HA.out.lt (by omega)))
                  have HB2 := Lib.hid (HB.out.trans (ho2.below (B := w.heap.size) (Nat.le_succ _) HB.out.size))
                  exact ⟨⟨k + 1, by omega, by go_num, HA2.out, HS2.out, HB2.out⟩, by simp [intOf]; try omega⟩
                · have tcl : (clsN (k : Int) == (want : Int)) = false := beq_eq_false_iff_ne.2 hcl
                  have hkp : kindP (want : Int) k = false := by unfold kindP; rw [if_neg (by omega)]; exact decide_eq_false hcl
                  clear hcl
                  have hp : setL c k = false := by rw [HP.out]; exact hkp
                  have HS2 := Lib.hid (HS.out.congr (upto_out _ k hp))
                  go_wp2_with (go_at_call 99; refine (cls_any _ _ (by omega) (by omega)).mono ?_; rintro e w' ⟨rfl, rfl⟩)
                  exact ⟨⟨k + 1, by omega, by go_num, HA.out, HS2.out, HB.out⟩, by simp [intOf]; try omega⟩
              · obtain rfl : k = 256 := by omega
                have HS2 : Hid (SetIn wr (w.heap.size + 1) 24 (setL c)) := HS.out.congr (upto_all _)
                go_wp2_with (first
                  | (refine wpList_load_row rfl 24 (.tmp 4) rfl ((w.heap.size + 1)) rfl 24 (setC (setL c)).toArray (0, 0) _ HS2.out Tryd.underlying24 rfl (by rw [rset_size, setC_size]) ?_)
                  | (refine wpList_store_row rfl 24 (.tmp 2) (.tmp 75) rfl (w.heap.size) (setC (setL c)).toArray rfl rfl 24 (setC noP).toArray HA.out (by rw [rset_size, setC_size]) (by simp only [setC_size]) (setC_one _) ?_))
                exact bodyPost_ret (v := .tuple #[.agg (setC (setL c)).toArray, .bool true]) (rres_set_tmp Tryd.results123 _ _ w.heap.size 24 (setL c) _ rfl rfl (HA.out.row (setL c))) rfl ⟨⟨setL c, fun _ => rfl, by rw [HOK.out]⟩, below_setRow HB.out (Nat.le_refl _) _⟩

def inSp (s : ByteArray) (b : Nat) : Bool := s.data.toList.any fun c => c.toNat == b
set_option maxRecDepth 100000 in
set_option maxHeartbeats 1000000 in
theorem in_any (s : ByteArray) (b : Nat) (w : World) (hs : s.size ≤ maxLen) :
    Calls Tryd.prog 135 #[.string s, .int .u8 b] w fun e w' => e = .returned (.bool (inSp s b)) ∧ w = w' := by
  unfold maxLen at hs
  go_enter Tryd.func135, Tryd.ntmps135
  go_wp2_with fail
  go_loop [5] (fun iv => ∃ k : Nat, k ≤ s.size ∧ iv = .int .i64 k ∧ Hid (∀ j, j < k → bt s j ≠ b)) (fun iv => s.size - (intOf iv).toNat)
  case atStart => exact ⟨0, by omega, rfl, fun j h => absurd h (Nat.not_lt_zero j)⟩
  case round =>
    obtain ⟨k, hk, rfl, HN⟩ := hrel
    by_cases hlt : k < s.size
    · by_cases hb : s[k].toNat = b
      · have tb : ((s[k].toNat : Int) == (b : Int)) = true := beq_iff_eq.2 (by omega)
        have HR : Hid ((inSp s b) = true) := by
          unfold inSp
          refine List.any_eq_true.2 ⟨s[k], ?_, by simpa using hb⟩
          rw [show s[k] = s.data.toList[k]'(by simpa using hlt) from rfl]
          exact List.getElem_mem _
        clear hb
        go_wp2_with fail
        go_ret
        exact ⟨ret_bool HR.out.symm, rfl⟩
      · have tb : ((s[k].toNat : Int) == (b : Int)) = false := beq_eq_false_iff_ne.2 (by omega)
        have HN2 : Hid (∀ j, j < k + 1 → bt s j ≠ b) := fun j hj => by
          by_cases hjk : j = k
          · subst hjk; rw [bt_get s j hlt]; exact hb
          · exact HN.out j (by omega)
        clear hb
        go_wp2_with fail
        exact ⟨⟨k + 1, by omega, by go_num, HN2.out⟩, by simp [intOf]; try omega⟩
    · have HR : Hid ((inSp s b) = false) := by
        unfold inSp
        refine List.any_eq_false.2 fun x hx => ?_
        obtain ⟨j, hj, rfl⟩ := List.mem_iff_getElem.1 hx
        have h1 : j < s.size := by simpa using hj
        have := HN.out j (by omega)
        rw [bt_get s j h1] at this
        simp only [beq_iff_eq]
        exact this
      go_wp2_with fail
      go_ret
      exact ⟨ret_bool HR.out.symm, rfl⟩

end Go.Proofs.YtpboaadjbkaidaaDoor

namespace Go.Proofs.YtpboaadjbkaidaaDoor
set_option maxRecDepth 100000
open Go.RowKit

theorem cls_byte (x : UInt8) (w : World) : Calls Tryd.prog 99 #[.int .u8 x.toNat] w fun e w' => e = .returned (.int .i64 (clsN x.toNat)) ∧ w = w' :=
  cls_any _ _ (by omega) (by have := x.toNat_lt; omega)
def plainB (sp : ByteArray) (b : Nat) : Bool := wrB b && !inSp sp b
set_option maxRecDepth 100000 in
set_option maxHeartbeats 1000000 in
theorem plain_any (b : Nat) (sp : ByteArray) (w : World) (hb : b < 256) (hs : sp.size ≤ maxLen) :
    Calls Tryd.prog 125 #[.int .u8 b, .string sp] w fun e w' => e = .returned (.bool (plainB sp b)) ∧ w = w' := by
  have HI := Lib.hid (fun w => in_any sp b w hs)
  by_cases h4 : clsN (b : Int) = 4
  · have HP : Hid (plainB sp b = !inSp sp b) := by
      show _ = _
      unfold plainB wrB
      rw [h4]
      simp
    have t4 : (clsN (b : Int) == 4) = true := by rw [h4]; rfl
    clear h4
    generalize inSp sp b = z at HP HI
    go_enter Tryd.func125, Tryd.ntmps125
    go_wp2_with (first
      | (go_at_call 99; refine (cls_any _ _ (by omega) (by omega)).mono ?_; rintro e w' ⟨rfl, rfl⟩)
      | (go_at_call 135; refine (HI.out _).mono ?_; rintro e w' ⟨rfl, rfl⟩))
    go_ret
    exact ⟨ret_bool (by rw [HP.out]; try rfl), rfl⟩
  have t4 : (clsN (b : Int) == 4) = false := by simpa using h4
  clear h4
  by_cases h3 : clsN (b : Int) = 3
  · have HP : Hid (plainB sp b = !inSp sp b) := by
      show _ = _
      unfold plainB wrB
      rw [h3]
      simp
    have t3 : (clsN (b : Int) == 3) = true := by rw [h3]; rfl
    clear h3
    generalize inSp sp b = z at HP HI
    go_enter Tryd.func125, Tryd.ntmps125
    go_wp2_with (first
      | (go_at_call 99; refine (cls_any _ _ (by omega) (by omega)).mono ?_; rintro e w' ⟨rfl, rfl⟩)
      | (go_at_call 135; refine (HI.out _).mono ?_; rintro e w' ⟨rfl, rfl⟩))
    go_ret
    exact ⟨ret_bool (by rw [HP.out]; try rfl), rfl⟩
  have t3 : (clsN (b : Int) == 3) = false := by simpa using h3
  clear h3
  by_cases h5 : clsN (b : Int) = 5
  · have HP : Hid (plainB sp b = !inSp sp b) := by
      show _ = _
      unfold plainB wrB
      rw [h5]
      simp
    have t5 : (clsN (b : Int) == 5) = true := by rw [h5]; rfl
    clear h5
    generalize inSp sp b = z at HP HI
    go_enter Tryd.func125, Tryd.ntmps125
    go_wp2_with (first
      | (go_at_call 99; refine (cls_any _ _ (by omega) (by omega)).mono ?_; rintro e w' ⟨rfl, rfl⟩)
      | (go_at_call 135; refine (HI.out _).mono ?_; rintro e w' ⟨rfl, rfl⟩))
    go_ret
    exact ⟨ret_bool (by rw [HP.out]; try rfl), rfl⟩
  have t5 : (clsN (b : Int) == 5) = false := by simpa using h5
  clear h5
  have HP : Hid (plainB sp b = false) := by
    show _ = _
    unfold plainB wrB
    rw [t4, t3, t5]
    rfl
  generalize inSp sp b = z at HI
  go_enter Tryd.func125, Tryd.ntmps125
  go_wp2_with (first
    | (go_at_call 99; refine (cls_any _ _ (by omega) (by omega)).mono ?_; rintro e w' ⟨rfl, rfl⟩)
    | (go_at_call 135; refine (HI.out _).mono ?_; rintro e w' ⟨rfl, rfl⟩))
  go_ret
  exact ⟨ret_bool (by rw [HP.out]; try rfl), rfl⟩

/-- A single byte of a member at i: the byte, the offset behind it, the offset of a fault or -1. -/
def rsF (s : ByteArray) (i : Nat) : Nat × Nat × Int :=
  if s.size ≤ i then (0, 0, (s.size : Int))
  else if bt s i = 92 then
    if s.size ≤ i + 1 then (0, 0, (s.size : Int))
    else if clsN (bt s (i + 1) : Int) ≠ 5 then (0, 0, ((i + 1 : Nat) : Int))
    else (bt s (i + 1), i + 2, -1)
  else if plainB (⟨#[92, 93, 91, 94, 45]⟩ : ByteArray) (bt s i) = true then (bt s i, i + 1, -1)
  else (0, 0, (i : Int))

set_option maxRecDepth 100000 in
set_option maxHeartbeats 2000000 in
theorem rsingle_any (s : ByteArray) (i : Nat) (w : World) (hs : s.size ≤ 2147483648) (hi : i ≤ 2147483648) :
    Calls Tryd.prog 134 #[.string s, .int .i64 i] w fun e w' => e = .returned (.tuple #[.int .u8 (rsF s i).1, .int .i64 (rsF s i).2.1, .int .i64 (rsF s i).2.2]) ∧ w = w' := by
  by_cases h0 : s.size ≤ i
  · have HR : Hid (rsF s i = (0, 0, (s.size : Int))) := by show _ = _; unfold rsF; rw [if_pos h0]
    have h0i : (s.size : Int) ≤ (i : Int) := by omega
    go_enter Tryd.func134, Tryd.ntmps134
    go_wp2_with fail
    go_ret3
    exact ⟨by (rw [HR.out] <;> rfl), rfl⟩
  have hi : i < s.size := by omega
  have hii : (i : Int) < (s.size : Int) := by omega
  have hin : ¬ ((s.size : Int) ≤ (i : Int)) := by omega
  obtain ⟨c, HC⟩ : ∃ c, Hid (c = bt s i) := ⟨_, rfl⟩
  have hc2 : c < 256 := by rw [HC.out]; exact bt_lt s i
  have hg : s[i].toNat = c := by rw [HC.out, bt_get s i hi]
  by_cases h92 : c = 92
  · have t92 : ((s[i].toNat : Int) == 92) = true := beq_iff_eq.2 (by omega)
    clear hg
    by_cases h1 : s.size ≤ i + 1
    · have HR : Hid (rsF s i = (0, 0, (s.size : Int))) := by show _ = _; unfold rsF; rw [if_neg h0, ← HC.out, if_pos h92, if_pos h1]
      have h1i : (s.size : Int) ≤ (i : Int) + 1 := by omega
      clear h92 h0
      go_enter Tryd.func134, Tryd.ntmps134
      go_wp2_with fail
      go_ret3
      exact ⟨by (rw [HR.out] <;> rfl), rfl⟩
    have h1j : i + 1 < s.size := by omega
    have h1i : ¬ (s.size : Int) ≤ (i : Int) + 1 := by omega
    obtain ⟨d, HD⟩ : ∃ d, Hid (d = bt s (i + 1)) := ⟨_, rfl⟩
    have hd2 : d < 256 := by rw [HD.out]; exact bt_lt s (i + 1)
    have hgd : Hid (∀ h, (s[((i : Int) + 1).toNat]'h).toNat = d) := fun h => by
      rw [HD.out, bt_get s (i + 1) h1j]
      have : ((i : Int) + 1).toNat = i + 1 := by omega
      simp only [this]
    by_cases h5 : clsN (d : Int) = 5
    · have HR : Hid (rsF s i = (d, i + 2, -1)) := by show _ = _; unfold rsF; rw [if_neg h0, ← HC.out, if_pos h92, if_neg h1, ← HD.out, if_neg (by simp [h5])]
      have t5 : (clsN (d : Int) != 5) = false := by simpa using h5
      rw [HD.out, bt_get s (i + 1) h1j] at t5
      clear h92 h0 h1 h5
      go_enter Tryd.func134, Tryd.ntmps134
      go_wp2_with (go_at_call 99; refine (cls_byte _ _).mono ?_; rintro e w' ⟨rfl, rfl⟩)
      go_ret3
      exact ⟨by (rw [HR.out, HD.out, bt_get s (i + 1) h1j] <;> rfl), rfl⟩
    · have HR : Hid (rsF s i = (0, 0, ((i + 1 : Nat) : Int))) := by show _ = _; unfold rsF; rw [if_neg h0, ← HC.out, if_pos h92, if_neg h1, ← HD.out, if_pos h5]
      have t5 : (clsN (d : Int) != 5) = true := by simpa using h5
      rw [HD.out, bt_get s (i + 1) h1j] at t5
      clear h92 h0 h1 h5
      go_enter Tryd.func134, Tryd.ntmps134
      go_wp2_with (go_at_call 99; refine (cls_byte _ _).mono ?_; rintro e w' ⟨rfl, rfl⟩)
      go_ret3
      exact ⟨by (rw [HR.out] <;> rfl), rfl⟩
  have t92 : ((s[i].toNat : Int) == 92) = false := beq_eq_false_iff_ne.2 (by omega)
  have HPL := Lib.hid (fun w => plain_any c (⟨#[92, 93, 91, 94, 45]⟩ : ByteArray) w hc2 (by decide))
  have hgc : (s[i].toNat : Int) = (c : Int) := by omega
  by_cases hp : plainB (⟨#[92, 93, 91, 94, 45]⟩ : ByteArray) c = true
  · have HR : Hid (rsF s i = (c, i + 1, -1)) := by show _ = _; unfold rsF; rw [if_neg h0, ← HC.out, if_neg h92, if_pos hp]
    rw [hp] at HPL
    clear hp h92 h0 hg
    go_enter Tryd.func134, Tryd.ntmps134
    go_wp2_with (go_at_call 125; refine (HPL.out _).mono ?_; rintro e w' ⟨rfl, rfl⟩)
    go_ret3
    exact ⟨by (rw [HR.out] <;> rfl), rfl⟩
  · have HR : Hid (rsF s i = (0, 0, (i : Int))) := by show _ = _; unfold rsF; rw [if_neg h0, ← HC.out, if_neg h92, if_neg hp]
    rw [Bool.not_eq_true _ |>.mp hp] at HPL
    clear hp h92 h0 hg
    go_enter Tryd.func134, Tryd.ntmps134
    go_wp2_with (go_at_call 125; refine (HPL.out _).mono ?_; rintro e w' ⟨rfl, rfl⟩)
    go_ret3
    exact ⟨by (rw [HR.out] <;> rfl), rfl⟩

end Go.Proofs.YtpboaadjbkaidaaDoor
