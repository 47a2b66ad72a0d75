/-
  Contracts and plain laws that this claim leans on, part 3.
-/
import Derived.Test.YtfkojnofbpdjdaaGreatDoorPackC1
import Derived.Lib.AppendZeros
import Derived.Test.YtfkojnofbpdjdaaGreatDoorPackC2
import Derived.WalkSpells
import Derived.Deep.DeepCutAuto
import Derived.Deep.CutBlock
import Derived.Deep.RegionWith
import Derived.Lib.Index
import Derived.Lib.Strings
import Derived.Lib.Bytealg
import Derived.Deep.LoopGhost
import Derived.Shelf.Strings.Builder1
import Derived.Shelf.Strings.Builder2
import Derived.Shelf.Strings.Trim
import Derived.Shelf.Small.Utf8
import Derived.Shelf.Small.Strs
import Derived.Shelf.Strings.BuilderF
import Derived.Shelf.Strings.BuilderK
import Derived.Shelf.Utf8.RuneCount
import Derived.Shelf.Strings.Builder2Cap
import Derived.Shelf.Strconv.Itoa0
import Derived.Shelf.Strconv.Itoa1
import Derived.Shelf.LaysM
import Derived.Shelf.Strconv.Itoa2
import Derived.Shelf.Strconv.Itoa3
import Derived.Shelf.Strings.Search1
import Derived.Shelf.Strings.Search2
import Derived.Shelf.Strings.Search3
import Derived.Shelf.Strings.Cut
import Derived.Shelf.Strings.Count
import Derived.Shelf.Strings.Shaped
import Derived.Shelf.Strings.Prefix
import Derived.Shelf.Strings.Split
import Derived.Shelf.Unicode.Decode
import Derived.Shelf.Strings.Runes
import Derived.Shelf.Strings.RuneCount
import Derived.Shelf.Strings.AsciiSet
import Derived.Shelf.Unicode.DecodeSlow
import Derived.Shelf.Unicode.DecodeAny
import Derived.Shelf.Strings.BuilderCap
import Derived.Test.YtfkojnofbpdjdaaGreatDoorProg
import Derived.Deep.RegionHeld3
set_option linter.unusedVariables false
set_option linter.unusedSimpArgs false
set_option maxHeartbeats 16000000
set_option maxRecDepth 100000
namespace Go.Proofs.YtfkojnofbpdjdaaGreatDoor
set_option maxRecDepth 100000
open Go.RowKit
def RdTT (w : World) (v : Value) (L : List (List Tk)) : Prop :=
 ∃ A c, v = .slice A L.length c ∧ (L ≠ [] → ∃ b o, A = some ⟨b, o, none⟩ ∧ b < w.heap.size ∧ ∀ i x, L[i]? = some x → ∃ A' c', w.cell? ⟨b, o + i, none⟩ = some (.slice A' x.length c') ∧ RdT w (.slice A' x.length c') x)
theorem RdTT.below {w w' : World} {v : Value} {L : List (List Tk)} (h : RdTT w v L) {B : Nat} (hb : Below B w w') (hB : w.heap.size ≤ B) : RdTT w' v L := by
 obtain ⟨A, c, hv, h0⟩ := h
 refine ⟨A, c, hv, fun hl => ?_⟩
 obtain ⟨b, o, hA, hlt, hx⟩ := h0 hl
 refine ⟨b, o, hA, Nat.lt_of_lt_of_le hlt hb.size, fun i x hi => ?_⟩
 obtain ⟨A', c', h1, h2⟩ := hx i x hi
 exact ⟨A', c', (hb.cell (p := ⟨b, o + i, none⟩) (Nat.lt_of_lt_of_le hlt hB)).trans h1, h2.below hb hB⟩
theorem RdTT.at_ {w : World} {A : Option Addr} {n c : Nat} {L : List (List Tk)} (h : RdTT w (.slice A n c) L) (k : Nat) (hk : k < L.length) :
 ∃ b o A' c', A = some ⟨b, o, none⟩ ∧ b < w.heap.size ∧ w.cell? ⟨b, o + k, none⟩ = some (.slice A' L[k].length c') ∧ RdT w (.slice A' L[k].length c') L[k] := by
 obtain ⟨A1, c1, hv, h0⟩ := h
 injection hv with e1 e2 e3
 subst e1
 obtain ⟨b, o, hA, hb, hx⟩ := h0 (by intro e; rw [e] at hk; simp at hk)
 obtain ⟨A', c', h1, h2⟩ := hx k L[k] (List.getElem?_eq_getElem hk)
 exact ⟨b, o, A', c', hA, hb, h1, h2⟩
theorem grow_any (n : Nat) (hn : n ≤ 100000) (w : World) : Calls Tryz.prog 180 #[.slice none 0 0, .int .i64 n] w (fun e w' => ∃ v, e = .returned v ∧ OwnT 31 w' w.heap.size v [] ∧ Below w.heap.size w w') := by
 by_cases h0 : n = 0
 ·subst h0
  go_enter Tryz.func180, Tryz.ntmps180
  go_wp2_with fail
  go_ret
  exact ⟨_, rfl, OwnE.nil, Below.refl _ _⟩
 ·have hp : (0 : Int) < n := by omega
  obtain ⟨i, hi, hz, hsize, hby⟩ := info_parts item_info
  have hr := Go.Lib.run_append_nil_zeros (P := Tryz.prog) w 24 3 24 31 i _ .i64 .i64 Tryz.underlying24 Tryz.underlying3 hi hz n (by omega) (by omega) (by omega) (by rw [hby]; omega)
  have HR := Lib.hid hr
  have HB := Lib.hid ((Below.refl w.heap.size w).drew.alloc (Nat.le_refl _) (.cells (Builtin.zeroCells (Value.agg #[.int .i64 0, .string ⟨#[]⟩, .int .i64 0]).cells n ++ Builtin.zeroCells (Value.agg #[.int .i64 0, .string ⟨#[]⟩, .int .i64 0]).cells (grownCap w n 0 31 - n)) 31))
  have hcap := grownCap_ge w n 0 31
  have hcm := grownCap_le_maxLen w n 0 31 (by unfold maxLen; omega)
  have HO : Hid (OwnT 31 (w.drew.alloc (.cells (Builtin.zeroCells (Value.agg #[.int .i64 0, .string ⟨#[]⟩, .int .i64 0]).cells n ++ Builtin.zeroCells (Value.agg #[.int .i64 0, .string ⟨#[]⟩, .int .i64 0]).cells (grownCap w n 0 31 - n)) 31)) w.heap.size (.slice (some ⟨w.heap.size, 0, none⟩) 0 (grownCap w n 0 31)) []) := by
   refine ⟨rfl, .inr ⟨w.heap.size, _, _, rfl, Nat.le_refl _, heap_alloc_new w.drew _, Nat.zero_le _, hcm, ?_, by simp⟩⟩
   rw [Array.size_append, size_zeroCells, size_zeroCells, ← Nat.add_mul, show n + (grownCap w n 0 31 - n) = grownCap w n 0 31 by omega]
   rfl
  have hcl : ((grownCap w n 0 31 : Nat) : Int) ≤ 9223372036854775807 := by unfold maxLen at hcm; omega
  generalize grownCap w n 0 31 = cap at *
  clear hr hi hz hsize hby hcm
  go_enter Tryz.func180, Tryz.ntmps180
  go_wp2_with (at_builtin; refine Lib.wpList_append_run _ rfl _ _ _ _ rfl _ _ rfl rfl _ _ HR.out ?_)
  go_ret
  exact ⟨_, rfl, HO.out, HB.out⟩
theorem flat_take (L : List (List Tk)) (k : Nat) (h : k < L.length) : (L.take (k + 1)).flatten = (L.take k).flatten ++ L[k] := by
 rw [List.take_succ_eq_append_getElem h, List.flatten_append, List.flatten_cons, List.flatten_nil, List.append_nil]
theorem flat_le (L : List (List Tk)) (k : Nat) : (L.take k).flatten.length ≤ L.flatten.length := by
 have := congrArg (fun l => (List.flatten l).length) (List.take_append_drop k L)
 simp only [List.flatten_append, List.length_append] at this
 omega
theorem sconcat_any (L : List (List Tk)) (v : Value) (w : World) (h : RdTT w v L) (hl : L.length ≤ 100000) (hn : L.flatten.length ≤ 100000) :
 Calls Tryz.prog 156 #[v] w (RetOwn 31 tkC 3 w L.flatten) := by
 obtain ⟨R, HRR⟩ : ∃ R, Hid (R = RetOwn 31 tkC 3 w L.flatten) := ⟨_, rfl⟩
 rw [← HRR.out]
 obtain ⟨A, c, rfl, h0⟩ := h
 have H : Hid (RdTT w (.slice A L.length c) L) := ⟨A, c, rfl, h0⟩
 have HN := Lib.hid hn
 clear h0 hn
 go_enter Tryz.func156, Tryz.ntmps156
 go_wp2_with fail
 go_loopg [3, 11] L.length (fun gk sv iv wr => ∃ k : Nat, sv = .int .i64 ((L.take k).flatten.length : Nat) ∧ iv = .int .i64 k ∧ k ≤ L.length ∧ w = wr ∧ L.length - k ≤ gk)
 case atStart => exact ⟨0, rfl, rfl, Nat.zero_le _, rfl, Nat.le_refl _⟩
 case round =>
  obtain ⟨k, rfl, rfl, hk, rfl, hgk⟩ := hrel
  by_cases hlt : k < L.length
  ·obtain ⟨b, o, A', c', hA, hb, q, hr⟩ := RdTT.at_ H.out k hlt
   subst hA
   have hf1 := flat_le L k
   have hf2 := flat_le L (k + 1)
   have hft := congrArg List.length (flat_take L k hlt)
   rw [List.length_append] at hft
   have hnn := HN.out
   have HS : Hid (((L.take k).flatten.length : Int) + (L[k].length : Int) = (((L.take (k + 1)).flatten.length : Nat) : Int)) := by show _ = _; omega
   have hb1 : (L.take k).flatten.length ≤ 100000 := by omega
   have hb2 : L[k].length ≤ 100000 := by omega
   clear hft hf1 hf2 hr hnn
   generalize (L.take k).flatten.length = s0 at *
   generalize L[k].length = s1 at *
   go_wp2_with fail
   rw [HS.out]
   go_roundg (L.length - (k + 1))
   case measure => omega
   case rel => exact ⟨k + 1, rfl, rfl, hlt, rfl, Nat.le_refl _⟩
  ·obtain rfl : k = L.length := by omega
   rw [List.take_length]
   have HG := Lib.hid (grow_any L.flatten.length HN.out w)
   generalize hfl : L.flatten.length = fl at HG ⊢
   have HFL := Lib.hid hfl
   clear hfl
   go_wp2_with (go_at_call 180; refine (HG.out).mono ?_; rintro e w1 ⟨v1, rfl, ho1, hb1⟩; have HO1 := Lib.hid ho1; have HB1 := Lib.hid hb1; clear ho1 hb1)
   go_loopg [6, 27] L.length (fun gk sv iv wr => ∃ k : Nat, Hid (OwnT 31 wr w.heap.size sv (L.take k).flatten) ∧ iv = .int .i64 k ∧ k ≤ L.length ∧ Hid (Below w.heap.size w wr) ∧ L.length - k ≤ gk)
   case atStart => exact ⟨0, HO1.out, rfl, Nat.zero_le _, HB1.out, Nat.le_refl _⟩
   case round =>
    obtain ⟨k, HO, rfl, hk, HB, hgk⟩ := hrel
    clear HO1 HB1
    by_cases hlt : k < L.length
    ·obtain ⟨b, o, A', c', hA, hb, q, hr⟩ := RdTT.at_ (H.out.below HB.out (Nat.le_refl _)) k hlt
     subst hA
     have HRD := Lib.hid hr
     have hf2 := flat_le L (k + 1)
     have hft := congrArg List.length (flat_take L k hlt)
     rw [List.length_append] at hft
     have hnn : (L.take k).flatten.length + L[k].length ≤ 100000 := by have := HN.out; omega
     have hz := HB.out.size
     have HFT : Hid ((L.take k).flatten ++ L[k] = (L.take (k + 1)).flatten) := (flat_take L k hlt).symm
     clear hr hf2 hft
     go_wp2_with (at_builtin; refine wpList_appE rfl (.tmp 31) (.tmp 32) 24 31 rfl Tryz.underlying24 _ tkC 3 32 item_info rfl (by decide) tkC_three tkC_one w.heap.size _ (L.take k).flatten rfl (by exact HO.out) _ L[k] rfl (by exact HRD.out) (by omega) (by decide) hz ?_; intro v2 w2 hown2 hbel2 hgr2; have HO2 := Lib.hid hown2; have HB2 := Lib.hid (hbel2 w.heap.size w (Nat.le_refl _) HB.out); clear hown2 hbel2 hgr2)
     go_roundg (L.length - (k + 1))
     case measure => omega
     case rel =>
      refine ⟨k + 1, ?_, rfl, hlt, HB2.out, Nat.le_refl _⟩
      rw [← HFT.out]
      exact HO2.out
    ·obtain rfl : k = L.length := by omega
     rw [List.take_length] at HO
     obtain ⟨A2, c2, rfl⟩ := own_shape HO.out
     go_wp2_with fail
     first | go_ret | skip
     rw [HRR.out]
     exact ⟨_, rfl, HO.out, HB.out⟩
theorem concat_any (a b : List Tk) (A A' : Option Addr) (c c' : Nat) (w : World) (ha : RdT w (.slice A a.length c) a) (hb : RdT w (.slice A' b.length c') b) (hn : a.length + b.length ≤ 100000) (hw : lenI (a ++ b) ≤ 1000000) :
 Calls Tryz.prog 113 #[.slice A a.length c, .slice A' b.length c'] w (RetOwn 31 tkC 3 w (normL (a ++ b))) := by
 have hB0 := (Below.refl w.heap.size w).alloc (Nat.le_refl _) (.cells #[.slice A a.length c, .slice A' b.length c'] 24)
 have HL : Hid (RdTT (w.alloc (.cells #[.slice A a.length c, .slice A' b.length c'] 24)) (.slice (some ⟨w.heap.size, 0, none⟩) 2 2) [a, b]) := by
  refine ⟨_, 2, rfl, fun _ => ⟨_, _, rfl, by simp, fun i x hi => ?_⟩⟩
  have hbox : (w.alloc (.cells #[.slice A a.length c, .slice A' b.length c'] 24)).heap[w.heap.size]? = some (.cells #[.slice A a.length c, .slice A' b.length c'] 24) := Array.getElem?_push_size
  rcases i with _ | _ | i
  ·simp at hi; subst hi
   exact ⟨A, c, by rw [cell_of_row _ _ _ _ _ _ hbox]; rfl, ha.below hB0 (Nat.le_refl _)⟩
  ·simp at hi; subst hi
   exact ⟨A', c', by rw [cell_of_row _ _ _ _ _ _ hbox]; rfl, hb.below hB0 (Nat.le_refl _)⟩
  ·simp at hi
 have HC := Lib.hid (sconcat_any [a, b] _ _ HL.out (by simp) (by simpa using hn))
 have HNN := Lib.hid (fun (v : Value) (w' : World) (h : RdT w' v (a ++ b)) => norm_anyL (a ++ b) v w' h (by simpa using hn) hw)
 have HB0 := Lib.hid hB0
 clear ha hb hB0
 go_enter Tryz.func113, Tryz.ntmps113
 go_wp2_with (first
  | (go_at_call 156; refine (HC.out).mono ?_; rintro e w1 ⟨v1, rfl, ho1, hb1⟩; have HO1 := Lib.hid ho1; have HB1 := Lib.hid (HB0.out.trans (hb1.mono HB0.out.size)); clear ho1 hb1)
  | (go_at_call 104; refine (HNN.out _ _ (by have := HO1.out.rd tkC_three; simpa using this)).mono ?_; rintro e w2 ⟨v2, rfl, ho2, hb2⟩; have HO2 := Lib.hid ho2; have HB2 := Lib.hid (HB1.out.trans (hb2.mono HB1.out.size)); have hz1 := HB1.out.size; clear ho2 hb2))
 go_ret
 exact ⟨_, rfl, own_base HO2.out hz1, HB2.out⟩
end Go.Proofs.YtfkojnofbpdjdaaGreatDoor

namespace Go.Proofs.YtfkojnofbpdjdaaGreatDoor
set_option maxRecDepth 100000
open Go.RowKit
theorem line_any' (L : List Int) (g N : Nat) (n : Int) (w : World) (h : Nums w g L N) (hN : N ≤ 100000000) (hn : 0 ≤ n) (hn2 : n ≤ 1000) :
 Calls Tryz.prog 35 #[.pointer (some ⟨g, 0, none⟩), .int .i64 n] w (NumRet g L (lineL L N n).2 (.string (lineL L N n).1) w) := by
 have HT : Hid (lineGo L (nextN L N (n + 1)).toNat ⟨#[]⟩ (N + 1) = lineL L N n) := by show lineGo L (nextN L N (n + 1)).toNat ⟨#[]⟩ (N + 1) = lineL L N n; rfl
 have hb := nextN_bd L N (n + 1) (by omega)
 have HNX := Lib.hid (next_any' L g N (n + 1) w h (by omega) (by omega) (by omega))
 generalize nextN L N (n + 1) = z at HT hb HNX
 generalize lineL L N n = tgt at HT
 obtain ⟨m, rfl⟩ : ∃ m : Nat, z = (m : Int) := ⟨z.toNat, by omega⟩
 rw [Int.toNat_natCast] at HT
 clear h
 go_enter Tryz.func35, Tryz.ntmps35
 go_wp2_with fail
 refine (HNX.out).mono ?_
 rintro e w1 ⟨rfl, hb1, hn1⟩
 have HB1 := Lib.hid hb1
 have HN1 := Lib.hid hn1
 clear hb1 hn1
 go_wp2_with fail
 go_loopw [5, 6] (fun ov iv wr => ∃ (out : ByteArray) (i N' : Nat), ov = .string out ∧ iv = .int .i64 i ∧ i ≤ m ∧ N' + 2 * i ≤ N + 1 + 2 * m ∧ out.size + 6 * i ≤ 6 * m ∧ Hid (But g w wr) ∧ Hid (Nums wr g L N') ∧ Hid (lineGo L i out N' = tgt)) (fun _ iv _ => (intOf iv).toNat)
 case atStart => exact ⟨⟨#[]⟩, m, N + 1, rfl, rfl, Nat.le_refl _, Nat.le_refl _, by show 0 + 6 * m ≤ _; omega, HB1.out, HN1.out, HT.out⟩
 case round =>
  obtain ⟨out, i, N', rfl, rfl, him, hN', hos, HB, HN, HG⟩ := hrel
  cases i with
  | zero =>
    have he := HG.out
    rw [lineGo] at he
    subst he
    go_wp2_with fail
    go_ret
    exact ⟨rfl, HB.out, HN.out⟩
  | succ i =>
    have hw : (mkWord L N').size ≤ 5 := words_size _
    by_cases ho : 0 < out.size
    ·have h3 := nextN_bd L (N' + 1) 3 (by omega)
     have hne : (out.toList == []) = false := by
      rw [beq_eq_false_iff_ne, toList_eq_data]
      intro h
      have := Lib.size_eq out
      rw [h] at this
      simp only [List.length_nil] at this
      omega
     have hne2 : out.toList.isEmpty = false := by
      rw [List.isEmpty_eq_false_iff]
      simpa using hne
     have hsz1 : (out ++ ⟨#[32]⟩ ++ mkWord L N').size ≤ out.size + 6 := by
      rw [ByteArray.size_append, ByteArray.size_append]
      show out.size + 1 + (mkWord L N').size ≤ _
      omega
     have hsz2 : (out ++ mkWord L N').size ≤ out.size + 6 := by
      rw [ByteArray.size_append]
      omega
     have HWD := Lib.hid (word_any' L g N' wr HN.out (by omega))
     by_cases hz : 0 < nextN L (N' + 1) 3
     ·have hG2 : Hid (lineGo L i (out ++ ⟨#[32]⟩ ++ mkWord L N') (N' + 2) = tgt) := by
       have := HG.out
       rw [lineGo, if_pos ho, if_pos hz] at this
       exact this
      generalize mkWord L N' = wd at hw hsz1 hsz2 HWD hG2
      have HNX3 := fun w h => next_any' L g (N' + 1) 3 w h (by omega) (by omega) (by omega)
      have HX3 := Lib.hid HNX3
      generalize nextN L (N' + 1) 3 = z3 at h3 hz HX3 HNX3
      clear HNX3
      go_wp2_with fail
      refine (HWD.out).mono ?_
      rintro e w2 ⟨rfl, hb2, hn2'⟩
      have HB2 := Lib.hid (HB.out.trans hb2)
      have HN2 := Lib.hid hn2'
      clear hb2 hn2'
      go_wp2_with fail
      refine (HX3.out w2 HN2.out).mono ?_
      rintro e w3 ⟨rfl, hb3, hn3⟩
      have HB3 := Lib.hid (HB2.out.trans hb3)
      have HN3 := Lib.hid hn3
      clear hb3 hn3
      go_wp2_with fail
      exact ⟨⟨_, i, N' + 2, rfl, by go_num, by omega, by omega, by omega, HB3.out, HN3.out, hG2.out⟩, by simp [intOf]; try omega⟩
     ·have hG2 : Hid (lineGo L i (out ++ mkWord L N') (N' + 2) = tgt) := by
       have := HG.out
       rw [lineGo, if_pos ho, if_neg hz] at this
       exact this
      generalize mkWord L N' = wd at hw hsz1 hsz2 HWD hG2
      have HNX3 := fun w h => next_any' L g (N' + 1) 3 w h (by omega) (by omega) (by omega)
      have HX3 := Lib.hid HNX3
      generalize nextN L (N' + 1) 3 = z3 at h3 hz HX3 HNX3
      clear HNX3
      go_wp2_with fail
      refine (HWD.out).mono ?_
      rintro e w2 ⟨rfl, hb2, hn2'⟩
      have HB2 := Lib.hid (HB.out.trans hb2)
      have HN2 := Lib.hid hn2'
      clear hb2 hn2'
      go_wp2_with fail
      refine (HX3.out w2 HN2.out).mono ?_
      rintro e w3 ⟨rfl, hb3, hn3⟩
      have HB3 := Lib.hid (HB2.out.trans hb3)
      have HN3 := Lib.hid hn3
      clear hb3 hn3
      go_wp2_with fail
      exact ⟨⟨_, i, N' + 2, rfl, by go_num, by omega, by omega, by omega, HB3.out, HN3.out, hG2.out⟩, by simp [intOf]; try omega⟩
    ·have hz : out.data.toList = [] := List.eq_nil_of_length_eq_zero (by rw [← Lib.size_eq]; omega)
     have hre : out = ⟨#[]⟩ := bytes_ext hz
     subst hre
     have hG2 : Hid (lineGo L i (⟨#[]⟩ ++ mkWord L N') (N' + 1) = tgt) := by
      have := HG.out
      rw [lineGo, if_neg ho] at this
      exact this
     have hsz2 : ((⟨#[]⟩ : ByteArray) ++ mkWord L N').size ≤ 6 := by
      rw [ByteArray.size_append]
      show 0 + _ ≤ 6
      omega
     have HWD := Lib.hid (word_any' L g N' wr HN.out (by omega))
     have hos' : 6 * (i + 1) ≤ 6 * m := by have : (ByteArray.mk #[]).size = 0 := rfl; omega
     generalize mkWord L N' = wd at hw hsz2 HWD hG2
     go_wp2_with fail
     refine (HWD.out).mono ?_
     rintro e w2 ⟨rfl, hb2, hn2'⟩
     have HB2 := Lib.hid (HB.out.trans hb2)
     have HN2 := Lib.hid hn2'
     clear hb2 hn2'
     go_wp2_with fail
     exact ⟨⟨_, i, N' + 1, rfl, by go_num, by omega, by omega, by omega, HB2.out, HN2.out, hG2.out⟩, by simp [intOf]; try omega⟩
end Go.Proofs.YtfkojnofbpdjdaaGreatDoor

namespace Go.Proofs.YtfkojnofbpdjdaaGreatDoor
set_option maxRecDepth 100000
open Go.RowKit
def slotW : List ByteArray := [⟨#[110]⟩, ⟨#[110, 97, 109, 101]⟩, ⟨#[120, 49]⟩]
def emptyW : List ByteArray := [⟨#[98, 114]⟩, ⟨#[105, 109, 103, 32, 97]⟩]
def openW : List ByteArray := [⟨#[98]⟩, ⟨#[105]⟩, ⟨#[97, 32, 104, 61, 49]⟩]
theorem getD_size (l : List ByteArray) (k : Nat) (h : ∀ x ∈ l, x.size ≤ 5) : (l.getD k ⟨#[]⟩).size ≤ 5 := by
 by_cases hk : k < l.length
 ·rw [List.getD_eq_getElem?_getD, List.getElem?_eq_getElem hk]
  exact h _ (List.getElem_mem hk)
 ·rw [List.getD_eq_getElem?_getD, List.getElem?_eq_none (by omega)]
  decide
def nameB (s : ByteArray) : ByteArray := ⟨(s.data.toList.takeWhile (fun c => c != 32)).toArray⟩
theorem nameB_size (s : ByteArray) : (nameB s).size ≤ s.size := by
 rw [Lib.size_eq, Lib.size_eq]
 show (s.data.toList.takeWhile _).toArray.toList.length ≤ _
 exact (List.takeWhile_prefix _).length_le
structure FS where
 f : List Tk
 op : List Tk
 id : Nat
 N : Nat
end Go.Proofs.YtfkojnofbpdjdaaGreatDoor

namespace Go.Proofs.YtfkojnofbpdjdaaGreatDoor
set_option maxRecDepth 100000
open Go.RowKit
theorem OwnT.unsnoc {e : TypeId} {w : World} {B : Nat} {v : Value} {l : List Tk} {x : Tk} (h : OwnT e w B v (l ++ [x])) : ∃ g cap, v = .slice (some ⟨g, 0, none⟩) (l.length + 1) cap ∧ B ≤ g ∧
 w.ownsRow B e 3 (.slice (some ⟨g, 0, none⟩) (l.length + 1) cap) (l.length + 1) (l.flatMap tkC ++ tkC x) := by
 unfold OwnT OwnE at h
 rw [List.length_append, List.flatMap_append] at h
 obtain ⟨g, c, hv, hb⟩ := own_some h (by simp)
 subst hv
 exact ⟨g, c, rfl, hb, by simpa using h⟩
section
variable {e : TypeId} {w : World} {B g cap : Nat} {l : List Tk} {x : Tk}
theorem OwnT.lastCells (h : w.ownsRow B e 3 (.slice (some ⟨g, 0, none⟩) (l.length + 1) cap) (l.length + 1) (l.flatMap tkC ++ tkC x)) :
 w.cell? ⟨g, l.length * 3, none⟩ = some (.int .i64 x.k) ∧ w.cell? ⟨g, l.length * 3 + 1, none⟩ = some (.string x.t) ∧ w.cell? ⟨g, l.length * 3 + 2, none⟩ = some (.int .i64 x.d) := by
 have hl := flat_length tkC 3 tkC_three l
 refine ⟨?_, ?_, ?_⟩
 ·rw [h.cellAt _ (by omega), List.getElem?_append_right (by omega), hl, Nat.sub_self]; rfl
 ·rw [h.cellAt _ (by omega), List.getElem?_append_right (by omega), hl, Nat.add_sub_cancel_left]; rfl
 ·rw [h.cellAt _ (by omega), List.getElem?_append_right (by omega), hl, Nat.add_sub_cancel_left]; rfl
theorem OwnT.lastSet (h : w.ownsRow B e 3 (.slice (some ⟨g, 0, none⟩) (l.length + 1) cap) (l.length + 1) (l.flatMap tkC ++ tkC x)) (y : Tk) :
 OwnT e (((w.setCell ⟨g, l.length * 3, none⟩ (.int .i64 y.k)).setCell ⟨g, l.length * 3 + 1, none⟩ (.string y.t)).setCell ⟨g, l.length * 3 + 2, none⟩ (.int .i64 y.d)) B (.slice (some ⟨g, 0, none⟩) (l.length + 1) cap) (l ++ [y]) := by
 have hl := flat_length tkC 3 tkC_three l
 have h1 := (h.stored (l.length * 3) (.int .i64 y.k)).1
 have h2 := (h1.stored (l.length * 3 + 1) (.string y.t)).1
 have h3 := (h2.stored (l.length * 3 + 2) (.int .i64 y.d)).1
 refine OwnE.snoc ?_
 rw [List.set_append_right _ _ (by omega), hl, Nat.sub_self, List.set_append_right _ _ (by omega), hl, Nat.add_sub_cancel_left, List.set_append_right _ _ (by omega), hl, Nat.add_sub_cancel_left] at h3
 exact h3
end
theorem rnorm_any (f : List Tk) (v : Value) (w : World) (hf : RdT w v f) (hl : f.length ≤ 100000) (hbt : bytesOf f ≤ 1000000) :
 Calls Tryz.prog 33 #[v] w (RetOwn 31 tkC 3 w (normL f)) := by
 obtain ⟨A, c, rfl, _, _⟩ := hf.shape
 have HF := Lib.hid hf
 clear hf
 go_enter Tryz.func33, Tryz.ntmps33
 go_wp2
 go_loopw [3, 9] (fun ov i wr => ∃ k : Nat, k ≤ f.length ∧ i = .int .i64 k ∧ Hid (OwnT 31 wr w.heap.size ov (normL (f.take k))) ∧ Below w.heap.size w wr) (fun _ i _ => f.length - (intOf i).toNat)
 case atStart => exact ⟨0, by omega, rfl, OwnE.nil, Below.refl _ _⟩
 case round =>
  obtain ⟨k, hk, rfl, HO, hb⟩ := hrel
  have hsize := hb.size
  by_cases hkl : k < f.length
  ·obtain ⟨b, o, rfl, hbl, q1, q2, q3⟩ := RdT.at_ HF.out k hkl
   rw [← hb.cell (p := ⟨b, o + k * 3, none⟩) hbl] at q1
   rw [← hb.cell (p := ⟨b, o + k * 3 + 1, none⟩) hbl] at q2
   rw [← hb.cell (p := ⟨b, o + k * 3 + 2, none⟩) hbl] at q3
   have HT := Lib.hid (normL_take f k hkl)
   have hol : (normL (f.take k)).length ≤ 100000 := by
    have := normL_length (f.take k)
    rw [List.length_take] at this
    omega
   have hob : bytesOf (normL (f.take k)) + f[k].t.size ≤ 1000000 := by
    rw [normL_bytes]
    have := bytesOf_get f k hkl
    omega
   generalize f[k] = x at q1 q2 q3 HT hob
   obtain ⟨xk, xt, xd⟩ := x
   simp only at q1 q2 q3 hob
   generalize normL (f.take k) = out at HO HT hol hob
   by_cases h1 : xk = 1
   ·subst h1
    by_cases he : xt.size = 0
    ·have hxe : xt = ⟨#[]⟩ := bytes_ext (List.eq_nil_of_length_eq_zero (by rw [← Lib.size_eq]; exact he))
     have HX := Lib.hid (step_empty out ⟨1, xt, xd⟩ rfl he)
     subst hxe
     obtain ⟨A', c', hv⟩ := own_shape HO.out
     subst hv
     go_wp2_with fail
     refine ⟨⟨k + 1, by omega, by go_num, ?_, hb.alloc hsize _⟩, by simp [intOf]; try omega⟩
     rw [HT.out, HX.out]
     exact World.ownsRow.alloc HO.out _
    ·have hne : (xt.toList == []) = false := by
      rw [beq_eq_false_iff_ne, toList_eq_data]
      intro h
      apply he
      rw [Lib.size_eq, h]
      rfl
     have hne2 : xt.toList.isEmpty = false := by
      rw [List.isEmpty_eq_false_iff]
      simpa using hne
     rcases List.eq_nil_or_concat out with rfl | ⟨o2, y, rfl⟩
     ·have HX := Lib.hid (step_first ⟨1, xt, xd⟩ rfl he)
      obtain ⟨A', c', hv⟩ := own_shape HO.out
      subst hv
      clear he
      go_wp2_with (at_builtin; go_must (refine wpList_app1 rfl (.tmp 53) (.tmp 57) 24 31 rfl Tryz.underlying24 _ 3 32 item_info rfl (by decide) w.heap.size _ 0 [] rfl (by exact World.ownsRow.alloc (World.ownsRow.alloc HO.out _) _) ⟨wr.heap.size + 1, 0, none⟩ 1 (tkC ⟨1, xt, 0⟩) rfl rfl (by exact cells_at _ _ (by simp) _ _) (tkC_one _) (by omega) (by decide) (by simp; omega) ?_); intro g cap w1 hown1 hg1 hbel1 hgr1)
      refine ⟨⟨k + 1, by omega, by go_num, ?_, hbel1 _ _ (Nat.le_refl _) (by exact (hb.alloc hsize _).alloc (by simp; omega) _)⟩, by simp [intOf]; try omega⟩
      rw [HT.out, HX.out]
      exact hown1
     ·rw [List.concat_eq_append] at HO HT hol hob
      obtain ⟨yk, yt, yd⟩ := y
      obtain ⟨g, cap, hv, hg, hown⟩ := OwnT.unsnoc HO.out
      subst hv
      obtain ⟨p1, p2, p3⟩ := OwnT.lastCells hown
      have hol2 : o2.length + 1 ≤ 100000 := by simpa using hol
      have hgl : g < wr.heap.size := World.block_lt_of_cell? _ _ p1
      have p1' : ∀ ob, (wr.alloc ob).cell? ⟨g, o2.length * 3, none⟩ = some (.int .i64 yk) := fun ob => (World.cell?_alloc_lt _ _ _ hgl).trans p1
      by_cases hy : yk = 1
      ·subst hy
       have HX := Lib.hid (step_join o2 ⟨1, yt, yd⟩ ⟨1, xt, xd⟩ rfl he rfl)
       have hyt : yt.size + xt.size ≤ 1000000 := by
        rw [bytesOf_append, bytesOf_one] at hob
        simp only at hob
        omega
       clear he hol hob
       go_wp2_with fail
       have s1 := (World.cell?_alloc_lt wr (.cells #[.int .i64 1, .string xt, .int .i64 xd] 31) ⟨g, o2.length * 3, none⟩ hgl).trans p1
       have s2 := (World.cell?_alloc_lt wr (.cells #[.int .i64 1, .string xt, .int .i64 xd] 31) ⟨g, o2.length * 3 + 1, none⟩ hgl).trans p2
       have s3 := (World.cell?_alloc_lt wr (.cells #[.int .i64 1, .string xt, .int .i64 xd] 31) ⟨g, o2.length * 3 + 2, none⟩ hgl).trans p3
       have z1 : (wr.alloc (.cells #[.int .i64 1, .string xt, .int .i64 xd] 31)).cell? ⟨wr.heap.size, 1, none⟩ = some (.string xt) := cells_at wr _ rfl [.int .i64 1, .string xt, .int .i64 xd] 31 1 _ rfl
       have hownW := World.ownsRow.alloc hown (.cells #[.int .i64 1, .string xt, .int .i64 xd] 31)
       have fz := fun j => hownW.frozenAt j
       have hbW := hb.alloc hsize (.cells #[.int .i64 1, .string xt, .int .i64 xd] 31)
       have HOW := Lib.hid hownW
       have HBW := Lib.hid hbW
       have hsW : (wr.alloc (.cells #[.int .i64 1, .string xt, .int .i64 xd] 31)).heap.size = wr.heap.size + 1 := by simp
       have HSW := Lib.hid hsW
       have ew : IntKind.i64.wrap ((o2.length : Int) + 1 - 1) = (o2.length : Int) := by rw [IntKind.wrap_i64]; omega
       clear p1 p2 p3 p1' hownW hbW hsW q1 q2 q3 hown HO
       generalize (wr.alloc (.cells #[.int .i64 1, .string xt, .int .i64 xd] 31)) = W1 at s1 s2 s3 z1 fz HOW HBW HSW ⊢
       go_region
       go_wp2_with fail
       refine ⟨⟨k + 1, by omega, by go_num, ?_, ?_⟩, by simp [intOf]; try omega⟩
       ·rw [HT.out, HX.out]
        exact OwnT.lastSet HOW.out ⟨1, yt ++ xt, 0⟩
       ·exact (((HBW.out.setCell (p := ⟨g, o2.length * 3, none⟩) hg _).setCell (p := ⟨g, o2.length * 3 + 1, none⟩) hg _).setCell (p := ⟨g, o2.length * 3 + 2, none⟩) hg _).drew
      ·have HX := Lib.hid (step_new o2 ⟨yk, yt, yd⟩ ⟨1, xt, xd⟩ rfl he hy)
       have hyf : (yk == 1) = false := by simpa using hy
       have hol3 : (o2 ++ [⟨yk, yt, yd⟩] : List Tk).length = o2.length + 1 := by simp
       have HOW := Lib.hid hown
       clear he hy hob hol hown
       go_wp2_with (at_builtin; go_must (refine wpList_app1 rfl (.tmp 53) (.tmp 57) 24 31 rfl Tryz.underlying24 _ 3 32 item_info rfl (by decide) w.heap.size _ (o2.length + 1) (o2.flatMap tkC ++ tkC ⟨yk, yt, yd⟩) rfl (by exact World.ownsRow.alloc (World.ownsRow.alloc HOW.out _) _) ⟨wr.heap.size + 1, 0, none⟩ 1 (tkC ⟨1, xt, 0⟩) rfl rfl (by exact cells_at _ _ (by simp) _ _) (tkC_one _) (by omega) (by decide) (by simp; omega) ?_); intro g2 cap2 w1 hown1 hg3 hbel1 hgr1)
       refine ⟨⟨k + 1, by omega, by go_num, ?_, hbel1 _ _ (Nat.le_refl _) (by exact (hb.alloc hsize _).alloc (by simp; omega) _)⟩, by simp [intOf]; try omega⟩
       rw [HT.out, HX.out]
       refine OwnE.snoc ?_
       rw [hol3, List.flatMap_append]
       simpa using hown1
   ·have HX := Lib.hid (step_other out ⟨xk, xt, xd⟩ h1)
    have hxf : (xk == 1) = false := by simpa using h1
    have hxn : (xk != 1) = true := by simpa using h1
    obtain ⟨A', c', hv⟩ := own_shape HO.out
    subst hv
    clear h1
    go_wp2_with (at_builtin; go_must (refine wpList_app1 rfl (.tmp 19) (.tmp 21) 24 31 rfl Tryz.underlying24 _ 3 32 item_info rfl (by decide) w.heap.size _ _ _ rfl (by exact World.ownsRow.alloc (World.ownsRow.alloc HO.out _) _) ⟨wr.heap.size + 1, 0, none⟩ 1 (tkC ⟨xk, xt, xd⟩) rfl rfl (by exact cells_at _ _ (by simp) _ _) (tkC_one _) (by omega) (by decide) (by simp; omega) ?_); intro g cap w1 hown1 hg1 hbel1 hgr1)
    refine ⟨⟨k + 1, by omega, by go_num, ?_, hbel1 _ _ (Nat.le_refl _) (by exact (hb.alloc hsize _).alloc (by simp; omega) _)⟩, by simp [intOf]; try omega⟩
    rw [HT.out, HX.out]
    exact OwnE.snoc hown1
  ·obtain rfl : k = f.length := by omega
   obtain ⟨A', c', hv⟩ := own_shape HO.out
   subst hv
   go_wp2_with fail
   go_ret
   refine ⟨_, rfl, ?_, hb⟩
   have he := HO.out
   rw [List.take_length] at he ⊢
   exact he
theorem rconcat_any (f g : List Tk) (v u : Value) (w : World) (hf : RdT w v f) (hg : RdT w u g) (hl : f.length + g.length ≤ 100000) (hbt : bytesOf f + bytesOf g ≤ 1000000) :
 Calls Tryz.prog 8 #[v, u] w (RetOwn 31 tkC 3 w (normL (f ++ g))) := by
 obtain ⟨A, c, rfl, _, _⟩ := hf.shape
 obtain ⟨A2, c2, rfl, _, _⟩ := hg.shape
 have HF := Lib.hid hf
 have HG := Lib.hid hg
 clear hf hg
 go_enter Tryz.func8, Tryz.ntmps8
 go_wp2_with (first
  | (at_builtin; refine wpList_appE rfl (.const (.slice none 0 0)) (.tmp 5) 24 31 rfl Tryz.underlying24 _ tkC 3 32 item_info rfl (by decide) tkC_three tkC_one w.heap.size _ [] rfl (by exact OwnE.nil) _ f rfl (by exact HF.out) (by simp; omega) (by decide) (Nat.le_refl _) ?_; intro v1 w1 hown1 hbel1 hgr1; have HO1 := Lib.hid hown1; have HB1 := Lib.hid (hbel1 w.heap.size w (Nat.le_refl _) (Below.refl _ _)); have hz1 := HB1.out.size; clear hown1 hbel1 hgr1)
  | (at_builtin; refine wpList_appE rfl (.tmp 6) (.tmp 7) 24 31 rfl Tryz.underlying24 _ tkC 3 32 item_info rfl (by decide) tkC_three tkC_one w.heap.size _ f rfl (by exact HO1.out) _ g rfl (by exact RdE.below HG.out HB1.out (Nat.le_refl _)) (by omega) (by decide) hz1 ?_; intro v2 w2 hown2 hbel2 hgr2; have HO2 := Lib.hid hown2; have HB2 := Lib.hid (hbel2 w.heap.size w (Nat.le_refl _) HB1.out); have hz2 := HB2.out.size; clear hown2 hbel2 hgr2)
  | (go_at_call 33; refine (rnorm_any (f ++ g) _ _ (by exact OwnE.rd tkC_three HO2.out) (by rw [List.length_append]; exact hl) (by rw [bytesOf_append]; exact hbt)).mono ?_; rintro e w3 ⟨v3, rfl, hown3, hb3⟩))
 go_ret
 exact ⟨v3, rfl, own_base hown3 hz2, HB2.out.trans (hb3.mono hz2)⟩
end Go.Proofs.YtfkojnofbpdjdaaGreatDoor

namespace Go.Proofs.YtfkojnofbpdjdaaGreatDoor
set_option maxRecDepth 100000
open Go.RowKit
theorem RdT.one_at (w : World) (g : Nat) (hg : w.heap.size = g) (x : Tk) (t : TypeId) : RdT (w.alloc (.cells (tkC x).toArray t)) (.slice (some ⟨g, 0, none⟩) 1 1) [x] := by
 subst hg
 refine ⟨some ⟨w.heap.size, 0, none⟩, 1, rfl, by simp, (fun h => by cases h), fun _ => ⟨w.heap.size, 0, rfl, by simp, fun i y j u hi hj => ?_⟩⟩
 have hi0 : i = 0 := by
  have := (List.getElem?_eq_some_iff.1 hi).1
  simpa using this
 subst hi0
 simp at hi
 subst hi
 have := cells_new w (tkC x) t j u hj
 rw [Addr.add_lit] at this
 simpa using this
theorem Nums.keepg {w w' : World} {g : Nat} {L : List Int} {N : Nat} (h : Nums w g L N) (hk : ∀ k, k ≤ g → w'.heap[k]? = w.heap[k]?) : Nums w' g L N := by
 obtain ⟨v, W0, h1, h2, h3, h4, h5⟩ := h
 exact ⟨v, W0, (hk g (Nat.le_refl _)).trans h1, h2, h3, fun k hk' => (hk k (by omega)).trans (h4 k hk'), h5⟩
theorem box_facts {w : World} {b : Nat} {v0 v1 v2 : Value} {t : TypeId} (h : w.heap[b]? = some (.cells #[v0, v1, v2] t)) :
 w.cell? ⟨b, 0, none⟩ = some v0 ∧ w.cell? ⟨b, 1, none⟩ = some v1 ∧ w.cell? ⟨b, 2, none⟩ = some v2 ∧ w.frozen? ⟨b, 0, none⟩ = false ∧ w.frozen? ⟨b, 1, none⟩ = false ∧ w.frozen? ⟨b, 2, none⟩ = false :=
 ⟨by rw [cell_of_row _ _ 0 _ _ _ h]; rfl, by rw [cell_of_row _ _ 1 _ _ _ h]; rfl, by rw [cell_of_row _ _ 2 _ _ _ h]; rfl, frozen_rowM h 0, frozen_rowM h 1, frozen_rowM h 2⟩
theorem words_at {w w' : World} {g : Nat} {xs : List ByteArray} {t : TypeId} (z : Int) (h0 : 0 ≤ z) (hz : z < xs.length) (hg : g < w.heap.size) (hb : But g (w.alloc (.cells (xs.map Value.string).toArray t)) w') :
 w'.cell? ⟨w.heap.size, z.toNat, none⟩ = some (.string (xs.getD z.toNat ⟨#[]⟩)) := by
 rw [World.cell?_of_block (w := w.alloc (.cells (xs.map Value.string).toArray t)) (hb.block _ (by simp) (by show w.heap.size ≠ g; omega))]
 exact cells_strs w w.heap.size rfl xs t z.toNat (by omega)
theorem set_row {w : World} {b : Nat} {cs : Array Value} {t : TypeId} (h : w.heap[b]? = some (.cells cs t)) (j : Nat) (u : Value) : (w.setCell ⟨b, j, none⟩ u).heap[b]? = some (.cells (cs.setIfInBounds j u) t) := by
 show (w.heap.modify b _)[b]? = _
 rw [Array.getElem?_modify, if_pos rfl, h]
 rfl
theorem box_set3 {w : World} {b : Nat} {v0 v1 v2 : Value} {t : TypeId} (h : w.heap[b]? = some (.cells #[v0, v1, v2] t)) (u0 u1 u2 : Value) :
 (((w.setCell ⟨b, 0, none⟩ u0).setCell ⟨b, 1, none⟩ u1).setCell ⟨b, 2, none⟩ u2).heap[b]? = some (.cells #[u0, u1, u2] t) :=
 set_row (set_row (set_row h 0 u0) 1 u1) 2 u2
theorem set3_other {w : World} {b : Nat} (u0 u1 u2 : Value) (k : Nat) (h : k ≠ b) : (((w.setCell ⟨b, 0, none⟩ u0).setCell ⟨b, 1, none⟩ u1).setCell ⟨b, 2, none⟩ u2).heap[k]? = w.heap[k]? := by
 rw [Below.heap_setCell _ _ _ _ h, Below.heap_setCell _ _ _ _ h, Below.heap_setCell _ _ _ _ h]
theorem set3_size {w : World} {b : Nat} (u0 u1 u2 : Value) : (((w.setCell ⟨b, 0, none⟩ u0).setCell ⟨b, 1, none⟩ u1).setCell ⟨b, 2, none⟩ u2).heap.size = w.heap.size := by simp [World.setCell]
def NotAt (b : Nat) (v : Value) : Prop := ∀ k, v.ownBlock = some k → k ≠ b
def Apart (v u : Value) : Prop := ∀ k, v.ownBlock = some k → u.ownBlock ≠ some k
structure FR (g b : Nat) (w : World) (fv : Value) (f : List Tk) (L : List Int) (ov : Value) (op : List Tk) (x : Tk) (M : Nat) (wx : World) : Prop where
 own : OwnT 31 wx w.heap.size fv f
 ownO : OwnT 31 wx w.heap.size ov op
 apart : Apart fv ov
 nf : NotAt b fv
 no : NotAt b ov
 box : wx.heap[b]? = some (.cells #[.int .i64 x.k, .string x.t, .int .i64 x.d] 31)
 but : But g w wx
 num : Nums wx g L M
 gB : g < w.heap.size
 bB : w.heap.size ≤ b
section
variable {g b : Nat} {w : World} {fv : Value} {f : List Tk} {L : List Int} {ov ov' : Value} {op op' : List Tk} {x : Tk} {M M' : Nat} {wx w' : World}
theorem FR.call (h : FR g b w fv f L ov op x M wx) (hb : But g wx w') (hn : Nums w' g L M') : FR g b w fv f L ov op x M' w' := by
 have hg := h.gB
 have hbB := h.bB
 refine ⟨own_same h.own fun k hk => ?_, own_same h.ownO fun k hk => ?_, h.apart, h.nf, h.no, ?_, h.but.trans hb, hn, hg, hbB⟩
 ·have := h.own.lt k hk
  exact hb.block k this.2 (by omega)
 ·have := h.ownO.lt k hk
  exact hb.block k this.2 (by omega)
 ·rw [hb.block b (Array.getElem?_eq_some_iff.1 h.box).1 (by omega)]
  exact h.box
theorem FR.alloc (h : FR g b w fv f L ov op x M wx) (o : Obj) : FR g b w fv f L ov op x M (wx.alloc o) := h.call ((But.refl _ _).alloc o) (h.num.alloc o)
theorem FR.set3 (h : FR g b w fv f L ov op x M wx) (y : Tk) : FR g b w fv f L ov op y M (((wx.setCell ⟨b, 0, none⟩ (.int .i64 y.k)).setCell ⟨b, 1, none⟩ (.string y.t)).setCell ⟨b, 2, none⟩ (.int .i64 y.d)) := by
 have hg := h.gB
 have hbB := h.bB
 refine ⟨own_same h.own fun k hk => set3_other _ _ _ _ (h.nf k hk), own_same h.ownO fun k hk => set3_other _ _ _ _ (h.no k hk), h.apart, h.nf, h.no, box_set3 h.box _ _ _, ?_, h.num.keepg fun k hk => set3_other _ _ _ _ (by omega), hg, hbB⟩
 exact ⟨h.but.os, h.but.tape, h.but.output, by rw [set3_size]; exact h.but.size, fun k hk hn => (set3_other _ _ _ _ (by omega)).trans (h.but.block k hk hn)⟩
end
def FragRet (g : Nat) (l : List Tk) (w : World) (e : Ending) (w' : World) : Prop := ∃ v, e = .returned v ∧ OwnT 31 w' w.heap.size v l ∧ But g w w'
end Go.Proofs.YtfkojnofbpdjdaaGreatDoor

namespace Go.Proofs.YtfkojnofbpdjdaaGreatDoor
set_option maxRecDepth 100000
def chI (c : UInt8) : Tk := ⟨1, ⟨#[c]⟩, 0⟩
def expI (x : Tk) : List Tk := if x.k = 1 then x.t.data.toList.map chI else [x]
def expF (f : List Tk) : List Tk := f.flatMap expI
def One (x : Tk) : Prop := x.k = 1 → ∃ c, x = chI c
theorem expF_app (f g : List Tk) : expF (f ++ g) = expF f ++ expF g := by simp [expF]
theorem expF_one (x : Tk) : expF [x] = expI x := by simp [expF]
theorem expF_cons (x : Tk) (f : List Tk) : expF (x :: f) = expI x ++ expF f := by simp [expF]
theorem expI_One (x : Tk) (h : One x) : expI x = [x] := by
 unfold expI
 split
 ·rename_i hk
  obtain ⟨c, rfl⟩ := h hk
  rfl
 ·rfl
theorem expI_len (x : Tk) : (expI x).length = wdI x := by
 unfold expI wdI
 split
 ·rw [List.length_map]; simp
 ·rfl
theorem expF_len : ∀ f : List Tk, (expF f).length = lenI f
 | [] => rfl
 | x :: f => by rw [expF_cons, List.length_append, expI_len, expF_len f, lenI]
theorem expI_ones (x : Tk) : ∀ y ∈ expI x, One y := by
 unfold expI
 intro y hy
 split at hy
 ·obtain ⟨c, _, rfl⟩ := List.mem_map.1 hy
  exact fun _ => ⟨c, rfl⟩
 ·rename_i hk
  rw [List.mem_singleton.1 hy]
  exact fun h => absurd h hk
theorem expF_ones (f : List Tk) : ∀ y ∈ expF f, One y := by
 intro y hy
 obtain ⟨x, _, hx⟩ := List.mem_flatMap.1 hy
 exact expI_ones x y hx
theorem expF_id : ∀ (u : List Tk), (∀ y ∈ u, One y) → expF u = u
 | [], _ => rfl
 | x :: u, h => by
   rw [expF_cons, expI_One x (h x (by simp)), expF_id u (fun y hy => h y (by simp [hy]))]
   rfl
theorem chs_step (out : List Tk) : ∀ (l : List UInt8) (t : ByteArray), (l.map chI).foldl normStep (normStep out ⟨1, t, 0⟩) = normStep out ⟨1, t ++ ⟨l.toArray⟩, 0⟩
 | [], t => by rw [List.map_nil, List.foldl_nil, append_empty]
 | c :: l, t => by
   rw [List.map_cons, List.foldl_cons]
   have e := step_assoc out t ⟨#[c]⟩ 0 0 0
   show (l.map chI).foldl normStep (normStep (normStep out ⟨1, t, 0⟩) ⟨1, ⟨#[c]⟩, 0⟩) = _
   rw [e, chs_step out l]
   congr 2
   apply bytes_ext
   simp
theorem expI_fold (out : List Tk) (x : Tk) : (expI x).foldl normStep out = normStep out x := by
 unfold expI
 split
 ·rename_i hk
  obtain ⟨k, t, d⟩ := x
  simp only at hk
  subst hk
  simp only
  have h0 : normStep out ⟨1, ⟨#[]⟩, 0⟩ = out := step_none out _ 0 rfl
  have h := chs_step out t.data.toList ⟨#[]⟩
  rw [h0, empty_append] at h
  rw [h]
  have e : (⟨t.data.toList.toArray⟩ : ByteArray) = t := by cases t; simp
  rw [e]
  by_cases ht : t.size = 0
  ·rw [step_none _ _ _ ht, step_none _ _ _ ht]
  ·rcases List.eq_nil_or_concat out with rfl | ⟨o, y, rfl⟩
   ·rw [step_first ⟨1, t, 0⟩ rfl ht, step_first ⟨1, t, d⟩ rfl ht]
   ·by_cases hy : y.k = 1
    ·rw [List.concat_eq_append, step_join o y ⟨1, t, 0⟩ rfl ht hy, step_join o y ⟨1, t, d⟩ rfl ht hy]
    ·rw [List.concat_eq_append, step_new o y ⟨1, t, 0⟩ rfl ht hy, step_new o y ⟨1, t, d⟩ rfl ht hy]
 ·rfl
theorem expF_fold : ∀ (f out : List Tk), (expF f).foldl normStep out = f.foldl normStep out
 | [], _ => rfl
 | x :: f, out => by rw [expF_cons, List.foldl_append, expI_fold, expF_fold f, List.foldl_cons]
theorem normL_exp (f : List Tk) : normL (expF f) = normL f := expF_fold f []
theorem normL_app_exp (f g : List Tk) : normL (f ++ g) = normL (expF f ++ expF g) := by rw [← expF_app, normL_exp]
theorem expF_step (out : List Tk) (x : Tk) : expF (normStep out x) = expF out ++ expI x := by
 by_cases hk : x.k = 1
 ·have ex : expI x = x.t.data.toList.map chI := by unfold expI; rw [if_pos hk]
  by_cases h2 : x.t.size = 0
  ·rw [step_empty out x hk h2, ex]
   have : x.t.data.toList = [] := List.eq_nil_of_length_eq_zero (by rw [← Lib.size_eq]; exact h2)
   rw [this]
   simp
  ·rcases List.eq_nil_or_concat out with rfl | ⟨o, y, rfl⟩
   ·rw [step_first x hk h2, expF_one, ex]
    rfl
   ·rw [List.concat_eq_append]
    by_cases hy : y.k = 1
    ·rw [step_join o y x hk h2 hy, expF_app, expF_app, expF_one, expF_one, ex, List.append_assoc]
     congr 1
     have e1 : expI ⟨1, y.t ++ x.t, 0⟩ = (y.t ++ x.t).data.toList.map chI := rfl
     have e2 : expI y = y.t.data.toList.map chI := by unfold expI; rw [if_pos hy]
     rw [e1, e2]
     simp
    ·rw [step_new o y x hk h2 hy, expF_app, expF_one, ex]
     rfl
 ·rw [step_other out x hk, expF_app, expF_one]
theorem expF_foldl : ∀ (f out : List Tk), expF (f.foldl normStep out) = expF out ++ expF f
 | [], out => by simp [expF]
 | x :: f, out => by rw [List.foldl_cons, expF_foldl f, expF_step, expF_cons, List.append_assoc]
theorem expF_norm (f : List Tk) : expF (normL f) = expF f := by
 have h := expF_foldl f []
 rw [show expF ([] : List Tk) = [] from rfl, List.nil_append] at h
 exact h
theorem norm_of_exp (f : List Tk) (h : Normal f) : normL (expF f) = f := by rw [normL_exp, normL_of_normal f h]
theorem expI_pc (x : Tk) (a p q : Nat) : expF (pcI x a p q) = ((expI x).take (q - a)).drop (p - a) := by
 unfold pcI
 by_cases hx : x.k = 1
 ·rw [if_neg (by omega)]
  have e : expI x = x.t.data.toList.map chI := by unfold expI; rw [if_pos hx]
  have hl : x.t.data.toList.length = x.t.size := by simp
  rw [e]
  by_cases h : max p a - a < min q (a + x.t.size) - a
  ·rw [if_pos h, expF_one]
   show (x.t.extract (max p a - a) (min q (a + x.t.size) - a)).data.toList.map _ = _
   rw [ByteArray.data_extract, Array.toList_extract, ← List.map_take, ← List.map_drop]
   congr 1
   rw [List.extract_eq_take_drop, List.drop_take]
   rw [show p - a = max p a - a by omega]
   by_cases h2 : q ≤ a + x.t.size
   ·rw [show min q (a + x.t.size) - a = q - a by omega]
   ·rw [show min q (a + x.t.size) - a = x.t.size by omega]
    rw [List.take_of_length_le (by rw [List.length_drop, hl]; omega), List.take_of_length_le (by rw [List.length_drop, hl]; omega)]
  ·rw [if_neg h]
   rw [List.drop_eq_nil_of_le (by rw [List.length_take, List.length_map, hl]; omega)]
   rfl
 ·rw [if_pos hx]
  have hc : expI x = [x] := by unfold expI; rw [if_neg hx]
  by_cases h : p ≤ a ∧ a < q
  ·rw [if_pos h, expF_one, hc, show q - a = (q - a - 1) + 1 by omega, show p - a = 0 by omega]
   simp
  ·rw [if_neg h, hc]
   by_cases h2 : a < q
   ·rw [show p - a = (p - a - 1) + 1 by omega, show q - a = (q - a - 1) + 1 by omega]
    simp [expF]
   ·rw [show q - a = 0 by omega]
    simp [expF]
theorem expF_sl (p q : Nat) : ∀ (f : List Tk) (a : Nat), expF (slI f a p q) = ((expF f).take (q - a)).drop (p - a)
 | [], a => by simp [slI, expF]
 | x :: f, a => by
   rw [slI, expF_app, expI_pc, expF_sl p q f, show x :: f = [x] ++ f from rfl, expF_app [x] f, expF_one, cut_app, expI_len]
end Go.Proofs.YtfkojnofbpdjdaaGreatDoor

namespace Go.Proofs.YtfkojnofbpdjdaaGreatDoor
set_option maxRecDepth 100000
def tagN (l : List UInt8) : List UInt8 := l.takeWhile (fun c => c != 32)
theorem nameB_list (s : ByteArray) : (nameB s).data.toList = tagN s.data.toList := by simp [nameB, tagN]
def cntB (c : UInt8) : Bool := decide (32 ≤ c.toNat ∧ c.toNat ≤ 126) && !(c == 60) && !(c == 62) && !(c == 123) && !(c == 125)
def contL (l : List UInt8) : Bool := decide (l.length ≤ 64) && !(l.getLastD 47 == 47) && l.all cntB && nameL (tagN l) && (decide ((tagN l).length = l.length) || decide ((tagN l).length + 1 < l.length))
def wP : List UInt8 := [112]
def wH : List UInt8 := [104]
def wLi : List UInt8 := [108, 105]
def wTd : List UInt8 := [116, 100]
def wTitle : List UInt8 := [116, 105, 116, 108, 101]
def blockL (l : List UInt8) : Bool := l == wP || l == wH || l == wLi || l == wTd || l == wTitle
def encB (fmt : Int) (c : UInt8) : List UInt8 :=
 if fmt = 1 then (if c = 60 then [38, 108, 116, 59] else if c = 38 then [38, 97, 109, 112, 59] else if c = 123 then [38, 108, 98, 59] else [c])
 else if fmt = 2 then (if c = 10 then [92, 110] else if c = 9 then [92, 116] else if c = 13 then [92, 114] else if c = 92 then [92, 92] else if c = 123 then [92, 123] else [c])
 else (if c = 34 then [34, 34] else if c = 123 then [123, 123] else [c])
def encE (fmt : Int) (x : Tk) : List UInt8 :=
 if x.k = 1 then x.t.data.toList.flatMap (encB fmt)
 else if x.k = 2 then 60 :: x.t.data.toList ++ [62]
 else if x.k = 3 then 60 :: 47 :: x.t.data.toList ++ [62]
 else if x.k = 4 then 60 :: x.t.data.toList ++ [47, 62]
 else 123 :: x.t.data.toList ++ [125]
def encF (fmt : Int) (f : List Tk) : List UInt8 := f.flatMap (encE fmt)
theorem encF_app (fmt : Int) (f g : List Tk) : encF fmt (f ++ g) = encF fmt f ++ encF fmt g := by simp [encF]
theorem encE_exp (fmt : Int) (x : Tk) : encF fmt (expI x) = encE fmt x := by
 unfold expI
 split
 ·rename_i hk
  unfold encF encE
  rw [if_pos hk, List.flatMap_map]
  congr 1
  funext c
  show (if (1 : Int) = 1 then [c].flatMap (encB fmt) else _) = _
  rw [if_pos rfl]
  simp
 ·simp [encF]
theorem encF_exp (fmt : Int) : ∀ f : List Tk, encF fmt (expF f) = encF fmt f
 | [] => rfl
 | x :: f => by rw [expF_cons, encF_app, encE_exp, encF_exp fmt f]; rfl
def refsL : List (List UInt8 × UInt8) := [([38, 108, 116, 59], 60), ([38, 103, 116, 59], 62), ([38, 97, 109, 112, 59], 38), ([38, 108, 98, 59], 123), ([38, 114, 98, 59], 125)]
def escL : List (UInt8 × UInt8) := [(110, 10), (116, 9), (115, 32), (114, 13), (92, 92), (123, 123)]
inductive ElOk : Int → List UInt8 → Option Tk → Prop
 | slot (fmt : Int) (n : List UInt8) (h : nameL n = true) : ElOk fmt (123 :: n ++ [125]) (some ⟨5, ofL n, 0⟩)
 | ch1 (c : UInt8) (h : c ≠ 60 ∧ c ≠ 38 ∧ c ≠ 123) : ElOk 1 [c] (some (chI c))
 | ref (r : List UInt8) (c : UInt8) (h : (r, c) ∈ refsL) : ElOk 1 r (some (chI c))
 | opn (t : List UInt8) (d : Int) (h : contL t = true) (hb : blockL (tagN t) = false) : ElOk 1 (60 :: t ++ [62]) (some ⟨2, ofL t, d⟩)
 | cls (t : List UInt8) (d : Int) (h : nameL t = true) (hb : blockL t = false) : ElOk 1 (60 :: 47 :: t ++ [62]) (some ⟨3, ofL t, d⟩)
 | emp (t : List UInt8) (d : Int) (h : contL t = true) (hb : blockL (tagN t) = false) : ElOk 1 (60 :: t ++ [47, 62]) (some ⟨4, ofL t, d⟩)
 | ch2 (c : UInt8) (h : c ≠ 10 ∧ c ≠ 92 ∧ c ≠ 123) : ElOk 2 [c] (some (chI c))
 | esc (e c : UInt8) (h : (e, c) ∈ escL) : ElOk 2 [92, e] (some (chI c))
 | cont (b : List UInt8) (h : ∀ c ∈ b, c = 32 ∨ c = 9) : ElOk 2 (92 :: 10 :: b) none
 | ch3 (c : UInt8) (h : c ≠ 34 ∧ c ≠ 123) : ElOk 3 [c] (some (chI c))
 | two (c : UInt8) (h : c = 34 ∨ c = 123) : ElOk 3 [c, c] (some (chI c))
abbrev Els := List (List UInt8 × Option Tk)
def rawE (ts : Els) : List UInt8 := ts.flatMap (·.1)
def itmE (ts : Els) : List Tk := ts.filterMap (·.2)
def cutE : Els → Nat → Nat → List Nat
 | [], _, _ => []
 | (r, none) :: ts, at_, b => cutE ts (at_ + r.length) b
 | (r, some _) :: ts, at_, b => b :: cutE ts (at_ + r.length) (at_ + r.length)
def endE : Els → Nat → Nat → Nat
 | [], _, b => b
 | (r, none) :: ts, at_, b => endE ts (at_ + r.length) b
 | (r, some _) :: ts, at_, _ => endE ts (at_ + r.length) (at_ + r.length)
def ContOk : Els → Prop
 | [] => True
 | [_] => True
 | (r, x) :: (r', y) :: ts => (x = none → r'.head? ≠ some 32 ∧ r'.head? ≠ some 9) ∧ ContOk ((r', y) :: ts)
def NumOk : List Tk → Nat → List Tk → Prop
 | [], _, op => op = []
 | x :: u, c, op =>
   if x.k = 2 then x.d = ((c + 1 : Nat) : Int) ∧ NumOk u (c + 1) (x :: op)
   else if x.k = 4 then x.d = ((c + 1 : Nat) : Int) ∧ NumOk u (c + 1) op
   else if x.k = 3 then ∃ y op', op = y :: op' ∧ nameB y.t = x.t ∧ x.d = y.d ∧ NumOk u c op'
   else NumOk u c op
structure RawOk (fmt : Int) (ts : Els) : Prop where
 els : ∀ e ∈ ts, ElOk fmt e.1 e.2
 cont : ContOk ts
 num : NumOk (itmE ts) 0 []
 len : (itmE ts).length ≤ 500
def tsF (fmt : Int) (f : List Tk) : Els := (expF f).map fun x => (encE fmt x, some x)
theorem raw_tsF (fmt : Int) (f : List Tk) : rawE (tsF fmt f) = encF fmt f := by
 rw [← encF_exp]
 unfold rawE tsF encF
 rw [List.flatMap_map]
theorem itm_tsF (fmt : Int) (f : List Tk) : itmE (tsF fmt f) = expF f := by
 unfold itmE tsF
 rw [List.filterMap_map]
 induction expF f with
 | nil => rfl
 | cons x l ih => exact congrArg (x :: ·) ih
theorem cont_some : ∀ ts : Els, (∀ e ∈ ts, e.2 ≠ none) → ContOk ts
 | [], _ => trivial
 | [_], _ => trivial
 | (r, x) :: (r', y) :: ts, h => ⟨fun hx => absurd hx (h (r, x) (by simp)), cont_some ((r', y) :: ts) (fun e he => h e (List.mem_cons_of_mem _ he))⟩
def PlainOk (x : Tk) : Prop := x.k = 1 ∨ (x.k = 5 ∧ nameL x.t.data.toList = true ∧ x.d = 0)
theorem el_ch (fmt : Int) (hf : fmt = 1 ∨ fmt = 2 ∨ fmt = 3) (c : UInt8) : ElOk fmt (encB fmt c) (some (chI c)) := by
 rcases hf with rfl | rfl | rfl
 ·unfold encB
  rw [if_pos rfl]
  by_cases h1 : c = 60
  ·rw [if_pos h1, h1]; exact ElOk.ref _ _ (by decide)
  ·rw [if_neg h1]
   by_cases h2 : c = 38
   ·rw [if_pos h2, h2]; exact ElOk.ref _ _ (by decide)
   ·rw [if_neg h2]
    by_cases h3 : c = 123
    ·rw [if_pos h3, h3]; exact ElOk.ref _ _ (by decide)
    ·rw [if_neg h3]; exact ElOk.ch1 c ⟨h1, h2, h3⟩
 ·unfold encB
  rw [if_neg (by decide), if_pos rfl]
  by_cases h1 : c = 10
  ·rw [if_pos h1, h1]; exact ElOk.esc _ _ (by decide)
  ·rw [if_neg h1]
   by_cases h2 : c = 9
   ·rw [if_pos h2, h2]; exact ElOk.esc _ _ (by decide)
   ·rw [if_neg h2]
    by_cases h3 : c = 13
    ·rw [if_pos h3, h3]; exact ElOk.esc _ _ (by decide)
    ·rw [if_neg h3]
     by_cases h4 : c = 92
     ·rw [if_pos h4, h4]; exact ElOk.esc _ _ (by decide)
     ·rw [if_neg h4]
      by_cases h5 : c = 123
      ·rw [if_pos h5, h5]; exact ElOk.esc _ _ (by decide)
      ·rw [if_neg h5]; exact ElOk.ch2 c ⟨h1, h4, h5⟩
 ·unfold encB
  rw [if_neg (by decide), if_neg (by decide)]
  by_cases h1 : c = 34
  ·rw [if_pos h1, h1]; exact ElOk.two _ (Or.inl rfl)
  ·rw [if_neg h1]
   by_cases h2 : c = 123
   ·rw [if_pos h2, h2]; exact ElOk.two _ (Or.inr rfl)
   ·rw [if_neg h2]; exact ElOk.ch3 c ⟨h1, h2⟩
theorem encE_ch (fmt : Int) (c : UInt8) : encE fmt (chI c) = encB fmt c := by
 unfold encE chI
 rw [if_pos rfl]
 simp
theorem num_plain : ∀ (u : List Tk), (∀ x ∈ u, x.k = 1 ∨ x.k = 5) → NumOk u 0 []
 | [], _ => rfl
 | x :: u, h => by
   have hx := h x (by simp)
   unfold NumOk
   rw [if_neg (by omega), if_neg (by omega), if_neg (by omega)]
   exact num_plain u (fun y hy => h y (by simp [hy]))
theorem exp_kinds (f : List Tk) (h : ∀ x ∈ f, PlainOk x) : ∀ x ∈ expF f, PlainOk x ∧ One x := by
 intro x hx
 refine ⟨?_, expF_ones f x hx⟩
 obtain ⟨y, hy, hxy⟩ := List.mem_flatMap.1 hx
 unfold expI at hxy
 split at hxy
 ·obtain ⟨c, _, rfl⟩ := List.mem_map.1 hxy
  exact Or.inl rfl
 ·rw [List.mem_singleton.1 hxy]
  exact h y hy
theorem plain_raw (fmt : Int) (hf : fmt = 1 ∨ fmt = 2 ∨ fmt = 3) (f : List Tk) (h : ∀ x ∈ f, PlainOk x) (hl : lenI f ≤ 500) : RawOk fmt (tsF fmt f) := by
 refine ⟨fun e he => ?_, cont_some _ fun e he => ?_, ?_, ?_⟩
 ·obtain ⟨x, hx, rfl⟩ := List.mem_map.1 he
  obtain ⟨hp, ho⟩ := exp_kinds f h x hx
  simp only
  rcases hp with h1 | ⟨h5, hn, hd⟩
  ·obtain ⟨c, rfl⟩ := ho h1
   rw [encE_ch]
   exact el_ch fmt hf c
  ·obtain ⟨k, t, d⟩ := x
   simp only at h5 hn hd
   subst h5 hd
   have e : encE fmt ⟨5, t, 0⟩ = 123 :: t.data.toList ++ [125] := by
    unfold encE
    rw [if_neg (show ¬ (5 : Int) = 1 by decide), if_neg (show ¬ (5 : Int) = 2 by decide), if_neg (show ¬ (5 : Int) = 3 by decide), if_neg (show ¬ (5 : Int) = 4 by decide)]
   rw [e]
   have := ElOk.slot fmt t.data.toList hn
   rwa [ofL_of] at this
 ·obtain ⟨x, _, rfl⟩ := List.mem_map.1 he
  exact fun h => by cases h
 ·rw [itm_tsF]
  exact num_plain _ fun x hx => by
   rcases (exp_kinds f h x hx).1 with h | h
   ·exact Or.inl h
   ·exact Or.inr h.1
 ·rw [itm_tsF, expF_len]
  exact hl
theorem plain_back (fmt : Int) (f : List Tk) (hn : Normal f) : normL (itmE (tsF fmt f)) = f := by rw [itm_tsF, norm_of_exp f hn]
end Go.Proofs.YtfkojnofbpdjdaaGreatDoor

namespace Go.Proofs.YtfkojnofbpdjdaaGreatDoor
set_option maxRecDepth 100000
def TagI (x : Tk) : Prop := x.k = 2 ∨ x.k = 3 ∨ x.k = 4
def WfI (x : Tk) : Prop := x.k = 1 ∨ (x.k = 5 ∧ nameL x.t.data.toList = true ∧ x.d = 0) ∨ ((x.k = 2 ∨ x.k = 4) ∧ contL x.t.data.toList = true ∧ 1 ≤ x.d ∧ x.d ≤ 999) ∨ (x.k = 3 ∧ nameL x.t.data.toList = true ∧ 1 ≤ x.d ∧ x.d ≤ 999)
def FitI (y x : Tk) : Prop := TagI y → TagI x → y.d = x.d → x.k = 3 ∧ y.k = 2 ∧ nameB y.t = x.t
structure ValF (f : List Tk) : Prop where
 len : f.length ≤ 512
 pos : lenI f ≤ 1024
 nrm : Normal f
 wf : ∀ x ∈ f, WfI x
 fit : f.Pairwise FitI
def NoBlock (f : List Tk) : Prop := ∀ x ∈ f, TagI x → blockL (tagN x.t.data.toList) = false
theorem plain_val (f : List Tk) (hn : Normal f) (h : ∀ x ∈ f, PlainOk x) (hl : lenI f ≤ 500) : ValF f := by
 have h1 := len_wd f (normal_wd f hn)
 refine ⟨by omega, by omega, hn, fun x hx => ?_, ?_⟩
 ·rcases h x hx with h | h
  ·exact Or.inl h
  ·exact Or.inr (Or.inl h)
 ·refine List.pairwise_of_forall_mem_list fun y hy x hx => ?_
  intro h1 _ _
  exfalso
  unfold TagI at h1
  rcases h y hy with h | h <;> omega
theorem plain_noblock (f : List Tk) (h : ∀ x ∈ f, PlainOk x) : NoBlock f := fun x hx ht => by
 exfalso
 unfold TagI at ht
 rcases h x hx with h | h <;> omega
theorem plain_step (out : List Tk) (x : Tk) (h : ∀ y ∈ out, PlainOk y) (hx : PlainOk x) : ∀ y ∈ normStep out x, PlainOk y := by
 intro z hz
 by_cases hk : x.k = 1
 ·by_cases h2 : x.t.size = 0
  ·rw [step_empty out x hk h2] at hz; exact h z hz
  ·rcases List.eq_nil_or_concat out with rfl | ⟨o, y, rfl⟩
   ·rw [step_first x hk h2] at hz
    rw [List.mem_singleton.1 hz]
    exact Or.inl rfl
   ·rw [List.concat_eq_append] at h hz
    by_cases hy : y.k = 1
    ·rw [step_join o y x hk h2 hy] at hz
     rcases List.mem_append.1 hz with hz | hz
     ·exact h z (List.mem_append.2 (.inl hz))
     ·rw [List.mem_singleton.1 hz]
      exact Or.inl rfl
    ·rw [step_new o y x hk h2 hy] at hz
     rcases List.mem_append.1 hz with hz | hz
     ·exact h z hz
     ·rw [List.mem_singleton.1 hz]
      exact Or.inl rfl
 ·rw [step_other out x hk] at hz
  rcases List.mem_append.1 hz with hz | hz
  ·exact h z hz
  ·rw [List.mem_singleton.1 hz]
   exact hx
theorem plain_norm (f : List Tk) (h : ∀ y ∈ f, PlainOk y) : ∀ y ∈ normL f, PlainOk y := by
 suffices hh : ∀ (g out : List Tk), (∀ y ∈ g, PlainOk y) → (∀ y ∈ out, PlainOk y) → ∀ y ∈ g.foldl normStep out, PlainOk y from hh f [] h (fun y hy => by simp at hy)
 intro g
 induction g with
 | nil => intro out _ h2; exact h2
 | cons x g ih => intro out h1 h2; exact ih _ (fun y hy => h1 y (by simp [hy])) (plain_step out x h2 (h1 x (by simp)))
/-! ### Documents -/
structure Pt where
 un : Bool
 key : ByteArray
 raw : ByteArray
structure Un where
 sk : List UInt8
 key : List UInt8
 ts : Els
def ptsD : List Un → List UInt8 → List Pt
 | [], tl => [⟨false, ofL [], ofL tl⟩]
 | u :: us, tl => ⟨false, ofL [], ofL u.sk⟩ :: ⟨true, ofL u.key, ofL (rawE u.ts)⟩ :: ptsD us tl
def dataD : List Un → List UInt8 → List UInt8
 | [], tl => tl
 | u :: us, tl => u.sk ++ rawE u.ts ++ dataD us tl
theorem pts_bytes : ∀ (us : List Un) (tl : List UInt8), ((ptsD us tl).map fun p => p.raw.data.toList).flatten = dataD us tl
 | [], tl => by simp [ptsD, dataD, ofL]
 | u :: us, tl => by
   rw [ptsD, List.map_cons, List.map_cons, List.flatten_cons, List.flatten_cons, pts_bytes us tl, dataD, List.append_assoc]
   simp [ofL]
end Go.Proofs.YtfkojnofbpdjdaaGreatDoor

namespace Go.Proofs.YtfkojnofbpdjdaaGreatDoor
set_option maxRecDepth 100000
theorem idx_at (l rest : List UInt8) (c : UInt8) (h : ∀ b ∈ l, b ≠ c) : Lib.indexByte (l ++ c :: rest) c = (l.length : Int) := by
 induction l with
 | nil => rw [List.nil_append, Lib.indexByte, if_pos (by simp)]; rfl
 | cons b l ih =>
   have hb : (b == c) = false := by simpa using h b (by simp)
   have e := ih (fun x hx => h x (by simp [hx]))
   rw [List.cons_append, Lib.indexByte, if_neg (by simp [hb]), e, if_neg (by rw [beq_iff_eq]; omega), List.length_cons]
   omega
theorem pre_yes (p r : List UInt8) : Lib.hasPrefix (p ++ r) p = true := by
 unfold Lib.hasPrefix
 rw [List.isPrefixOf_iff_prefix]
 exact List.prefix_append p r
theorem pre_head (c d : UInt8) (s p : List UInt8) (h : c ≠ d) : Lib.hasPrefix (c :: s) (d :: p) = false := by
 unfold Lib.hasPrefix
 rw [List.isPrefixOf]
 have : (d == c) = false := by simpa using fun e : d = c => h e.symm
 rw [this, Bool.false_and]
theorem suf_last (l p : List UInt8) (c d : UInt8) : Lib.hasSuffix (l ++ [c]) [d] = (d == c) := by
 unfold Lib.hasSuffix
 rw [List.isSuffixOf]
 simp [List.isPrefixOf]
theorem name_head (l : List UInt8) (h : nameL l = true) : ∃ c r, l = c :: r ∧ headB c = true ∧ r.length ≤ 23 ∧ r.all restB = true := by
 cases l with
 | nil => simp [nameL] at h
 | cons c r =>
   simp [nameL] at h
   exact ⟨c, r, rfl, h.1.2, by omega, by simpa using h.2⟩
theorem name_bytes (l : List UInt8) (h : nameL l = true) : ∀ b ∈ l, (97 ≤ b.toNat ∧ b.toNat ≤ 122) ∨ (48 ≤ b.toNat ∧ b.toNat ≤ 57) ∨ b.toNat = 45 := by
 obtain ⟨c, r, rfl, h1, _, h3⟩ := name_head l h
 intro b hb
 rcases List.mem_cons.1 hb with rfl | hb
 ·exact Or.inl (by simpa [headB] using h1)
 ·have := List.all_eq_true.1 h3 b hb
  simpa [restB] using this
theorem name_not (l : List UInt8) (h : nameL l = true) (c : UInt8) (hc : c = 125 ∨ c = 62 ∨ c = 47 ∨ c = 60 ∨ c = 123 ∨ c = 32) : ∀ b ∈ l, b ≠ c := by
 intro b hb e
 have hh := name_bytes l h b hb
 rw [e] at hh
 rcases hc with rfl | rfl | rfl | rfl | rfl | rfl <;> revert hh <;> decide
theorem cont_parts (l : List UInt8) (h : contL l = true) : l.length ≤ 64 ∧ l.getLastD 47 ≠ 47 ∧ (∀ b ∈ l, cntB b = true) ∧ nameL (tagN l) = true ∧ ((tagN l).length = l.length ∨ (tagN l).length + 1 < l.length) := by
 unfold contL at h
 simp only [Bool.and_eq_true, Bool.or_eq_true, decide_eq_true_eq, Bool.not_eq_true', beq_eq_false_iff_ne] at h
 obtain ⟨⟨⟨⟨h1, h2⟩, h3⟩, h4⟩, h5⟩ := h
 exact ⟨h1, h2, fun b hb => List.all_eq_true.1 h3 b hb, h4, h5⟩
theorem cnt_not (b : UInt8) (h : cntB b = true) : b ≠ 60 ∧ b ≠ 62 ∧ b ≠ 123 ∧ b ≠ 125 := by
 unfold cntB at h
 simp only [Bool.and_eq_true, Bool.not_eq_true', beq_eq_false_iff_ne] at h
 exact ⟨h.1.1.1.2, h.1.1.2, h.1.2, h.2⟩
theorem cont_not (l : List UInt8) (h : contL l = true) : (∀ b ∈ l, b ≠ 62) ∧ (∀ b ∈ l, b ≠ 60) :=
 ⟨fun b hb => (cnt_not b ((cont_parts l h).2.2.1 b hb)).2.1, fun b hb => (cnt_not b ((cont_parts l h).2.2.1 b hb)).1⟩
theorem tagN_pre (l : List UInt8) : ∃ r, l = tagN l ++ r := ⟨l.dropWhile (fun c => c != 32), (List.takeWhile_append_dropWhile).symm⟩
theorem cont_head (l : List UInt8) (h : contL l = true) : ∃ c r, l = c :: r ∧ headB c = true := by
 obtain ⟨_, _, _, h4, _⟩ := cont_parts l h
 obtain ⟨c, r, hc, hh, _⟩ := name_head _ h4
 obtain ⟨r2, h2⟩ := tagN_pre l
 rw [hc] at h2
 exact ⟨c, r ++ r2, h2, hh⟩
theorem cont_last (l : List UInt8) (h : contL l = true) : ∃ r c, l = r ++ [c] ∧ c ≠ 47 := by
 obtain ⟨_, h2, _⟩ := cont_parts l h
 rcases List.eq_nil_or_concat l with rfl | ⟨r, c, rfl⟩
 ·exact absurd rfl h2
 ·rw [List.concat_eq_append] at h2 ⊢
  exact ⟨r, c, rfl, by simpa using h2⟩
theorem head_not (c : UInt8) (h : headB c = true) (d : UInt8) (hd : d = 47 ∨ d = 123 ∨ d = 33) : c ≠ d := by
 intro e
 rw [e] at h
 rcases hd with rfl | rfl | rfl <;> revert h <;> decide
theorem tw_self (p : UInt8 → Bool) : ∀ l : List UInt8, (∀ b ∈ l, p b = true) → l.takeWhile p = l
 | [], _ => rfl
 | c :: l, h => by rw [List.takeWhile_cons, if_pos (h c (by simp)), tw_self p l (fun b hb => h b (by simp [hb]))]
theorem tagN_name (l : List UInt8) (h : nameL l = true) : tagN l = l := by
 refine tw_self _ l fun b hb => ?_
 have := name_not l h 32 (by simp) b hb
 simpa using this
theorem slot_idx (n rest : List UInt8) (h : nameL n = true) : Lib.indexByte (123 :: n ++ 125 :: rest) 125 = ((n.length + 1 : Nat) : Int) := by
 have e := idx_at (123 :: n) rest 125 (fun b hb => by
  rcases List.mem_cons.1 hb with rfl | hb
  ·decide
  ·exact name_not n h 125 (by simp) b hb)
 exact e
theorem tag_idx (t rest : List UInt8) (h : ∀ b ∈ t, b ≠ 62) : Lib.indexByte (60 :: t ++ 62 :: rest) 62 = ((t.length + 1 : Nat) : Int) := by
 have e := idx_at (60 :: t) rest 62 (fun b hb => by
  rcases List.mem_cons.1 hb with rfl | hb
  ·decide
  ·exact h b hb)
 exact e
end Go.Proofs.YtfkojnofbpdjdaaGreatDoor

namespace Go.Proofs.YtfkojnofbpdjdaaGreatDoor
set_option maxRecDepth 100000
def BSt (u its : List Tk) (tx : ByteArray) : Prop := NoText its ∧ normL u = its ++ (if tx.size = 0 then [] else [⟨1, tx, 0⟩])
theorem BSt.nil : BSt [] [] ⟨#[]⟩ := ⟨fun y hy => by simp at hy, rfl⟩
theorem noText_snoc (l : List Tk) (x : Tk) (h : x.k ≠ 1) : NoText (l ++ [x]) := fun y hy => by
 rw [List.getLast?_append] at hy
 simp at hy
 rw [← hy]
 exact h
theorem BSt.ch {u its : List Tk} {tx : ByteArray} (h : BSt u its tx) (c : UInt8) : BSt (u ++ [chI c]) its (tx ++ ⟨#[c]⟩) := by
 refine ⟨h.1, ?_⟩
 have hs : (tx ++ ⟨#[c]⟩).size ≠ 0 := by rw [ByteArray.size_append]; show tx.size + 1 ≠ 0; omega
 rw [normL_snoc, h.2, if_neg hs]
 by_cases h0 : tx.size = 0
 ·rw [if_pos h0, List.append_nil, empty_of_size h0, empty_append]
  exact step_noText its ⟨#[c]⟩ 0 h.1 (by show (1 : Nat) ≠ 0; decide)
 ·rw [if_neg h0]
  exact step_join its ⟨1, tx, 0⟩ (chI c) rfl (by show (1 : Nat) ≠ 0; decide) rfl
theorem BSt.item {u its : List Tk} {tx : ByteArray} (h : BSt u its tx) (x : Tk) (hx : x.k ≠ 1) : BSt (u ++ [x]) ((its ++ (if tx.size = 0 then [] else [⟨1, tx, 0⟩])) ++ [x]) ⟨#[]⟩ := by
 refine ⟨noText_snoc _ _ hx, ?_⟩
 rw [normL_snoc, h.2, step_other _ _ hx]
 exact (List.append_nil _).symm
theorem BSt.len {u its : List Tk} {tx : ByteArray} (h : BSt u its tx) : its.length + (if tx.size = 0 then 0 else 1) ≤ u.length := by
 have h1 := normL_length u
 rw [h.2, List.length_append] at h1
 split at h1
 ·rename_i h0
  rw [if_pos h0]
  exact h1
 ·rename_i h0
  rw [if_neg h0]
  exact h1
theorem BSt.text {u its : List Tk} {tx : ByteArray} (h : BSt u its tx) : tx.size ≤ lenI u := by
 have h1 := posI_norm u
 have h2 := congrArg List.length h1
 rw [posI_len, posI_len, h.2, lenI_app] at h2
 split at h2
 ·omega
 ·have : lenI [(⟨1, tx, 0⟩ : Tk)] = tx.size := by
   show wdI ⟨1, tx, 0⟩ + 0 = _
   unfold wdI
   rw [if_pos rfl]
   rfl
  omega
/-! ### Cuts -/
theorem rawE_app (a b : Els) : rawE (a ++ b) = rawE a ++ rawE b := by simp [rawE]
theorem itmE_app (a b : Els) : itmE (a ++ b) = itmE a ++ itmE b := by simp [itmE]
theorem cutE_app : ∀ (a b : Els) (p e : Nat), cutE (a ++ b) p e = cutE a p e ++ cutE b (p + (rawE a).length) (endE a p e)
 | [], b, p, e => by simp [cutE, endE, rawE]
 | (r, none) :: a, b, p, e => by
   rw [List.cons_append, cutE, cutE_app a b, cutE, endE, show rawE ((r, none) :: a) = r ++ rawE a from rfl, List.length_append, Nat.add_assoc]
 | (r, some x) :: a, b, p, e => by
   rw [List.cons_append, cutE, cutE_app a b, cutE, endE, show rawE ((r, some x) :: a) = r ++ rawE a from rfl, List.length_append, Nat.add_assoc, List.cons_append]
theorem endE_app : ∀ (a b : Els) (p e : Nat), endE (a ++ b) p e = endE b (p + (rawE a).length) (endE a p e)
 | [], b, p, e => by simp [endE, rawE]
 | (r, none) :: a, b, p, e => by
   rw [List.cons_append, endE, endE_app a b, endE, show rawE ((r, none) :: a) = r ++ rawE a from rfl, List.length_append, Nat.add_assoc]
 | (r, some x) :: a, b, p, e => by
   rw [List.cons_append, endE, endE_app a b, endE, show rawE ((r, some x) :: a) = r ++ rawE a from rfl, List.length_append, Nat.add_assoc]
theorem cutE_len : ∀ (a : Els) (p e : Nat), (cutE a p e).length = (itmE a).length
 | [], _, _ => rfl
 | (r, none) :: a, p, e => by rw [cutE, cutE_len a]; rfl
 | (r, some x) :: a, p, e => by rw [cutE, List.length_cons, cutE_len a]; rfl
theorem raw_take (ts : Els) (k : Nat) (h : k < ts.length) : rawE (ts.take (k + 1)) = rawE (ts.take k) ++ ts[k].1 := by
 rw [List.take_succ_eq_append_getElem h, rawE_app]
 simp [rawE]
theorem raw_split (ts : Els) (k : Nat) (h : k < ts.length) : rawE ts = rawE (ts.take k) ++ (ts[k].1 ++ rawE (ts.drop (k + 1))) := by
 have e : ts = ts.take k ++ ts.drop k := (List.take_append_drop k ts).symm
 have e2 : ts.drop k = ts[k] :: ts.drop (k + 1) := List.drop_eq_getElem_cons h
 have h1 : rawE ts = rawE (ts.take k) ++ rawE (ts.drop k) := by
  rw [← rawE_app, ← e]
 rw [h1, e2]
 rfl
/-! ### Numbers of tags -/
def opnN : List Tk → Nat → List Tk → Nat × List Tk
 | [], c, op => (c, op)
 | x :: u, c, op => if x.k = 2 then opnN u (c + 1) (x :: op) else if x.k = 4 then opnN u (c + 1) op else if x.k = 3 then opnN u c (op.drop 1) else opnN u c op
theorem opnN_app : ∀ (u v : List Tk) (c : Nat) (op : List Tk), opnN (u ++ v) c op = opnN v (opnN u c op).1 (opnN u c op).2
 | [], _, _, _ => rfl
 | x :: u, v, c, op => by
   rw [List.cons_append, opnN, opnN]
   split
   ·exact opnN_app u v _ _
   ·split
    ·exact opnN_app u v _ _
    ·split
     ·exact opnN_app u v _ _
     ·exact opnN_app u v _ _
theorem numOk_app : ∀ (u v : List Tk) (c : Nat) (op : List Tk), NumOk (u ++ v) c op → NumOk v (opnN u c op).1 (opnN u c op).2
 | [], _, _, _, h => h
 | x :: u, v, c, op, h => by
   rw [List.cons_append] at h
   unfold NumOk at h
   rw [opnN]
   split at h
   ·rename_i h2
    rw [if_pos h2]
    exact numOk_app u v _ _ h.2
   ·rename_i h2
    rw [if_neg h2]
    split at h
    ·rename_i h4
     rw [if_pos h4]
     exact numOk_app u v _ _ h.2
    ·rename_i h4
     rw [if_neg h4]
     split at h
     ·rename_i h3
      rw [if_pos h3]
      obtain ⟨y, op', rfl, _, _, h⟩ := h
      exact numOk_app u v _ _ h
     ·rename_i h3
      rw [if_neg h3]
      exact numOk_app u v _ _ h
theorem opnN_len : ∀ (u : List Tk) (c : Nat) (op : List Tk), (opnN u c op).2.length ≤ op.length + u.length ∧ (opnN u c op).1 ≤ c + u.length
 | [], c, op => ⟨Nat.le_refl _, Nat.le_refl _⟩
 | x :: u, c, op => by
   rw [opnN, List.length_cons]
   split
   ·have := opnN_len u (c + 1) (x :: op)
    rw [List.length_cons] at this
    omega
   ·split
    ·have := opnN_len u (c + 1) op
     omega
    ·split
     ·have := opnN_len u c (op.drop 1)
      rw [List.length_drop] at this
      omega
     ·have := opnN_len u c op
      omega
theorem opnN_end (u : List Tk) (h : NumOk u 0 []) : (opnN u 0 []).2 = [] := by
 have := numOk_app u [] 0 [] (by rw [List.append_nil]; exact h)
 exact this
end Go.Proofs.YtfkojnofbpdjdaaGreatDoor

namespace Go.Proofs.YtfkojnofbpdjdaaGreatDoor
set_option maxRecDepth 100000
open Go.RowKit
structure Mod (S : Nat → Prop) (w w' : World) : Prop where
 os : w'.os = w.os
 tape : w'.tape = w.tape
 output : w'.output = w.output
 size : w.heap.size ≤ w'.heap.size
 block : ∀ k, k < w.heap.size → ¬ S k → w'.heap[k]? = w.heap[k]?
section
variable {S T : Nat → Prop} {a b c w w' : World}
theorem Mod.refl (S : Nat → Prop) (w : World) : Mod S w w := ⟨rfl, rfl, rfl, Nat.le_refl _, fun _ _ _ => rfl⟩
theorem Mod.trans (h : Mod S a b) (k : Mod T b c) (hT : ∀ i, T i → i < a.heap.size → S i) : Mod S a c :=
 ⟨k.os.trans h.os, k.tape.trans h.tape, k.output.trans h.output, Nat.le_trans h.size k.size, fun i hi hs => (k.block i (Nat.lt_of_lt_of_le hi h.size) (fun ht => hs (hT i ht hi))).trans (h.block i hi hs)⟩
theorem Mod.weak (h : Mod S a b) (hS : ∀ i, S i → i < a.heap.size → T i) : Mod T a b := ⟨h.os, h.tape, h.output, h.size, fun i hi ht => h.block i hi (fun hs => ht (hS i hs hi))⟩
theorem Mod.of_grown {v : Value} (h : w.grownBy w' v.ownBlock) : Mod (fun k => v.ownBlock = some k) w w' := ⟨h.os, h.tape, h.output, h.size, fun k hk hn => h.block k hk (fun e => hn e.symm)⟩
theorem Mod.of_below (h : Below w.heap.size w w') : Mod (fun _ => False) w w' := ⟨h.os, h.tape, h.output, h.size, fun k hk _ => h.block k hk⟩
theorem Mod.set (w : World) (g j : Nat) (u : Value) : Mod (fun k => k = g) w (w.setCell ⟨g, j, none⟩ u) := by
 refine ⟨rfl, rfl, rfl, by simp [World.setCell], fun k _ hn => Below.heap_setCell _ _ _ _ hn⟩
theorem Mod.drew (h : Mod S a b) : Mod S a b.drew := ⟨h.os, h.tape, h.output, h.size, h.block⟩
theorem Mod.alloc (h : Mod S a b) (o : Obj) : Mod S a (b.alloc o) := h.trans (T := fun _ => False) (.of_below ((Below.refl _ _).alloc (Nat.le_refl _) o)) (fun _ h => h.elim)
theorem Mod.below {B : Nat} (h : Mod S a b) (hS : ∀ i, S i → B ≤ i) (hB : B ≤ a.heap.size) : Below B a b :=
 ⟨h.os, h.tape, h.output, h.size, fun k hk => h.block k (by omega) (fun hs => by have := hS k hs; omega)⟩
theorem Mod.own {B : Nat} {e : TypeId} {size n : Nat} {v : Value} {xs : List Value} (h : Mod S a b) (ho : a.ownsRow B e size v n xs) (hS : ∀ k, v.ownBlock = some k → ¬ S k) : b.ownsRow B e size v n xs :=
 own_same ho fun k hk => h.block k (ho.lt k hk).2 (hS k hk)
end
structure Bd (B g : Nat) (t : TypeId) (rest : List Value) (iv tv cv : Value) (its : List Tk) (tx : ByteArray) (cs : List Int) (w : World) : Prop where
 box : w.heap[g]? = some (.cells (iv :: tv :: cv :: rest).toArray t)
 its : OwnT 31 w B iv its
 txt : w.ownsRow B 5 1 tv tx.size (Go.Lib.strCells tx)
 cuts : OwnE 3 intC 1 w B cv cs
 ty : t ≠ 31 ∧ t ≠ 5 ∧ t ≠ 3
 lt : B ≤ g
def BdS (g : Nat) (iv tv cv : Value) : Nat → Prop := fun k => k = g ∨ iv.ownBlock = some k ∨ tv.ownBlock = some k ∨ cv.ownBlock = some k
theorem box_cell {w : World} {g : Nat} {l : List Value} {t : TypeId} (h : w.heap[g]? = some (.cells l.toArray t)) (j : Nat) {u : Value} (hu : l[j]? = some u) : w.cell? ⟨g, j, none⟩ = some u := by
 rw [cell_of_row _ _ j _ _ _ h, List.getElem?_toArray, hu]
theorem own_row_at {w : World} {B : Nat} {e : TypeId} {size : Nat} {v : Value} {n : Nat} {xs : List Value} (h : w.ownsRow B e size v n xs) {k : Nat} (hk : v.ownBlock = some k) : ∃ cur, w.heap[k]? = some (.cells cur e) := by
 rcases h.2 with ⟨rfl, _⟩ | ⟨g', cap, cur, rfl, _, hh, _⟩
 ·cases hk
 ·injection hk with hk
  subst hk
  exact ⟨cur, hh⟩
theorem own_own {w : World} {B B' : Nat} {e e' : TypeId} {size size' : Nat} {v v' : Value} {n n' : Nat} {xs xs' : List Value} (h : w.ownsRow B e size v n xs) (h' : w.ownsRow B' e' size' v' n' xs') (he : e' ≠ e) : Apart v v' := by
 intro k hk hk'
 obtain ⟨cur, hc⟩ := own_row_at h' hk'
 exact own_apart h hc he k hk rfl
section
variable {B g : Nat} {t : TypeId} {rest : List Value} {iv tv cv iv' tv' cv' : Value} {its its' : List Tk} {tx tx' : ByteArray} {cs cs' : List Int} {w w' : World}
theorem Bd.gsz (h : Bd B g t rest iv tv cv its tx cs w) : g < w.heap.size := (Array.getElem?_eq_some_iff.1 h.box).1
theorem Bd.cell0 (h : Bd B g t rest iv tv cv its tx cs w) : w.cell? ⟨g, 0, none⟩ = some iv := by rw [cell_of_row _ _ 0 _ _ _ h.box]; simp
theorem Bd.cell1 (h : Bd B g t rest iv tv cv its tx cs w) : w.cell? ⟨g, 1, none⟩ = some tv := by rw [cell_of_row _ _ 1 _ _ _ h.box]; simp
theorem Bd.cell2 (h : Bd B g t rest iv tv cv its tx cs w) : w.cell? ⟨g, 2, none⟩ = some cv := by rw [cell_of_row _ _ 2 _ _ _ h.box]; simp
theorem Bd.cellR (h : Bd B g t rest iv tv cv its tx cs w) {i : Nat} {u : Value} (hu : rest[i]? = some u) : w.cell? ⟨g, 3 + i, none⟩ = some u := by
 rw [cell_of_row _ _ (3 + i) _ _ _ h.box, List.getElem?_toArray, show 3 + i = i + 1 + 1 + 1 by omega, List.getElem?_cons_succ, List.getElem?_cons_succ, List.getElem?_cons_succ, hu]
theorem Bd.frozen (h : Bd B g t rest iv tv cv its tx cs w) (j : Nat) : w.frozen? ⟨g, j, none⟩ = false := frozen_rowM h.box j
theorem Bd.nI (h : Bd B g t rest iv tv cv its tx cs w) : NotAt g iv := own_apart h.its h.box h.ty.1
theorem Bd.nT (h : Bd B g t rest iv tv cv its tx cs w) : NotAt g tv := own_apart h.txt h.box h.ty.2.1
theorem Bd.nC (h : Bd B g t rest iv tv cv its tx cs w) : NotAt g cv := own_apart h.cuts h.box h.ty.2.2
theorem Bd.aIT (h : Bd B g t rest iv tv cv its tx cs w) : Apart iv tv := own_own h.its h.txt (by decide)
theorem Bd.aIC (h : Bd B g t rest iv tv cv its tx cs w) : Apart iv cv := own_own h.its h.cuts (by decide)
theorem Bd.aTI (h : Bd B g t rest iv tv cv its tx cs w) : Apart tv iv := own_own h.txt h.its (by decide)
theorem Bd.aTC (h : Bd B g t rest iv tv cv its tx cs w) : Apart tv cv := own_own h.txt h.cuts (by decide)
theorem Bd.aCI (h : Bd B g t rest iv tv cv its tx cs w) : Apart cv iv := own_own h.cuts h.its (by decide)
theorem Bd.aCT (h : Bd B g t rest iv tv cv its tx cs w) : Apart cv tv := own_own h.cuts h.txt (by decide)
theorem Bd.grT (h : Bd B g t rest iv tv cv its tx cs w) (hg : w.grownBy w' tv.ownBlock) : w'.heap[g]? = some (.cells (iv :: tv :: cv :: rest).toArray t) := (hg.block g h.gsz (fun e => h.nT g e.symm rfl)).trans h.box
theorem Bd.grC (h : Bd B g t rest iv tv cv its tx cs w) (hg : w.grownBy w' cv.ownBlock) : w'.heap[g]? = some (.cells (iv :: tv :: cv :: rest).toArray t) := (hg.block g h.gsz (fun e => h.nC g e.symm rfl)).trans h.box
theorem Bd.grI (h : Bd B g t rest iv tv cv its tx cs w) (hg : w.grownBy w' iv.ownBlock) : w'.heap[g]? = some (.cells (iv :: tv :: cv :: rest).toArray t) := (hg.block g h.gsz (fun e => h.nI g e.symm rfl)).trans h.box
theorem Bd.mod {S : Nat → Prop} (h : Bd B g t rest iv tv cv its tx cs w) (hm : Mod S w w') (hS : ∀ k, BdS g iv tv cv k → ¬ S k) : Bd B g t rest iv tv cv its tx cs w' :=
 ⟨(hm.block g h.gsz (hS g (.inl rfl))).trans h.box, hm.own h.its fun k hk => hS k (.inr (.inl hk)), hm.own h.txt fun k hk => hS k (.inr (.inr (.inl hk))), hm.own h.cuts fun k hk => hS k (.inr (.inr (.inr hk))), h.ty, h.lt⟩
theorem Bd.below (h : Bd B g t rest iv tv cv its tx cs w) (hb : Below w.heap.size w w') : Bd B g t rest iv tv cv its tx cs w' := h.mod (.of_below hb) fun _ _ hf => hf
theorem Bd.alloc (h : Bd B g t rest iv tv cv its tx cs w) (o : Obj) : Bd B g t rest iv tv cv its tx cs (w.alloc o) := h.below ((Below.refl _ _).alloc (Nat.le_refl _) o)
theorem Bd.drewN (h : Bd B g t rest iv tv cv its tx cs w) (n : Nat) : Bd B g t rest iv tv cv its tx cs (w.drewN n) := ⟨h.box, h.its, h.txt, h.cuts, h.ty, h.lt⟩
theorem Bd.drew (h : Bd B g t rest iv tv cv its tx cs w) : Bd B g t rest iv tv cv its tx cs w.drew := ⟨h.box, h.its, h.txt, h.cuts, h.ty, h.lt⟩
theorem Bd.putT (h : Bd B g t rest iv tv cv its tx cs w) (ho : w'.ownsRow B 5 1 tv' tx'.size (Go.Lib.strCells tx')) (hg : w.grownBy w' tv.ownBlock) :
 Bd B g t rest iv tv' cv its tx' cs (w'.setCell ⟨g, 1, none⟩ tv') ∧ Mod (fun k => k = g ∨ tv.ownBlock = some k) w (w'.setCell ⟨g, 1, none⟩ tv') := by
 have hm := Mod.of_grown hg
 have hbox : w'.heap[g]? = some (.cells (iv :: tv :: cv :: rest).toArray t) := (hm.block g h.gsz (fun e => h.nT g e rfl)).trans h.box
 have hs := Mod.set w' g 1 tv'
 have hI := hm.own h.its fun k hk e => h.aIT k hk e
 have hC := hm.own h.cuts fun k hk e => h.aCT k hk e
 refine ⟨⟨by rw [set_row hbox]; simp, hs.own hI fun k hk e => h.nI k hk e, hs.own ho fun k hk e => own_apart ho hbox h.ty.2.1 k hk e, hs.own hC fun k hk e => h.nC k hk e, h.ty, h.lt⟩, ?_⟩
 exact (hm.weak (T := fun k => k = g ∨ tv.ownBlock = some k) fun i hi _ => .inr hi).trans hs fun i hi _ => .inl hi
theorem Bd.putC (h : Bd B g t rest iv tv cv its tx cs w) (ho : OwnE 3 intC 1 w' B cv' cs') (hg : w.grownBy w' cv.ownBlock) :
 Bd B g t rest iv tv cv' its tx cs' (w'.setCell ⟨g, 2, none⟩ cv') ∧ Mod (fun k => k = g ∨ cv.ownBlock = some k) w (w'.setCell ⟨g, 2, none⟩ cv') := by
 have hm := Mod.of_grown hg
 have hbox : w'.heap[g]? = some (.cells (iv :: tv :: cv :: rest).toArray t) := (hm.block g h.gsz (fun e => h.nC g e rfl)).trans h.box
 have hs := Mod.set w' g 2 cv'
 have hI := hm.own h.its fun k hk e => h.aIC k hk e
 have hT := hm.own h.txt fun k hk e => h.aTC k hk e
 refine ⟨⟨by rw [set_row hbox]; simp, hs.own hI fun k hk e => h.nI k hk e, hs.own hT fun k hk e => h.nT k hk e, hs.own ho fun k hk e => own_apart ho hbox h.ty.2.2 k hk e, h.ty, h.lt⟩, ?_⟩
 exact (hm.weak (T := fun k => k = g ∨ cv.ownBlock = some k) fun i hi _ => .inr hi).trans hs fun i hi _ => .inl hi
theorem Bd.putI (h : Bd B g t rest iv tv cv its tx cs w) (ho : OwnT 31 w' B iv' its') (hg : w.grownBy w' iv.ownBlock) :
 Bd B g t rest iv' tv cv its' tx cs (w'.setCell ⟨g, 0, none⟩ iv') ∧ Mod (fun k => k = g ∨ iv.ownBlock = some k) w (w'.setCell ⟨g, 0, none⟩ iv') := by
 have hm := Mod.of_grown hg
 have hbox : w'.heap[g]? = some (.cells (iv :: tv :: cv :: rest).toArray t) := (hm.block g h.gsz (fun e => h.nI g e rfl)).trans h.box
 have hs := Mod.set w' g 0 iv'
 have hT := hm.own h.txt fun k hk e => h.aTI k hk e
 have hC := hm.own h.cuts fun k hk e => h.aCI k hk e
 refine ⟨⟨by rw [set_row hbox]; simp, hs.own ho fun k hk e => own_apart ho hbox h.ty.1 k hk e, hs.own hT fun k hk e => h.nT k hk e, hs.own hC fun k hk e => h.nC k hk e, h.ty, h.lt⟩, ?_⟩
 exact (hm.weak (T := fun k => k = g ∨ iv.ownBlock = some k) fun i hi _ => .inr hi).trans hs fun i hi _ => .inl hi
theorem Bd.noT (h : Bd B g t rest iv tv cv its tx cs w) : Bd B g t rest iv (.slice none 0 0) cv its ⟨#[]⟩ cs (w.setCell ⟨g, 1, none⟩ (.slice none 0 0)) ∧ Mod (fun k => k = g) w (w.setCell ⟨g, 1, none⟩ (.slice none 0 0)) := by
 have hs := Mod.set w g 1 (.slice none 0 0)
 exact ⟨⟨by rw [set_row h.box]; simp, hs.own h.its fun k hk e => h.nI k hk e, World.ownsRow_nil _ _ _ _, hs.own h.cuts fun k hk e => h.nC k hk e, h.ty, h.lt⟩, hs⟩
theorem Bd.putR (h : Bd B g t rest iv tv cv its tx cs w) (i : Nat) (u : Value) : Bd B g t (rest.set i u) iv tv cv its tx cs (w.setCell ⟨g, 3 + i, none⟩ u) ∧ Mod (fun k => k = g) w (w.setCell ⟨g, 3 + i, none⟩ u) := by
 have hs := Mod.set w g (3 + i) u
 refine ⟨⟨?_, hs.own h.its fun k hk e => h.nI k hk e, hs.own h.txt fun k hk e => h.nT k hk e, hs.own h.cuts fun k hk e => h.nC k hk e, h.ty, h.lt⟩, hs⟩
 rw [set_row h.box, show 3 + i = i + 1 + 1 + 1 by omega]
 simp
theorem Bd.start {o : Obj} (hB : B ≤ w.heap.size) (ho : o = .cells (.slice none 0 0 :: .slice none 0 0 :: .slice none 0 0 :: rest).toArray t) (ht : t ≠ 31 ∧ t ≠ 5 ∧ t ≠ 3) :
 Bd B w.heap.size t rest (.slice none 0 0) (.slice none 0 0) (.slice none 0 0) [] ⟨#[]⟩ [] (w.alloc o) :=
 ⟨by rw [ho]; exact heap_alloc_new w _, OwnE.nil, World.ownsRow_nil _ _ _ _, OwnE.nil, ht, hB⟩
end
end Go.Proofs.YtfkojnofbpdjdaaGreatDoor

namespace Go.Proofs.YtfkojnofbpdjdaaGreatDoor
set_option maxRecDepth 100000
open Go.RowKit
theorem int_infoB : (Tryz.prog.info? 3).map (fun i => (i.zero, i.size, i.bytes)) = some (some (.int .i64 0), 1, 8) := by kernel_rfl
theorem txt_snoc {w : World} {B : Nat} {e : TypeId} {v : Value} {tx : ByteArray} {c : UInt8} (h : w.ownsRow B e 1 v (tx.size + 1) (Go.Lib.strCells tx ++ [.int .u8 (c.toNat : Int)])) : w.ownsRow B e 1 v (tx ++ (⟨#[c]⟩ : ByteArray)).size (Go.Lib.strCells (tx ++ (⟨#[c]⟩ : ByteArray))) := by
 rw [← str_cells_append, ByteArray.size_append]
 exact h
theorem bfull_any (b : Bool) {B g : Nat} {t : TypeId} {rest : List Value} {iv tv cv : Value} {its : List Tk} {tx : ByteArray} {cs : List Int} {w : World} (h : Bd B g t rest iv tv cv its tx cs w)
 (hl : its.length + (if tx.size = 0 then 0 else 1) + 1 ≤ 512) (hc : cs.length + 1 ≤ 1024) (hx : tx.size ≤ 1000000) :
 Calls Tryz.prog 165 #[.pointer (some ⟨g, 0, none⟩), .bool b] w (fun e w' => e = .returned (.bool false) ∧ w' = w) := by
 have q0 := h.cell0
 have q1 := h.cell1
 have q2 := h.cell2
 obtain ⟨A0, c0, rfl⟩ := own_shape h.its
 obtain ⟨A1, c1, rfl⟩ := own_shape h.txt
 obtain ⟨A2, c2, rfl⟩ := own_shape h.cuts
 clear h
 generalize its.length = n at *
 generalize cs.length = m at *
 generalize tx.size = k at *
 by_cases hk : k = 0
 ·subst hk
  rw [if_pos rfl] at hl
  cases b
  ·go_enter Tryz.func165, Tryz.ntmps165
   go_wp2_with fail
   go_ret
   exact ⟨ret_bool (by simp; omega), rfl⟩
  ·go_enter Tryz.func165, Tryz.ntmps165
   go_wp2_with fail
   go_ret
   exact ⟨ret_bool (by simp; omega), rfl⟩
 ·rw [if_neg hk] at hl
  cases b
  ·go_enter Tryz.func165, Tryz.ntmps165
   go_wp2_with fail
   go_ret
   exact ⟨ret_bool (by simp; omega), rfl⟩
  ·go_enter Tryz.func165, Tryz.ntmps165
   go_wp2_with fail
   go_ret
   exact ⟨ret_bool (by simp; omega), rfl⟩
theorem bbyte_any (c : UInt8) (off : Int) {B g : Nat} {t : TypeId} {rest : List Value} {iv tv cv : Value} {its : List Tk} {tx : ByteArray} {cs : List Int} {w : World} (h : Bd B g t rest iv tv cv its tx cs w)
 (hl : its.length + (if tx.size = 0 then 0 else 1) + 1 ≤ 512) (hc : cs.length + 1 ≤ 1024) (hx : tx.size ≤ 1000000) :
 Calls Tryz.prog 125 #[.pointer (some ⟨g, 0, none⟩), .int .u8 c.toNat, .int .i64 off] w (fun e w' => e = .returned (.bool true) ∧ ∃ tv' cv', Bd B g t rest iv tv' cv' its (tx ++ (⟨#[c]⟩ : ByteArray)) (cs ++ [off]) w' ∧
  Mod (fun k => k = g ∨ tv.ownBlock = some k ∨ cv.ownBlock = some k) w w') := by
 have HF := Lib.hid (bfull_any true h hl hc hx)
 have q1 := h.cell1
 have q2 := h.cell2
 have hBg := Nat.le_trans h.lt (Nat.le_of_lt h.gsz)
 obtain ⟨A1, c1, rfl⟩ := own_shape h.txt
 obtain ⟨A2, c2, rfl⟩ := own_shape h.cuts
 have H := Lib.hid h
 have HL := Lib.hid hl
 clear h hl
 go_enter Tryz.func125, Tryz.ntmps125
 go_wp2_with fail
 refine (HF.out).mono ?_
 rintro e w1 ⟨rfl, rfl⟩
 go_wp2_with (at_builtin; first
  | (refine wpList_app1 rfl (.tmp 13) (.tmp 15) 89 5 rfl Tryz.underlying89 _ 1 1 u8_info rfl (by decide) B _ tx.size _ rfl (by exact World.ownsRow.alloc H.out.txt _) ⟨w1.heap.size, 0, none⟩ 1 [.int .u8 (c.toNat : Int)] rfl rfl (by exact cells_at _ _ rfl _ _) (by intro u hu; rw [List.mem_singleton.1 hu]; rfl) (by omega) (by decide) (by simp; omega) ?_; intro g9 cap9 w9 hown9 hg9 hbel9 hgr9;
     have HP := Lib.hid ((H.out.alloc _).putT (txt_snoc hown9) hgr9); have p2 := HP.out.1.cell2; have y0 := (H.out.alloc _).grT hgr9; have y1 := frozen_rowM y0 1; have z1 := box_cell y0 1 rfl; have hz9 := hgr9.size; clear y0 hbel9)
  | (refine wpList_app1 rfl (.tmp 23) (.tmp 25) 22 3 rfl Tryz.underlying22 _ 1 8 int_infoB rfl (by decide) B _ cs.length _ rfl (by exact World.ownsRow.alloc HP.out.1.cuts _) ⟨w9.heap.size, 0, none⟩ 1 [.int .i64 off] rfl rfl (by exact cells_at _ _ (by simp [World.setCell]) _ _) (by intro u hu; rw [List.mem_singleton.1 hu]; rfl) (by omega) (by decide) (by simp [World.setCell] at hz9 ⊢; omega) ?_; intro g8 cap8 w8 hown8 hg8 hbel8 hgr8;
     have HQ := Lib.hid ((HP.out.1.alloc _).putC (OwnE.snoc hown8) hgr8); have y0 := (HP.out.1.alloc _).grC hgr8; have y2 := frozen_rowM y0 2; have z2 := box_cell y0 2 rfl; clear y0 hbel8))
 go_ret
 refine ⟨rfl, _, _, HQ.out.1, ?_⟩
 have hm : Mod (fun k => k = g ∨ (Value.slice A1 tx.size c1).ownBlock = some k) w1 (w1.alloc _) := (Mod.refl _ w1).alloc (.cells #[.int .u8 (c.toNat : Int)] 5)
 have hm2 := (hm.trans HP.out.2 fun i hi _ => hi).alloc (.cells #[.int .i64 off] 3)
 refine (hm2.weak (T := fun k => k = g ∨ (Value.slice A1 tx.size c1).ownBlock = some k ∨ (Value.slice A2 cs.length c2).ownBlock = some k) fun i hi _ => ?_).trans HQ.out.2 fun i hi _ => ?_
 ·exact hi.imp id .inl
 ·exact hi.imp id .inr
end Go.Proofs.YtfkojnofbpdjdaaGreatDoor

namespace Go.Proofs.YtfkojnofbpdjdaaGreatDoor
set_option maxRecDepth 100000
open Go.RowKit
def fluI (its : List Tk) (tx : ByteArray) : List Tk := its ++ (if tx.size = 0 then [] else [⟨1, tx, 0⟩])
theorem fluI_len (its : List Tk) (tx : ByteArray) : (fluI its tx).length = its.length + (if tx.size = 0 then 0 else 1) := by
 unfold fluI
 rw [List.length_append]
 split <;> rfl
theorem bflush_any {B g : Nat} {t : TypeId} {rest : List Value} {iv tv cv : Value} {its : List Tk} {tx : ByteArray} {cs : List Int} {w : World} (h : Bd B g t rest iv tv cv its tx cs w)
 (hl : its.length ≤ 512) (hx : tx.size ≤ 1000000) :
 Calls Tryz.prog 82 #[.pointer (some ⟨g, 0, none⟩)] w (fun e w' => (∃ v, e = .returned v) ∧ ∃ iv' tv', Bd B g t rest iv' tv' cv (fluI its tx) ⟨#[]⟩ cs w' ∧
  Mod (fun k => k = g ∨ iv.ownBlock = some k) w w' ∧ (iv'.ownBlock = iv.ownBlock ∨ ∀ k, iv'.ownBlock = some k → w.heap.size ≤ k)) := by
 have q1 := h.cell1
 have hBg := Nat.le_trans h.lt (Nat.le_of_lt h.gsz)
 obtain ⟨A1, c1, rfl⟩ := own_shape h.txt
 by_cases hk : tx.size = 0
 ·obtain rfl := empty_of_size hk
  have hf : fluI its ⟨#[]⟩ = its := List.append_nil _
  rw [hf]
  have H := Lib.hid h
  clear h
  go_enter Tryz.func82, Tryz.ntmps82
  go_wp2_with fail
  refine bodyPost_end (results_none rfl _ _ _) rfl ?_
  exact ⟨⟨_, rfl⟩, _, _, H.out, Mod.refl _ _, .inl rfl⟩
 ·have hf : fluI its tx = its ++ [⟨1, tx, 0⟩] := by unfold fluI; rw [if_neg hk]
  rw [hf]
  have q0 := h.cell0
  obtain ⟨A0, c0, rfl⟩ := own_shape h.its
  have H := Lib.hid h
  have hcv := run_string_own (w := w.drew) tx 89 9 Tryz.underlying89 Tryz.underlying5 Tryz.underlying9 h.drew.txt rfl (by omega)
  have HA := Lib.hid (h.drew.alloc (.cells (tkC ⟨1, tx, 0⟩).toArray 31))
  have hz : B ≤ w.drew.heap.size := hBg
  have p0 : (w.alloc (.cells #[.int .i64 1, .string tx, .int .i64 0] 31)).cell? ⟨g, 0, none⟩ = some (.slice A0 its.length c0) := HA.out.cell0
  have hk2 : (0 : Int) < (tx.size : Int) := by omega
  clear h
  go_enter Tryz.func82, Tryz.ntmps82
  go_wp2_with fail
  go_region_law (first
   | (refine step_appE rfl (.tmp 12) (.tmp 19) 24 31 rfl Tryz.underlying24 _ tkC 3 32 item_info rfl (by decide) tkC_three tkC_one B (.slice A0 its.length c0) its (by simp [Act.eval]) (by exact HA.out.its) (.slice (some ⟨w.drew.heap.size, 0, none⟩) 1 1) [⟨1, tx, 0⟩] (by simp [Act.eval]) (by exact rdE_oneR tkC 3 tkC_three _ _ rfl ⟨1, tx, 0⟩ _) (by simp; omega) (by decide) (by simp; omega) ?_
      intro v7 w7 hown7 hbel7 hgr7 hat7
      obtain ⟨A7, c7, hv7⟩ := own_shape hown7
      rw [show (its ++ [(⟨1, tx, 0⟩ : Tk)]).length = its.length + 1 by simp] at hv7
      subst hv7
      have HP := Lib.hid (HA.out.putI hown7 hgr7)
      have z0 := box_cell (HA.out.grI hgr7) 0 rfl
      have y0 := frozen_rowM (HA.out.grI hgr7) 0
      have z1 := HP.out.1.cell1
      have y1 := frozen_rowM (HA.out.grI hgr7) 1
      clear hown7 hbel7))
  all_goals (
   go_wp2_with fail
   refine bodyPost_end (results_none rfl _ _ _) rfl ?_
   have HR := HP.out.1.noT
   refine ⟨⟨_, rfl⟩, _, _, HR.1, ?_, ?_⟩
   ·have hm : Mod (fun k => k = g ∨ (Value.slice A0 its.length c0).ownBlock = some k) w (w.drew.alloc (.cells (tkC ⟨1, tx, 0⟩).toArray 31)) := ((Mod.refl _ w).drew).alloc _
    exact (hm.trans HP.out.2 fun i hi _ => hi).trans HR.2 fun i hi _ => .inl hi
   ·rcases hat7 with h7 | h7
    ·exact .inl h7
    ·refine .inr fun k hk => ?_
     rw [h7] at hk
     injection hk with hk
     rw [← hk]
     simp)
theorem bitem_any (x : Tk) (off : Int) {B g : Nat} {t : TypeId} {rest : List Value} {iv tv cv : Value} {its : List Tk} {tx : ByteArray} {cs : List Int} {w : World} (h : Bd B g t rest iv tv cv its tx cs w)
 (hl : its.length + (if tx.size = 0 then 0 else 1) + 1 ≤ 512) (hc : cs.length + 1 ≤ 1024) (hx : tx.size ≤ 1000000) :
 Calls Tryz.prog 127 #[.pointer (some ⟨g, 0, none⟩), .agg #[.int .i64 x.k, .string x.t, .int .i64 x.d], .int .i64 off] w (fun e w' => e = .returned (.bool true) ∧ ∃ iv' tv' cv', Bd B g t rest iv' tv' cv' (fluI its tx ++ [x]) ⟨#[]⟩ (cs ++ [off]) w' ∧
  Mod (fun k => k = g ∨ iv.ownBlock = some k ∨ cv.ownBlock = some k) w w' ∧ (iv'.ownBlock = iv.ownBlock ∨ ∀ k, iv'.ownBlock = some k → w.heap.size ≤ k)) := by
 obtain ⟨xk, xt, xd⟩ := x
 have hfl := fluI_len its tx
 have HA := Lib.hid (h.alloc (.cells #[.int .i64 xk, .string xt, .int .i64 xd] 31))
 have HM : Hid (Mod (fun k => k = g ∨ iv.ownBlock = some k) w (w.alloc (.cells #[.int .i64 xk, .string xt, .int .i64 xd] 31))) := (Mod.refl _ w).alloc _
 have HXB : Hid ((w.alloc (.cells #[.int .i64 xk, .string xt, .int .i64 xd] 31)).heap[w.heap.size]? = some (.cells #[.int .i64 xk, .string xt, .int .i64 xd] 31)) := Array.getElem?_push_size
 have hgw := h.gsz
 have hBg := Nat.le_trans h.lt (Nat.le_of_lt h.gsz)
 have HSW : Hid (∀ k, iv.ownBlock = some k → k < w.heap.size) := fun k hk => (h.its.lt k hk).2
 have HF := Lib.hid (bfull_any false (HA.out) hl hc hx)
 have HFL := Lib.hid (bflush_any (HA.out) (by omega) hx)
 obtain ⟨A2, c2, rfl⟩ := own_shape h.cuts
 clear h
 generalize fluI its tx = fl at hfl HFL ⊢
 go_enter Tryz.func127, Tryz.ntmps127
 go_wp2_with fail
 generalize hwa : w.alloc (.cells #[.int .i64 xk, .string xt, .int .i64 xd] 31) = wa at *
 refine (HF.out).mono ?_
 rintro e wa ⟨rfl, rfl⟩
 go_wp2_with fail
 refine (HFL.out).mono ?_
 rintro e w1 ⟨⟨v1, rfl⟩, iv1, tv1, h1, hm1, ht1⟩
 clear HF HFL
 obtain ⟨A0, c0, rfl⟩ := own_shape h1.its
 have hz1 := hm1.size
 have hza : wa.heap.size = w.heap.size + 1 := by rw [← hwa]; simp
 obtain ⟨p, hp⟩ : ∃ p, Hid (p = w.heap.size) := ⟨_, rfl⟩
 have HX1 : Hid (w1.heap[p]? = some (.cells #[.int .i64 xk, .string xt, .int .i64 xd] 31)) := by
  show _ = _
  rw [hp.out]
  refine (hm1.block _ (by omega) ?_).trans HXB.out
  rintro (h | h)
  ·omega
  ·have := HSW.out _ h; omega
 rw [← hp.out]
 have H1 := Lib.hid h1
 have HM1 := Lib.hid ((HM.out.trans hm1 fun i hi _ => hi))
 have HL1 : Hid (fl.length + 1 ≤ 512) := by show _ ≤ _; omega
 have HT1 : Hid ((Value.slice A0 fl.length c0).ownBlock = iv.ownBlock ∨ ∀ k, (Value.slice A0 fl.length c0).ownBlock = some k → w.heap.size ≤ k) := ht1.imp id fun h k hk => by have := h k hk; omega
 have hB1 : B ≤ w1.heap.size := by omega
 clear h1 hm1 ht1 HA HM HXB HSW hza hwa hfl hl
 have q0 := H1.out.cell0
 have q2 := H1.out.cell2
 obtain ⟨x0, x1, x2, _⟩ := bx3 HX1.out
 have HA1 := Lib.hid (H1.out.drew.alloc (.cells (tkC ⟨xk, xt, xd⟩).toArray 31))
 have p0 : (w1.alloc (.cells #[.int .i64 xk, .string xt, .int .i64 xd] 31)).cell? ⟨g, 0, none⟩ = some (.slice A0 fl.length c0) := HA1.out.cell0
 go_wp2_with fail
 go_region_law (first
  | (refine step_appE rfl (.tmp 15) (.tmp 17) 24 31 rfl Tryz.underlying24 _ tkC 3 32 item_info rfl (by decide) tkC_three tkC_one B (.slice A0 fl.length c0) fl (by simp [Act.eval]) (by exact HA1.out.its) (.slice (some ⟨w1.drew.heap.size, 0, none⟩) 1 1) [⟨xk, xt, xd⟩] (by simp [Act.eval]) (by exact rdE_oneR tkC 3 tkC_three _ _ rfl ⟨xk, xt, xd⟩ _) (by have := HL1.out; simp; omega) (by decide) (by simp; omega) ?_
     intro v7 w7 hown7 hbel7 hgr7 hat7
     obtain ⟨A7, c7, hv7⟩ := own_shape hown7
     rw [show (fl ++ [(⟨xk, xt, xd⟩ : Tk)]).length = fl.length + 1 by simp] at hv7
     subst hv7
     have HP := Lib.hid (HA1.out.putI hown7 hgr7)
     have z0 := box_cell (HA1.out.grI hgr7) 0 rfl
     have y0 := frozen_rowM (HA1.out.grI hgr7) 0
     have p2 := HP.out.1.cell2
     have hz9 := hgr7.size
     clear hown7 hbel7))
 all_goals (
  go_wp2_with (at_builtin; refine wpList_app1 rfl (.tmp 25) (.tmp 27) 22 3 rfl Tryz.underlying22 _ 1 8 int_infoB rfl (by decide) B _ cs.length _ rfl (by exact World.ownsRow.alloc HP.out.1.cuts _) ⟨w7.heap.size, 0, none⟩ 1 [.int .i64 off] rfl rfl (by exact cells_at _ _ (by simp [World.setCell]) _ _) (by intro u hu; rw [List.mem_singleton.1 hu]; rfl) (by omega) (by decide) (by simp [World.setCell] at hz9 ⊢; omega) ?_; intro g8 cap8 w8 hown8 hg8 hbel8 hgr8; have HQ := Lib.hid ((HP.out.1.alloc _).putC (OwnE.snoc hown8) hgr8); have y8 := (HP.out.1.alloc _).grC hgr8; have y2 := frozen_rowM y8 2; have z2 := box_cell y8 2 rfl; clear y8 hbel8)
  go_ret
  refine ⟨rfl, _, _, _, HQ.out.1, ?_, ?_⟩
  ·have hm := (((HM1.out.drew).alloc (.cells (tkC ⟨xk, xt, xd⟩).toArray 31)).trans HP.out.2 fun i hi hlt => ?_).alloc (.cells #[.int .i64 off] 3)
   ·refine (hm.weak (T := fun k => k = g ∨ iv.ownBlock = some k ∨ (Value.slice A2 cs.length c2).ownBlock = some k) fun i hi _ => hi.imp id .inl).trans HQ.out.2 fun i hi _ => hi.imp id .inr
   ·rcases hi with hi | hi
    ·exact .inl hi
    ·rcases HT1.out with h | h
     ·rw [h] at hi; exact .inr hi
     ·have := h i hi; omega
  ·have hz0 := HM1.out.size
   rcases hat7 with h7 | h7
   ·rw [h7]
    exact HT1.out
   ·refine .inr fun k hk => ?_
    rw [h7] at hk
    injection hk with hk
    rw [← hk]
    simp
    omega)
theorem bitems_any {B g : Nat} {t : TypeId} {rest : List Value} {iv tv cv : Value} {its : List Tk} {tx : ByteArray} {cs : List Int} {w : World} (h : Bd B g t rest iv tv cv its tx cs w)
 (hl : its.length ≤ 512) (hx : tx.size ≤ 1000000) :
 Calls Tryz.prog 43 #[.pointer (some ⟨g, 0, none⟩)] w (fun e w' => ∃ v, e = .returned v ∧ OwnT 31 w' B v (fluI its tx) ∧ Mod (fun k => k = g ∨ iv.ownBlock = some k) w w') := by
 have HFL := Lib.hid (bflush_any h hl hx)
 clear h
 generalize fluI its tx = fl at HFL ⊢
 go_enter Tryz.func43, Tryz.ntmps43
 go_wp2_with fail
 refine (HFL.out).mono ?_
 rintro e w1 ⟨⟨v1, rfl⟩, iv1, tv1, h1, hm1, ht1⟩
 clear HFL
 have q0 := h1.cell0
 obtain ⟨A0, c0, rfl⟩ := own_shape h1.its
 have H1 := Lib.hid h1
 clear h1 ht1
 go_wp2_with fail
 go_ret
 exact ⟨_, rfl, H1.out.its, hm1⟩
theorem bcuts_any (last : Int) {B g : Nat} {t : TypeId} {rest : List Value} {iv tv cv : Value} {its : List Tk} {tx : ByteArray} {cs : List Int} {w : World} (h : Bd B g t rest iv tv cv its tx cs w)
 (hc : cs.length + 1 ≤ 1000000) :
 Calls Tryz.prog 155 #[.pointer (some ⟨g, 0, none⟩), .int .i64 last] w (fun e w' => ∃ v, e = .returned v ∧ OwnE 3 intC 1 w' B v (cs ++ [last]) ∧ Mod (fun k => cv.ownBlock = some k) w w') := by
 have q2 := h.cell2
 have hBg := Nat.le_trans h.lt (Nat.le_of_lt h.gsz)
 obtain ⟨A2, c2, rfl⟩ := own_shape h.cuts
 have H := Lib.hid h
 clear h
 go_enter Tryz.func155, Tryz.ntmps155
 go_wp2_with (at_builtin; refine wpList_app1 rfl (.tmp 8) (.tmp 10) 22 3 rfl Tryz.underlying22 _ 1 8 int_infoB rfl (by decide) B _ cs.length _ rfl (by exact World.ownsRow.alloc H.out.cuts _) ⟨w.heap.size, 0, none⟩ 1 [.int .i64 last] rfl rfl (by exact cells_at _ _ rfl _ _) (by intro u hu; rw [List.mem_singleton.1 hu]; rfl) (by omega) (by decide) (by simp; omega) ?_; intro g8 cap8 w8 hown8 hg8 hbel8 hgr8)
 go_ret
 refine ⟨_, rfl, OwnE.snoc hown8, ?_⟩
 exact ((Mod.refl _ w).alloc _).trans (Mod.of_grown hgr8) fun i hi _ => hi
end Go.Proofs.YtfkojnofbpdjdaaGreatDoor

namespace Go.Proofs.YtfkojnofbpdjdaaGreatDoor
set_option maxRecDepth 100000
open Go.RowKit
section
variable {P : Program} {w : World} {a : Act} {o : Oper}
theorem ex_nilCheck (x : Operand) (q : Addr) (ho : o.op = .nilCheck x) (hx : a.eval x = .pointer (some q)) : (execOp a.eval o).run P w = .ok (.value (.pointer (some q))) w := by
 unfold execOp
 simp only [ho, hx]
 rfl
theorem ex_call1 {f : FuncId} (x : Operand) (ts : Array TypeId) (vx : Value) (ho : o.op = .call { callee := .value (.func f), args := #[x], argTypes := ts }) (hx : a.eval x = vx) (he : (callFunc f #[vx]).run P w = .ok (.enter f #[vx]) w) : (execOp a.eval o).run P w = .ok (.enter f #[vx]) w := by
 have hf : a.eval (.func f) = .func (.func f) #[] #[] := rfl
 generalize a.eval = ρ at hx hf ⊢
 unfold execOp
 simp only [ho]
 go_simp
theorem ex_call2 {f : FuncId} (x y : Operand) (ts : Array TypeId) (vx vy : Value) (ho : o.op = .call { callee := .value (.func f), args := #[x, y], argTypes := ts }) (hx : a.eval x = vx) (hy : a.eval y = vy) (he : (callFunc f #[vx, vy]).run P w = .ok (.enter f #[vx, vy]) w) : (execOp a.eval o).run P w = .ok (.enter f #[vx, vy]) w := by
 have hf : a.eval (.func f) = .func (.func f) #[] #[] := rfl
 generalize a.eval = ρ at hx hy hf ⊢
 unfold execOp
 simp only [ho]
 go_simp
theorem ex_call3 {f : FuncId} (x y z : Operand) (ts : Array TypeId) (vx vy vz : Value) (ho : o.op = .call { callee := .value (.func f), args := #[x, y, z], argTypes := ts }) (hx : a.eval x = vx) (hy : a.eval y = vy) (hz : a.eval z = vz) (he : (callFunc f #[vx, vy, vz]).run P w = .ok (.enter f #[vx, vy, vz]) w) : (execOp a.eval o).run P w = .ok (.enter f #[vx, vy, vz]) w := by
 have hf : a.eval (.func f) = .func (.func f) #[] #[] := rfl
 generalize a.eval = ρ at hx hy hz hf ⊢
 unfold execOp
 simp only [ho]
 go_simp
end
section
variable {w : World} {b o : Nat}
theorem ldT_str {x : ByteArray} (h : w.cell? ⟨b, o, none⟩ = some (.string x)) : (Instr.loadAt 9 (.pointer (some ⟨b, o, none⟩))).run Tryz.prog w = .ok (.string x) w := by
 go_simp
theorem ldT_int {x : Int} (h : w.cell? ⟨b, o, none⟩ = some (.int .i64 x)) : (Instr.loadAt 3 (.pointer (some ⟨b, o, none⟩))).run Tryz.prog w = .ok (.int .i64 x) w := by
 go_simp
theorem ldT_items {A : Option Addr} {n c : Nat} (h : w.cell? ⟨b, o, none⟩ = some (.slice A n c)) : (Instr.loadAt 24 (.pointer (some ⟨b, o, none⟩))).run Tryz.prog w = .ok (.slice A n c) w := by
 go_simp
theorem ldT_item {k d : Int} {t : ByteArray} (h0 : w.cell? ⟨b, o, none⟩ = some (.int .i64 k)) (h1 : w.cell? ⟨b, o + 1, none⟩ = some (.string t)) (h2 : w.cell? ⟨b, o + 2, none⟩ = some (.int .i64 d)) : (Instr.loadAt 31 (.pointer (some ⟨b, o, none⟩))).run Tryz.prog w = .ok (.agg #[.int .i64 k, .string t, .int .i64 d]) w := by
 go_simp
end
end Go.Proofs.YtfkojnofbpdjdaaGreatDoor

namespace Go.Proofs.YtfkojnofbpdjdaaGreatDoor
set_option maxRecDepth 100000
def prsD (us : List Un) : List Pt := us.flatMap fun u => [⟨false, ofL [], ofL u.sk⟩, ⟨true, ofL u.key, ofL (rawE u.ts)⟩]
def rawD (us : List Un) : List UInt8 := us.flatMap fun u => u.sk ++ rawE u.ts
theorem prsD_app (a b : List Un) : prsD (a ++ b) = prsD a ++ prsD b := by simp [prsD]
theorem rawD_app (a b : List Un) : rawD (a ++ b) = rawD a ++ rawD b := by simp [rawD]
theorem ptsD_eq : ∀ (us : List Un) (tl : List UInt8), ptsD us tl = prsD us ++ [⟨false, ofL [], ofL tl⟩]
 | [], tl => rfl
 | u :: us, tl => by rw [ptsD, ptsD_eq us tl]; rfl
theorem dataD_eq : ∀ (us : List Un) (tl : List UInt8), dataD us tl = rawD us ++ tl
 | [], tl => rfl
 | u :: us, tl => by
   rw [dataD, dataD_eq us tl, show rawD (u :: us) = (u.sk ++ rawE u.ts) ++ rawD us from rfl]
   simp
theorem prsD_len (us : List Un) : (prsD us).length = 2 * us.length := by
 induction us with
 | nil => rfl
 | cons u us ih => rw [show prsD (u :: us) = [⟨false, ofL [], ofL u.sk⟩, ⟨true, ofL u.key, ofL (rawE u.ts)⟩] ++ prsD us from rfl, List.length_append, ih, List.length_cons]; simp; omega
/-! ### Resource files: lines, each with its end -/
inductive RL where
 | skip (l : List UInt8)
 | unit (key : List UInt8) (ts : Els)
def rawRL : RL → List UInt8
 | .skip l => l ++ [10]
 | .unit key ts => key ++ (61 :: (rawE ts ++ [10]))
def keyB (c : UInt8) : Bool := decide ((97 ≤ c.toNat ∧ c.toNat ≤ 122) ∨ (48 ≤ c.toNat ∧ c.toNat ≤ 57) ∨ c.toNat = 46 ∨ c.toNat = 95 ∨ c.toNat = 45)
def blkB (c : UInt8) : Bool := c == 32 || c == 9
def idleL (l : List UInt8) : Bool := match l.dropWhile blkB with
 | [] => true
 | c :: _ => c == 35
def RLok : RL → Prop
 | .skip l => (∀ c ∈ l, c ≠ 10) ∧ idleL l = true
 | .unit key ts => 1 ≤ key.length ∧ key.length ≤ 64 ∧ (∀ c ∈ key, keyB c = true) ∧ RawOk 2 ts
def stepRL (st : List Un × List UInt8) : RL → List Un × List UInt8
 | .skip l => (st.1, st.2 ++ (l ++ [10]))
 | .unit key ts => (st.1 ++ [⟨st.2 ++ (key ++ [61]), key, ts⟩], [10])
def unsRL (ls : List RL) : List Un × List UInt8 := ls.foldl stepRL ([], [])
def keysRL (ls : List RL) : List (List UInt8) := ls.filterMap fun x => match x with
 | .skip _ => none
 | .unit k _ => some k
theorem unsRL_raw : ∀ (ls : List RL) (st : List Un × List UInt8), rawD (ls.foldl stepRL st).1 ++ (ls.foldl stepRL st).2 = rawD st.1 ++ st.2 ++ ls.flatMap rawRL
 | [], st => by simp
 | x :: ls, st => by
   rw [List.foldl_cons, unsRL_raw ls, List.flatMap_cons]
   cases x with
   | skip l =>
     show rawD st.1 ++ (st.2 ++ (l ++ [10])) ++ _ = _ ++ (l ++ [10] ++ _)
     simp
   | unit key ts =>
     show rawD (st.1 ++ [⟨st.2 ++ (key ++ [61]), key, ts⟩]) ++ [10] ++ _ = _ ++ (key ++ (61 :: (rawE ts ++ [10])) ++ _)
     rw [rawD_app]
     simp [rawD]
end Go.Proofs.YtfkojnofbpdjdaaGreatDoor

namespace Go.Proofs.YtfkojnofbpdjdaaGreatDoor
set_option maxRecDepth 100000
def takeE : Els → Nat → Els
 | _, 0 => []
 | [], _ + 1 => []
 | (r, none) :: ts, p + 1 => (r, none) :: takeE ts (p + 1)
 | (r, some x) :: ts, p + 1 => (r, some x) :: takeE ts p
def dropE : Els → Nat → Els
 | ts, 0 => ts
 | [], _ + 1 => []
 | (_, none) :: ts, p + 1 => dropE ts (p + 1)
 | (_, some _) :: ts, p + 1 => dropE ts p
theorem take_dropE : ∀ (ts : Els) (p : Nat), takeE ts p ++ dropE ts p = ts
 | ts, 0 => by cases ts <;> rfl
 | [], _ + 1 => rfl
 | (r, none) :: ts, p + 1 => by rw [takeE, dropE, List.cons_append, take_dropE ts (p + 1)]
 | (r, some x) :: ts, p + 1 => by rw [takeE, dropE, List.cons_append, take_dropE ts p]
theorem itm_takeE : ∀ (ts : Els) (p : Nat), itmE (takeE ts p) = (itmE ts).take p
 | ts, 0 => by cases ts <;> simp [takeE, itmE]
 | [], _ + 1 => rfl
 | (r, none) :: ts, p + 1 => by rw [takeE]; exact itm_takeE ts (p + 1)
 | (r, some x) :: ts, p + 1 => by
   rw [takeE, show itmE ((r, some x) :: takeE ts p) = x :: itmE (takeE ts p) from rfl, itm_takeE ts p, show itmE ((r, some x) :: ts) = x :: itmE ts from rfl, List.take_succ_cons]
theorem itm_dropE : ∀ (ts : Els) (p : Nat), itmE (dropE ts p) = (itmE ts).drop p
 | ts, 0 => by cases ts <;> rfl
 | [], _ + 1 => rfl
 | (r, none) :: ts, p + 1 => by rw [dropE]; exact itm_dropE ts (p + 1)
 | (r, some x) :: ts, p + 1 => by
   rw [dropE, itm_dropE ts p, show itmE ((r, some x) :: ts) = x :: itmE ts from rfl, List.drop_succ_cons]
theorem drop_dropE : ∀ (ts : Els) (a b : Nat), dropE (dropE ts a) b = dropE ts (a + b)
 | ts, 0, b => by
   rw [Nat.zero_add]
   cases ts <;> rfl
 | [], a + 1, b => by
   rw [show a + 1 + b = (a + b) + 1 by omega]
   cases b <;> rfl
 | (r, none) :: ts, a + 1, b => by
   rw [dropE, drop_dropE ts (a + 1) b, show a + 1 + b = (a + b) + 1 by omega, dropE]
 | (r, some x) :: ts, a + 1, b => by
   rw [dropE, drop_dropE ts a b, show a + 1 + b = (a + b) + 1 by omega, dropE]
def splE (ts : Els) : Nat → List (Nat × Nat) → List Els → Els
 | at_, r :: rl, t :: tg => takeE (dropE ts at_) (r.1 - at_) ++ t ++ splE ts r.2 rl tg
 | at_, _, _ => dropE ts at_
theorem rawE_take_le (ts : Els) (p : Nat) : rawE ts = rawE (takeE ts p) ++ rawE (dropE ts p) := by rw [← rawE_app, take_dropE]
theorem takeE_split : ∀ (ts : Els) (a b : Nat), takeE ts (a + b) = takeE ts a ++ takeE (dropE ts a) b
 | ts, 0, b => by
   rw [Nat.zero_add]
   cases ts <;> rfl
 | [], a + 1, b => by
   rw [show a + 1 + b = (a + b) + 1 by omega]
   cases b <;> rfl
 | (r, none) :: ts, a + 1, b => by
   rw [show a + 1 + b = (a + b) + 1 by omega, takeE, takeE, dropE, List.cons_append, ← takeE_split ts (a + 1) b, show a + 1 + b = a + b + 1 by omega]
 | (r, some x) :: ts, a + 1, b => by
   rw [show a + 1 + b = (a + b) + 1 by omega, takeE, takeE, dropE, List.cons_append, ← takeE_split ts a b]
theorem raw_cut (ts : Els) (a b : Nat) (h : a ≤ b) : ((rawE ts).take (rawE (takeE ts b)).length).drop (rawE (takeE ts a)).length = rawE (takeE (dropE ts a) (b - a)) := by
 obtain ⟨d, rfl⟩ : ∃ d, b = a + d := ⟨b - a, by omega⟩
 rw [Nat.add_sub_cancel_left]
 rw [rawE_take_le ts (a + d), List.take_left]
 rw [takeE_split, rawE_app, List.drop_left]
theorem raw_rest (ts : Els) (a : Nat) : (rawE ts).drop (rawE (takeE ts a)).length = rawE (dropE ts a) := by
 rw [rawE_take_le ts a, List.drop_left]
end Go.Proofs.YtfkojnofbpdjdaaGreatDoor

namespace Go.Proofs.YtfkojnofbpdjdaaGreatDoor
set_option maxRecDepth 100000
open Go.RowKit
def ptC (p : Pt) : List Value := [.bool p.un, .string p.key, .string p.raw]
theorem ptC_three (p : Pt) : (ptC p).length = 3 := rfl
theorem ptC_one (p : Pt) : ∀ u ∈ ptC p, u.oneCell' = true := by
 intro u hu
 simp [ptC] at hu
 rcases hu with rfl | rfl | rfl <;> rfl
theorem pt_info : (Tryz.prog.info? 52).map (fun i => (i.zero, i.size, i.bytes)) = some (some (.agg #[.bool false, .string ⟨#[]⟩, .string ⟨#[]⟩]), 3, 40) := by kernel_rfl
theorem rdE_litP {α : Type} (f : α → List Value) (m : Nat) (hm : ∀ x, (f x).length = m) (w : World) (g : Nat) (hg : w.heap.size = g) (l : List α) (cs : Array Value) (hcs : cs = (l.flatMap f).toArray) (t : TypeId) (n : Nat) (hn : n = l.length) (h0 : 0 < n) : RdE f m (w.alloc (.cells cs t)) (.slice (some ⟨g, 0, none⟩) n n) l := by
 subst hg hcs hn
 refine ⟨some ⟨w.heap.size, 0, none⟩, l.length, rfl, by simp, (fun h => by cases h), fun _ => ⟨w.heap.size, 0, rfl, by simp, fun i y j u hi hj => ?_⟩⟩
 have hjm : j < m := by rw [← hm y]; exact (List.getElem?_eq_some_iff.1 hj).1
 have := cells_new w (l.flatMap f) t (i * m + j) u (by rw [flat_get f m hm l i j y hi hjm]; exact hj)
 rw [Addr.add_lit] at this
 simpa using this
structure PsB (B g : Nat) (data : ByteArray) (fr : Nat) (lv : Value) (ps : List Pt) (w : World) : Prop where
 box : w.heap[g]? = some (.cells #[.string data, .int .i64 fr, lv] 245)
 own : OwnE 52 ptC 3 w B lv ps
 lt : B ≤ g
section
variable {B g : Nat} {data : ByteArray} {fr : Nat} {lv lv' : Value} {ps ps' : List Pt} {w w' : World}
theorem PsB.gsz (h : PsB B g data fr lv ps w) : g < w.heap.size := (Array.getElem?_eq_some_iff.1 h.box).1
theorem PsB.nL (h : PsB B g data fr lv ps w) : NotAt g lv := own_apart h.own h.box (by decide)
theorem PsB.below (h : PsB B g data fr lv ps w) (hb : Below w.heap.size w w') : PsB B g data fr lv ps w' :=
 ⟨(hb.block g h.gsz).trans h.box, own_same h.own fun k hk => hb.block k (h.own.lt k hk).2, h.lt⟩
theorem PsB.alloc (h : PsB B g data fr lv ps w) (o : Obj) : PsB B g data fr lv ps (w.alloc o) := h.below ((Below.refl _ _).alloc (Nat.le_refl _) o)
theorem PsB.drew (h : PsB B g data fr lv ps w) : PsB B g data fr lv ps w.drew := ⟨h.box, h.own, h.lt⟩
theorem PsB.gr (h : PsB B g data fr lv ps w) (hg : w.grownBy w' lv.ownBlock) : w'.heap[g]? = some (.cells #[.string data, .int .i64 fr, lv] 245) := (hg.block g h.gsz (fun e => h.nL g e.symm rfl)).trans h.box
theorem PsB.put (h : PsB B g data fr lv ps w) (ho : OwnE 52 ptC 3 w' B lv' ps') (hg : w.grownBy w' lv.ownBlock) :
 PsB B g data fr lv' ps' (w'.setCell ⟨g, 2, none⟩ lv') := by
 have hs := Mod.set w' g 2 lv'
 have hbox := h.gr hg
 exact ⟨by rw [set_row hbox]; rfl, hs.own ho fun k hk e => own_apart ho hbox (by decide) k hk e, h.lt⟩
theorem PsB.to (h : PsB B g data fr lv ps w) (b : Nat) : PsB B g data b lv ps (w.setCell ⟨g, 1, none⟩ (.int .i64 b)) := by
 have hs := Mod.set w g 1 (.int .i64 b)
 exact ⟨by rw [set_row h.box]; rfl, hs.own h.own fun k hk e => h.nL k hk e, h.lt⟩
end
theorem newParts_any (data : ByteArray) (w : World) :
 Calls Tryz.prog 142 #[.string data] w (fun e w' => ∃ g, e = .returned (.pointer (some ⟨g, 0, none⟩)) ∧ PsB w.heap.size g data 0 (.slice none 0 0) [] w' ∧ Below w.heap.size w w') := by
 have HB := Lib.hid (Below.refl w.heap.size w)
 have H : Hid (PsB w.heap.size w.heap.size data 0 (.slice none 0 0) [] (w.alloc (.cells #[.string data, .int .i64 0, .slice none 0 0] 245))) := ⟨Array.getElem?_push_size, OwnE.nil, Nat.le_refl _⟩
 go_enter Tryz.func142, Tryz.ntmps142
 go_wp2_with fail
 go_ret
 exact ⟨_, rfl, H.out, HB.out.alloc (Nat.le_refl _) _⟩
theorem unit_anyK (a b : Nat) (key : ByteArray) {B g : Nat} {data : ByteArray} {fr : Nat} {lv : Value} {ps : List Pt} {w : World} (h : PsB B g data fr lv ps w)
 (h1 : fr ≤ a) (h2 : a ≤ b) (h3 : b ≤ data.size) (hd : data.size ≤ 100000000) (hl : ps.length ≤ 1000000) :
 Calls Tryz.prog 145 #[.pointer (some ⟨g, 0, none⟩), .int .i64 a, .int .i64 b, .string key] w (fun e w' => (∃ v, e = .returned v) ∧ ∃ lv', PsB B g data b lv' (ps ++ [⟨false, ⟨#[]⟩, data.extract fr a⟩, ⟨true, key, data.extract a b⟩]) w' ∧ Below B w w' ∧ ∀ k, k < w.heap.size → k ≠ g → lv.ownBlock ≠ some k → w'.heap[k]? = w.heap[k]?) := by
 have hBg := Nat.le_trans h.lt (Nat.le_of_lt h.gsz)
 obtain ⟨q0, q1, q2, _⟩ := bx3 h.box
 obtain ⟨A0, c0, rfl⟩ := own_shape h.own
 have H := Lib.hid h
 have HB := Lib.hid (Below.refl B w)
 have HA := Lib.hid (h.drew.alloc (.cells (([⟨false, ⟨#[]⟩, data.extract fr a⟩, ⟨true, key, data.extract a b⟩] : List Pt).flatMap ptC).toArray 52))
 have hz : B ≤ w.drew.heap.size := hBg
 have h4 : a ≤ data.size := by omega
 have p2 : (w.alloc (.cells #[.bool false, .string ⟨#[]⟩, .string (data.extract fr a), .bool true, .string key, .string (data.extract a b)] 52)).cell? ⟨g, 2, none⟩ = some (.slice A0 ps.length c0) := (bx3 HA.out.box).2.2.1
 have HSZ : Hid (w.heap.size < (w.drew.alloc (.cells (([⟨false, ⟨#[]⟩, data.extract fr a⟩, ⟨true, key, data.extract a b⟩] : List Pt).flatMap ptC).toArray 52)).heap.size) := by show _ < _; simp
 clear h
 go_enter Tryz.func145, Tryz.ntmps145
 go_wp2_with fail
 go_region_law (first
  | (refine step_appE rfl (.tmp 12) (.tmp 33) 39 52 rfl Tryz.underlying39 _ ptC 3 40 pt_info rfl (by decide) ptC_three ptC_one B (.slice A0 ps.length c0) ps (by simp [Act.eval]) (by exact HA.out.own) (.slice (some ⟨w.drew.heap.size, 0, none⟩) 2 2) [⟨false, ⟨#[]⟩, data.extract fr a⟩, ⟨true, key, data.extract a b⟩] (by simp [Act.eval]) (by exact rdE_litP ptC 3 ptC_three _ _ rfl _ _ rfl _ _ rfl (by decide)) (by simp; omega) (by decide) (by simp; omega) ?_
     intro v7 w7 hown7 hbel7 hgr7 hat7
     obtain ⟨A7, c7, hv7⟩ := own_shape hown7
     rw [show (ps ++ [(⟨false, ⟨#[]⟩, data.extract fr a⟩ : Pt), ⟨true, key, data.extract a b⟩]).length = ps.length + 2 by simp] at hv7
     subst hv7
     have HP := Lib.hid (HA.out.put hown7 hgr7)
     have HB7 := Lib.hid (hbel7 B w (Nat.le_refl _) ((Below.refl B w).drew.alloc hz _))
     have HKP := Lib.hid (fun (k : Nat) (hk : k < w.heap.size) (hv : (Value.slice A0 ps.length c0).ownBlock ≠ some k) => (hgr7.block k (Nat.lt_trans hk HSZ.out) (fun e => hv e.symm)).trans (Below.heap_alloc w.drew _ k hk))
     have z0 := (bx3 (HA.out.gr hgr7)).2.2.1
     have y0 := (bx3 (HA.out.gr hgr7)).2.2.2.2.2
     clear hown7 hbel7))
 all_goals (
  have hx1 := (bx3 HP.out.box).2.1
  have hx2 := (bx3 HP.out.box).2.2.2.2.1
  have HG := Lib.hid H.out.lt
  go_wp2_with fail
  refine bodyPost_end (results_none rfl _ _ _) rfl ?_
  refine ⟨⟨_, rfl⟩, _, HP.out.to b, (HB7.out.setCell (p := ⟨g, 2, none⟩) HG.out _).setCell (p := ⟨g, 1, none⟩) HG.out _, fun k hk hne hv => ?_⟩
  rw [Below.heap_setCell _ _ _ _ hne, Below.heap_setCell _ _ _ _ hne]
  exact HKP.out k hk hv)
theorem unit_any (a b : Nat) (key : ByteArray) {B g : Nat} {data : ByteArray} {fr : Nat} {lv : Value} {ps : List Pt} {w : World} (h : PsB B g data fr lv ps w)
 (h1 : fr ≤ a) (h2 : a ≤ b) (h3 : b ≤ data.size) (hd : data.size ≤ 100000000) (hl : ps.length ≤ 1000000) :
 Calls Tryz.prog 145 #[.pointer (some ⟨g, 0, none⟩), .int .i64 a, .int .i64 b, .string key] w (fun e w' => (∃ v, e = .returned v) ∧ ∃ lv', PsB B g data b lv' (ps ++ [⟨false, ⟨#[]⟩, data.extract fr a⟩, ⟨true, key, data.extract a b⟩]) w' ∧ Below B w w') :=
 (unit_anyK a b key h h1 h2 h3 hd hl).mono fun _ _ ⟨h1, lv', h2, h3, _⟩ => ⟨h1, lv', h2, h3⟩
end Go.Proofs.YtfkojnofbpdjdaaGreatDoor

namespace Go.Proofs.YtfkojnofbpdjdaaGreatDoor
set_option maxRecDepth 100000
open Go.RowKit
theorem RdP.at_ {w : World} {A : Option Addr} {n c : Nat} {l : List Pt} (h : RdE ptC 3 w (.slice A n c) l) (k : Nat) (hk : k < l.length) :
 ∃ b o, A = some ⟨b, o, none⟩ ∧ b < w.heap.size ∧ w.cell? ⟨b, o + k * 3, none⟩ = some (.bool l[k].un) ∧ w.cell? ⟨b, o + k * 3 + 1, none⟩ = some (.string l[k].key) ∧ w.cell? ⟨b, o + k * 3 + 2, none⟩ = some (.string l[k].raw) := by
 obtain ⟨b, o, hA, hb, hx⟩ := RdE.cells h (by omega)
 refine ⟨b, o, hA, hb, ?_, ?_, ?_⟩
 ·exact hx k l[k] 0 (.bool l[k].un) (List.getElem?_eq_getElem hk) rfl
 ·exact hx k l[k] 1 (.string l[k].key) (List.getElem?_eq_getElem hk) rfl
 ·exact hx k l[k] 2 (.string l[k].raw) (List.getElem?_eq_getElem hk) rfl
theorem neq_pt (w : World) (u : Bool) (k r : ByteArray) : (binOp .neq 52 (.agg #[.bool u, .string k, .string r]) (.agg #[.bool u, .string k, .string r])).run Tryz.prog w = .ok (.bool false) w := by
 go_simp
theorem neq_tk (w : World) (k d : Int) (t : ByteArray) : (binOp .neq 31 (.agg #[.int .i64 k, .string t, .int .i64 d]) (.agg #[.int .i64 k, .string t, .int .i64 d])).run Tryz.prog w = .ok (.bool false) w := by
 go_simp
theorem equalP_any (l : List Pt) (va vb : Value) (w : World) (ha : RdE ptC 3 w va l) (hb : RdE ptC 3 w vb l) (hl : l.length ≤ 1000000) :
 Calls Tryz.prog 105 #[va, vb] w (fun e w' => e = .returned (.bool true) ∧ ∃ n, w' = w.drewN n) := by
 obtain ⟨R, HRR⟩ : ∃ R : Ending → World → Prop, Hid (R = fun e w' => e = .returned (.bool true) ∧ ∃ n, w' = w.drewN n) := ⟨_, rfl⟩
 rw [← HRR.out]
 obtain ⟨A, c, rfl, _, _⟩ := ha.shape
 obtain ⟨A', c', rfl, _, _⟩ := hb.shape
 have HA := Lib.hid ha
 have HB := Lib.hid hb
 have hq0 := fun (w : World) => neq_pt w
 clear ha hb
 go_enter Tryz.func105, Tryz.ntmps105
 go_wp2_with fail
 go_loopg [13] l.length (fun gk iv wr => ∃ k n : Nat, iv = .int .i64 k ∧ k ≤ l.length ∧ wr = w.drewN n ∧ l.length - k ≤ gk)
 case atStart => exact ⟨0, 0, rfl, Nat.zero_le _, rfl, Nat.le_refl _⟩
 case round =>
  obtain ⟨k, n, rfl, hk, rfl, hgk⟩ := hrel
  by_cases hlt : k < l.length
  ·obtain ⟨b1, o1, rfl, hb1, c0, c1, c2⟩ := RdP.at_ HA.out k hlt
   obtain ⟨b2, o2, rfl, hb2, d0, d1, d2⟩ := RdP.at_ HB.out k hlt
   generalize l[k].un = x0 at c0 d0
   generalize l[k].key = x1 at c1 d1
   generalize l[k].raw = x2 at c2 d2
   go_wp2_with fail
   go_region
   all_goals (
    go_wp2_with fail
    go_roundg (l.length - (k + 1))
    case measure => omega
    case rel => exact ⟨k + 1, _, rfl, hlt, by first | rfl | simp only [World.drewN_drewN, World.drewN_drew], Nat.le_refl _⟩)
  ·obtain rfl : k = l.length := by omega
   go_wp2_with fail
   first | go_ret | skip
   rw [HRR.out]
   exact ⟨rfl, n, rfl⟩
theorem equalT_any (l : List Tk) (va vb : Value) (w : World) (ha : RdE tkC 3 w va l) (hb : RdE tkC 3 w vb l) (hl : l.length ≤ 1000000) :
 Calls Tryz.prog 109 #[va, vb] w (fun e w' => e = .returned (.bool true) ∧ ∃ n, w' = w.drewN n) := by
 obtain ⟨R, HRR⟩ : ∃ R : Ending → World → Prop, Hid (R = fun e w' => e = .returned (.bool true) ∧ ∃ n, w' = w.drewN n) := ⟨_, rfl⟩
 rw [← HRR.out]
 obtain ⟨A, c, rfl, _, _⟩ := ha.shape
 obtain ⟨A', c', rfl, _, _⟩ := hb.shape
 have HA := Lib.hid ha
 have HB := Lib.hid hb
 have hq0 := fun (w : World) => neq_tk w
 clear ha hb
 go_enter Tryz.func109, Tryz.ntmps109
 go_wp2_with fail
 go_loopg [13] l.length (fun gk iv wr => ∃ k n : Nat, iv = .int .i64 k ∧ k ≤ l.length ∧ wr = w.drewN n ∧ l.length - k ≤ gk)
 case atStart => exact ⟨0, 0, rfl, Nat.zero_le _, rfl, Nat.le_refl _⟩
 case round =>
  obtain ⟨k, n, rfl, hk, rfl, hgk⟩ := hrel
  by_cases hlt : k < l.length
  ·obtain ⟨b1, o1, rfl, hb1, c0, c1, c2⟩ := RdT.at_ HA.out k hlt
   obtain ⟨b2, o2, rfl, hb2, d0, d1, d2⟩ := RdT.at_ HB.out k hlt
   generalize l[k].k = x0 at c0 d0
   generalize l[k].t = x1 at c1 d1
   generalize l[k].d = x2 at c2 d2
   go_wp2_with fail
   go_region
   all_goals (
    go_wp2_with fail
    go_roundg (l.length - (k + 1))
    case measure => omega
    case rel => exact ⟨k + 1, _, rfl, hlt, by first | rfl | simp only [World.drewN_drewN, World.drewN_drew], Nat.le_refl _⟩)
  ·obtain rfl : k = l.length := by omega
   go_wp2_with fail
   first | go_ret | skip
   rw [HRR.out]
   exact ⟨rfl, n, rfl⟩
theorem same_any (l : List Tk) (va vb : Value) (w : World) (ha : RdT w va l) (hb : RdT w vb l) (hl : l.length ≤ 1000000) :
 Calls Tryz.prog 69 #[va, vb] w (fun e w' => e = .returned (.bool true) ∧ ∃ n, w' = w.drewN n) := by
 have HC := Lib.hid (equalT_any l va vb w ha hb hl)
 obtain ⟨A, c, rfl, _, _⟩ := ha.shape
 obtain ⟨A', c', rfl, _, _⟩ := hb.shape
 clear ha hb
 go_enter Tryz.func69, Tryz.ntmps69
 go_wp2_with (go_at_call 109; refine (HC.out).mono ?_; rintro e w1 ⟨rfl, n, rfl⟩)
 go_ret
 exact ⟨rfl, n, rfl⟩
theorem cloneP_any (l : List Pt) (v : Value) (w : World) (h : RdE ptC 3 w v l) (hl : l.length ≤ 1000000) (hn : l ≠ []) :
 Calls Tryz.prog 72 #[v] w (RetOwn 52 ptC 3 w l) := by
 obtain ⟨A, c, rfl, h1, h2⟩ := h.shape
 have hq := fun (w : World) (a : Option Addr) (n c : Nat) => Lib.run_eql_slice_nil w 39 52 a n c 0 0 Tryz.underlying39
 have HO : Hid (OwnE 52 ptC 3 (w.alloc (.cells #[] 52)) w.heap.size (.slice (some ⟨w.heap.size, 0, none⟩) 0 0) []) := World.ownsRow_made w #[] 0 (Nat.le_refl _) (Nat.zero_le _) rfl
 obtain ⟨b, o, rfl, _⟩ : ∃ b o, A = some ⟨b, o, none⟩ ∧ True := by
  obtain ⟨b, o, hA, _⟩ := RdE.cells h (by cases l with | nil => exact absurd rfl hn | cons x l => simp)
  exact ⟨b, o, hA, trivial⟩
 have HB0 := Lib.hid ((Below.refl w.heap.size w).alloc (Nat.le_refl _) (.cells #[] 52))
 have HR := Lib.hid (h.below HB0.out (Nat.le_refl _))
 have hz := HB0.out.size
 clear h
 go_enter Tryz.func72, Tryz.ntmps72
 go_wp2_with (at_builtin; refine wpList_appE rfl (.tmp 5) (.tmp 6) 39 52 rfl Tryz.underlying39 _ ptC 3 40 pt_info rfl (by decide) ptC_three ptC_one w.heap.size _ [] rfl (by exact HO.out) _ l rfl (by exact HR.out) (by simp; omega) (by decide) hz ?_; intro v2 w2 hown2 hbel2 hgr2; have HO2 := Lib.hid hown2; have HB2 := Lib.hid (hbel2 w.heap.size w (Nat.le_refl _) HB0.out); clear hown2 hbel2 hgr2)
 go_ret
 exact ⟨_, rfl, HO2.out, HB2.out⟩
end Go.Proofs.YtfkojnofbpdjdaaGreatDoor

namespace Go.Proofs
set_option maxRecDepth 100000
open Go.Shelf
def Tryz.lays169_ren : Go.Shelf.Ren := ⟨fun | 169 => 54 | n => n, fun | 70 => 115 | 9 => 9 | 0 => 0 | 72 => 117 | 37 => 89 | 127 => 172 | 3 => 3 | 5 => 5 | n => n, fun | n => n⟩
theorem Tryz.lays169 : Go.Proofs.Lays.n169 Tryz.prog Tryz.lays169_ren := {
 mixed := by kernel_rfl
 f169 := Tryz.func54.trans (congrArg some (by kernel_rfl))
 t0 := Tryz.underlying0
 a0 := Tryz.isAgg0
 z0 := Tryz.sizeOf0
 v0 := Tryz.zeroValue0
 t3 := Tryz.underlying3
 a3 := Tryz.isAgg3
 z3 := Tryz.sizeOf3
 v3 := Tryz.zeroValue3
 t9 := Tryz.underlying9
 a9 := Tryz.isAgg9
 z9 := Tryz.sizeOf9
 v9 := Tryz.zeroValue9
 t37 := Tryz.underlying89
 a37 := Tryz.isAgg89
 z37 := Tryz.sizeOf89
 v37 := Tryz.zeroValue89
 t70 := Tryz.underlying115
 a70 := Tryz.isAgg115
 z70 := Tryz.sizeOf115
 v70 := Tryz.zeroValue115
 t72 := Tryz.underlying117
 a72 := Tryz.isAgg117
 z72 := Tryz.sizeOf117
 v72 := Tryz.zeroValue117
 t127 := Tryz.underlying172
 a127 := Tryz.isAgg172
 z127 := Tryz.sizeOf172
 v127 := Tryz.zeroValue172 }
theorem Tryz.Builder_Extra_169 : Builder.Extra Tryz.prog Tryz.lays169_ren := {
 sizeBuilder := by kernel_rfl
 liesBuilder := by kernel_rfl
 t5 := Tryz.underlying5
 a5 := Tryz.isAgg5
 z5 := Tryz.sizeOf5
 v5 := Tryz.zeroValue5
 infoByte := by kernel_rfl
 cellsByte := by kernel_rfl
 sizeByte := by kernel_rfl
 neB5 := by decide }
open Go.RowKit in
theorem Tryz.Builder_String_any (B b : Nat) (l : List UInt8) (w : World) (h : Lib.IsBuilder 117 5 B b (Lib.byteCells l) w) (hBw : B ≤ w.heap.size) :
 Calls Tryz.prog 54 #[.pointer (some ⟨b, 0, none⟩)] w fun e w' => e = .returned (.string ⟨l.toArray⟩) ∧ Below B w w' := Any.Builder_String_any Tryz.lays169 Tryz.Builder_Extra_169 B b l w h hBw
def Tryz.lays161_ren : Go.Shelf.Ren := ⟨fun | 161 => 176 | 231 => 200 | 227 => 201 | 233 => 202 | 235 => 203 | 228 => 218 | 197 => 219 | 151 => 220 | 260 => 233 | 152 => 234 | 137 => 126 | 119 => 237 | 224 => 188 | 225 => 187 | 217 => 166 | 266 => 191 | n => n, fun | 9 => 9 | 4 => 4 | 3 => 3 | 5 => 5 | 117 => 277 | 116 => 276 | 0 => 0 | 124 => 280 | 105 => 298 | 21 => 21 | 119 => 234 | 46 => 266 | 139 => 312 | 138 => 311 | n => n, fun | 3 => 2 | 4 => 3 | n => n⟩
theorem Tryz.lays161 : Go.Proofs.Lays.n161 Tryz.prog Tryz.lays161_ren := {
 mixed := by kernel_rfl
 f119 := Tryz.func237.trans (congrArg some (by kernel_rfl))
 f137 := Tryz.func126.trans (congrArg some (by kernel_rfl))
 f151 := Tryz.func220.trans (congrArg some (by kernel_rfl))
 f152 := Tryz.func234.trans (congrArg some (by kernel_rfl))
 f161 := Tryz.func176.trans (congrArg some (by kernel_rfl))
 f197 := Tryz.func219.trans (congrArg some (by kernel_rfl))
 f217 := Tryz.func166.trans (congrArg some (by kernel_rfl))
 f224 := Tryz.func188.trans (congrArg some (by kernel_rfl))
 f225 := Tryz.func187.trans (congrArg some (by kernel_rfl))
 f227 := Tryz.func201.trans (congrArg some (by kernel_rfl))
 f228 := Tryz.func218.trans (congrArg some (by kernel_rfl))
 f231 := Tryz.func200.trans (congrArg some (by kernel_rfl))
 f233 := Tryz.func202.trans (congrArg some (by kernel_rfl))
 f235 := Tryz.func203.trans (congrArg some (by kernel_rfl))
 f260 := Tryz.func233.trans (congrArg some (by kernel_rfl))
 f266 := Tryz.func191.trans (congrArg some (by kernel_rfl))
 t0 := Tryz.underlying0
 a0 := Tryz.isAgg0
 z0 := Tryz.sizeOf0
 v0 := Tryz.zeroValue0
 t3 := Tryz.underlying3
 a3 := Tryz.isAgg3
 z3 := Tryz.sizeOf3
 v3 := Tryz.zeroValue3
 t4 := Tryz.underlying4
 a4 := Tryz.isAgg4
 z4 := Tryz.sizeOf4
 v4 := Tryz.zeroValue4
 t5 := Tryz.underlying5
 a5 := Tryz.isAgg5
 z5 := Tryz.sizeOf5
 v5 := Tryz.zeroValue5
 t9 := Tryz.underlying9
 a9 := Tryz.isAgg9
 z9 := Tryz.sizeOf9
 v9 := Tryz.zeroValue9
 t21 := Tryz.underlying21
 a21 := Tryz.isAgg21
 z21 := Tryz.sizeOf21
 v21 := Tryz.zeroValue21
 t46 := Tryz.underlying266
 a46 := Tryz.isAgg266
 z46 := Tryz.sizeOf266
 v46 := Tryz.zeroValue266
 t105 := Tryz.underlying298
 a105 := Tryz.isAgg298
 z105 := Tryz.sizeOf298
 v105 := Tryz.zeroValue298
 t116 := Tryz.underlying276
 a116 := Tryz.isAgg276
 z116 := Tryz.sizeOf276
 t117 := Tryz.underlying277
 a117 := Tryz.isAgg277
 z117 := Tryz.sizeOf277
 v117 := Tryz.zeroValue277
 t119 := Tryz.underlying234
 a119 := Tryz.isAgg234
 z119 := Tryz.sizeOf234
 t124 := Tryz.underlying280
 a124 := Tryz.isAgg280
 z124 := Tryz.sizeOf280
 v124 := Tryz.zeroValue280
 t138 := Tryz.underlying311
 a138 := Tryz.isAgg311
 z138 := Tryz.sizeOf311
 v138 := Tryz.zeroValue311
 t139 := Tryz.underlying312
 a139 := Tryz.isAgg312
 z139 := Tryz.sizeOf312
 v139 := Tryz.zeroValue312
 g3 := by kernel_rfl
 g4 := by kernel_rfl }
def Tryz.lays171_ren : Go.Shelf.Ren := ⟨fun | 171 => 146 | 243 => 175 | 246 => 199 | 283 => 214 | 284 => 215 | 285 => 216 | 286 => 217 | 129 => 229 | 317 => 228 | 318 => 230 | 319 => 231 | 320 => 232 | 337 => 235 | 338 => 236 | n => n, fun | 3 => 3 | 9 => 9 | 2 => 2 | 4 => 4 | 171 => 292 | 0 => 0 | 53 => 293 | 37 => 89 | 5 => 5 | 173 => 296 | 212 => 305 | 51 => 149 | 20 => 20 | 213 => 306 | 46 => 266 | 232 => 105 | 233 => 314 | n => n, fun | 17 => 1 | 18 => 4 | 19 => 5 | n => n⟩
theorem Tryz.lays171 : Go.Proofs.Lays.n171 Tryz.prog Tryz.lays171_ren := {
 mixed := by kernel_rfl
 f129 := Tryz.func229.trans (congrArg some (by kernel_rfl))
 f171 := Tryz.func146.trans (congrArg some (by kernel_rfl))
 f243 := Tryz.func175.trans (congrArg some (by kernel_rfl))
 f246 := Tryz.func199.trans (congrArg some (by kernel_rfl))
 f283 := Tryz.func214.trans (congrArg some (by kernel_rfl))
 f284 := Tryz.func215.trans (congrArg some (by kernel_rfl))
 f285 := Tryz.func216.trans (congrArg some (by kernel_rfl))
 f286 := Tryz.func217.trans (congrArg some (by kernel_rfl))
 f317 := Tryz.func228.trans (congrArg some (by kernel_rfl))
 f318 := Tryz.func230.trans (congrArg some (by kernel_rfl))
 f319 := Tryz.func231.trans (congrArg some (by kernel_rfl))
 f320 := Tryz.func232.trans (congrArg some (by kernel_rfl))
 f337 := Tryz.func235.trans (congrArg some (by kernel_rfl))
 f338 := Tryz.func236.trans (congrArg some (by kernel_rfl))
 t0 := Tryz.underlying0
 a0 := Tryz.isAgg0
 z0 := Tryz.sizeOf0
 v0 := Tryz.zeroValue0
 t2 := Tryz.underlying2
 a2 := Tryz.isAgg2
 z2 := Tryz.sizeOf2
 v2 := Tryz.zeroValue2
 t3 := Tryz.underlying3
 a3 := Tryz.isAgg3
 z3 := Tryz.sizeOf3
 v3 := Tryz.zeroValue3
 t4 := Tryz.underlying4
 a4 := Tryz.isAgg4
 z4 := Tryz.sizeOf4
 v4 := Tryz.zeroValue4
 t5 := Tryz.underlying5
 a5 := Tryz.isAgg5
 z5 := Tryz.sizeOf5
 v5 := Tryz.zeroValue5
 t9 := Tryz.underlying9
 a9 := Tryz.isAgg9
 z9 := Tryz.sizeOf9
 v9 := Tryz.zeroValue9
 t20 := Tryz.underlying20
 a20 := Tryz.isAgg20
 z20 := Tryz.sizeOf20
 v20 := Tryz.zeroValue20
 t37 := Tryz.underlying89
 a37 := Tryz.isAgg89
 z37 := Tryz.sizeOf89
 v37 := Tryz.zeroValue89
 t46 := Tryz.underlying266
 a46 := Tryz.isAgg266
 z46 := Tryz.sizeOf266
 v46 := Tryz.zeroValue266
 t51 := Tryz.underlying149
 a51 := Tryz.isAgg149
 z51 := Tryz.sizeOf149
 v51 := Tryz.zeroValue149
 t53 := Tryz.underlying293
 a53 := Tryz.isAgg293
 z53 := Tryz.sizeOf293
 v53 := Tryz.zeroValue293
 t171 := Tryz.underlying292
 a171 := Tryz.isAgg292
 z171 := Tryz.sizeOf292
 v171 := Tryz.zeroValue292
 t173 := Tryz.underlying296
 a173 := Tryz.isAgg296
 z173 := Tryz.sizeOf296
 v173 := Tryz.zeroValue296
 t212 := Tryz.underlying305
 a212 := Tryz.isAgg305
 z212 := Tryz.sizeOf305
 v212 := Tryz.zeroValue305
 t213 := Tryz.underlying306
 a213 := Tryz.isAgg306
 z213 := Tryz.sizeOf306
 t232 := Tryz.underlying105
 a232 := Tryz.isAgg105
 z232 := Tryz.sizeOf105
 v232 := Tryz.zeroValue105
 t233 := Tryz.underlying314
 a233 := Tryz.isAgg314
 z233 := Tryz.sizeOf314
 v233 := Tryz.zeroValue314
 g17 := by kernel_rfl
 g18 := by kernel_rfl
 g19 := by kernel_rfl }
open Go.RowKit Go.Sort Go.Lib in
theorem Tryz.strconv_Itoa_small (i : Nat) (hi : i < 100) (w : World) :
 Calls Tryz.prog 146 #[.int .i64 i] w fun e w' => e = .returned (.string ⟨(Lib.decDigits i).toArray⟩) ∧ w' = w := Any.strconv_Itoa_small Tryz.lays171 i hi w
def Tryz.lays143_ren : Go.Shelf.Ren := ⟨fun | 143 => 144 | 219 => 163 | 217 => 166 | 225 => 187 | 224 => 188 | 267 => 189 | 266 => 191 | 314 => 213 | n => n, fun | 9 => 9 | 3 => 3 | 4 => 4 | 5 => 5 | 46 => 266 | 146 => 290 | 51 => 149 | n => n, fun | 1 => 0 | n => n⟩
theorem Tryz.lays143 : Go.Proofs.Lays.n143 Tryz.prog Tryz.lays143_ren := {
 mixed := by kernel_rfl
 f143 := Tryz.func144.trans (congrArg some (by kernel_rfl))
 f217 := Tryz.func166.trans (congrArg some (by kernel_rfl))
 f219 := Tryz.func163.trans (congrArg some (by kernel_rfl))
 f224 := Tryz.func188.trans (congrArg some (by kernel_rfl))
 f225 := Tryz.func187.trans (congrArg some (by kernel_rfl))
 f266 := Tryz.func191.trans (congrArg some (by kernel_rfl))
 f267 := Tryz.func189.trans (congrArg some (by kernel_rfl))
 f314 := Tryz.func213.trans (congrArg some (by kernel_rfl))
 t3 := Tryz.underlying3
 a3 := Tryz.isAgg3
 z3 := Tryz.sizeOf3
 v3 := Tryz.zeroValue3
 t4 := Tryz.underlying4
 a4 := Tryz.isAgg4
 z4 := Tryz.sizeOf4
 v4 := Tryz.zeroValue4
 t5 := Tryz.underlying5
 a5 := Tryz.isAgg5
 z5 := Tryz.sizeOf5
 v5 := Tryz.zeroValue5
 t9 := Tryz.underlying9
 a9 := Tryz.isAgg9
 z9 := Tryz.sizeOf9
 v9 := Tryz.zeroValue9
 t46 := Tryz.underlying266
 a46 := Tryz.isAgg266
 z46 := Tryz.sizeOf266
 v46 := Tryz.zeroValue266
 t51 := Tryz.underlying149
 a51 := Tryz.isAgg149
 z51 := Tryz.sizeOf149
 v51 := Tryz.zeroValue149
 t146 := Tryz.underlying290
 a146 := Tryz.isAgg290
 z146 := Tryz.sizeOf290
 v146 := Tryz.zeroValue290
 g1 := by kernel_rfl }
open Go.RowKit Go.Lib in
theorem Tryz.strings_Index (s sub : ByteArray) (m : Int) (w : World) (hs : s.size < 4294967281) (hm : w.cell? ⟨0, 0, none⟩ = some (.int .i64 m)) :
 Calls Tryz.prog 144 #[.string s, .string sub] w fun e w' => e = .returned (.int .i64 (Lib.index s.data.toList sub.data.toList)) ∧ w' = w := Any.strings_Index Tryz.lays143 s sub m w hs hm
def Tryz.lays145_ren : Go.Shelf.Ren := ⟨fun | 145 => 80 | 220 => 120 | 219 => 163 | 217 => 166 | 225 => 187 | 224 => 188 | 267 => 189 | 266 => 191 | 314 => 213 | n => n, fun | 9 => 9 | 4 => 4 | 59 => 163 | 3 => 3 | 5 => 5 | 46 => 266 | 146 => 290 | 51 => 149 | n => n, fun | 1 => 0 | n => n⟩
theorem Tryz.lays145 : Go.Proofs.Lays.n145 Tryz.prog Tryz.lays145_ren := {
 mixed := by kernel_rfl
 f145 := Tryz.func80.trans (congrArg some (by kernel_rfl))
 f217 := Tryz.func166.trans (congrArg some (by kernel_rfl))
 f219 := Tryz.func163.trans (congrArg some (by kernel_rfl))
 f220 := Tryz.func120.trans (congrArg some (by kernel_rfl))
 f224 := Tryz.func188.trans (congrArg some (by kernel_rfl))
 f225 := Tryz.func187.trans (congrArg some (by kernel_rfl))
 f266 := Tryz.func191.trans (congrArg some (by kernel_rfl))
 f267 := Tryz.func189.trans (congrArg some (by kernel_rfl))
 f314 := Tryz.func213.trans (congrArg some (by kernel_rfl))
 t3 := Tryz.underlying3
 a3 := Tryz.isAgg3
 z3 := Tryz.sizeOf3
 v3 := Tryz.zeroValue3
 t4 := Tryz.underlying4
 a4 := Tryz.isAgg4
 z4 := Tryz.sizeOf4
 v4 := Tryz.zeroValue4
 t5 := Tryz.underlying5
 a5 := Tryz.isAgg5
 z5 := Tryz.sizeOf5
 v5 := Tryz.zeroValue5
 t9 := Tryz.underlying9
 a9 := Tryz.isAgg9
 z9 := Tryz.sizeOf9
 v9 := Tryz.zeroValue9
 t46 := Tryz.underlying266
 a46 := Tryz.isAgg266
 z46 := Tryz.sizeOf266
 v46 := Tryz.zeroValue266
 t51 := Tryz.underlying149
 a51 := Tryz.isAgg149
 z51 := Tryz.sizeOf149
 v51 := Tryz.zeroValue149
 t59 := Tryz.underlying163
 a59 := Tryz.isAgg163
 z59 := Tryz.sizeOf163
 v59 := Tryz.zeroValue163
 t146 := Tryz.underlying290
 a146 := Tryz.isAgg290
 z146 := Tryz.sizeOf290
 v146 := Tryz.zeroValue290
 g1 := by kernel_rfl }
open Go.RowKit Go.Lib in
theorem Tryz.strings_Cut (s sep : ByteArray) (m : Int) (w : World) (hs : s.size < 4294967281) (hm : w.cell? ⟨0, 0, none⟩ = some (.int .i64 m)) :
 Calls Tryz.prog 80 #[.string s, .string sep] w fun e w' => e = .returned (.tuple #[.string ⟨(Lib.cut s.data.toList sep.data.toList).1.toArray⟩, .string ⟨(Lib.cut s.data.toList sep.data.toList).2.1.toArray⟩, .bool (Lib.cut s.data.toList sep.data.toList).2.2]) ∧ ∃ n, w' = w.drewN n := Any.strings_Cut Tryz.lays145 s sep m w hs hm
def Tryz.lays138_ren : Go.Shelf.Ren := ⟨fun | 138 => 268 | 195 => 269 | 218 => 270 | 143 => 144 | 219 => 163 | 217 => 166 | 225 => 187 | 224 => 188 | 267 => 189 | 266 => 191 | 314 => 213 | n => n, fun | 9 => 9 | 3 => 3 | 4 => 4 | 5 => 5 | 0 => 0 | 46 => 266 | 146 => 290 | 51 => 149 | n => n, fun | 1 => 0 | n => n⟩
theorem Tryz.lays138 : Go.Proofs.Lays.n138 Tryz.prog Tryz.lays138_ren := {
 mixed := by kernel_rfl
 f138 := Tryz.func268.trans (congrArg some (by kernel_rfl))
 f143 := Tryz.func144.trans (congrArg some (by kernel_rfl))
 f195 := Tryz.func269.trans (congrArg some (by kernel_rfl))
 f217 := Tryz.func166.trans (congrArg some (by kernel_rfl))
 f218 := Tryz.func270.trans (congrArg some (by kernel_rfl))
 f219 := Tryz.func163.trans (congrArg some (by kernel_rfl))
 f224 := Tryz.func188.trans (congrArg some (by kernel_rfl))
 f225 := Tryz.func187.trans (congrArg some (by kernel_rfl))
 f266 := Tryz.func191.trans (congrArg some (by kernel_rfl))
 f267 := Tryz.func189.trans (congrArg some (by kernel_rfl))
 f314 := Tryz.func213.trans (congrArg some (by kernel_rfl))
 t0 := Tryz.underlying0
 a0 := Tryz.isAgg0
 z0 := Tryz.sizeOf0
 v0 := Tryz.zeroValue0
 t3 := Tryz.underlying3
 a3 := Tryz.isAgg3
 z3 := Tryz.sizeOf3
 v3 := Tryz.zeroValue3
 t4 := Tryz.underlying4
 a4 := Tryz.isAgg4
 z4 := Tryz.sizeOf4
 v4 := Tryz.zeroValue4
 t5 := Tryz.underlying5
 a5 := Tryz.isAgg5
 z5 := Tryz.sizeOf5
 v5 := Tryz.zeroValue5
 t9 := Tryz.underlying9
 a9 := Tryz.isAgg9
 z9 := Tryz.sizeOf9
 v9 := Tryz.zeroValue9
 t46 := Tryz.underlying266
 a46 := Tryz.isAgg266
 z46 := Tryz.sizeOf266
 v46 := Tryz.zeroValue266
 t51 := Tryz.underlying149
 a51 := Tryz.isAgg149
 z51 := Tryz.sizeOf149
 v51 := Tryz.zeroValue149
 t146 := Tryz.underlying290
 a146 := Tryz.isAgg290
 z146 := Tryz.sizeOf290
 v146 := Tryz.zeroValue290
 g1 := by kernel_rfl }
open Go.RowKit Go.Lib in
theorem Tryz.strings_Count_one (s : ByteArray) (c : UInt8) (w : World) :
 Calls Tryz.prog 268 #[.string s, .string ⟨#[c]⟩] w fun e w' => e = .returned (.int .i64 (Lib.countByte s.data.toList c)) ∧ w' = w := Any.strings_Count_one Tryz.lays138 s c w
def Tryz.lays99_ren : Go.Shelf.Ren := ⟨fun | 99 => 130 | 206 => 167 | n => n, fun | 9 => 9 | 4 => 4 | 3 => 3 | n => n, fun | n => n⟩
theorem Tryz.lays99 : Go.Proofs.Lays.n99 Tryz.prog Tryz.lays99_ren := {
 mixed := by kernel_rfl
 f99 := Tryz.func130.trans (congrArg some (by kernel_rfl))
 f206 := Tryz.func167.trans (congrArg some (by kernel_rfl))
 t3 := Tryz.underlying3
 a3 := Tryz.isAgg3
 z3 := Tryz.sizeOf3
 v3 := Tryz.zeroValue3
 t4 := Tryz.underlying4
 a4 := Tryz.isAgg4
 z4 := Tryz.sizeOf4
 v4 := Tryz.zeroValue4
 t9 := Tryz.underlying9
 a9 := Tryz.isAgg9
 z9 := Tryz.sizeOf9
 v9 := Tryz.zeroValue9 }
open Go.RowKit Go.Lib in
theorem Tryz.strings_HasPrefix (s p : ByteArray) (w : World) :
 Calls Tryz.prog 130 #[.string s, .string p] w fun e w' => e = .returned (.bool (Lib.hasPrefix s.data.toList p.data.toList)) ∧ w' = w := Any.strings_HasPrefix Tryz.lays99 s p w
def Tryz.lays100_ren : Go.Shelf.Ren := ⟨fun | 100 => 164 | 207 => 190 | n => n, fun | 9 => 9 | 4 => 4 | 3 => 3 | n => n, fun | n => n⟩
theorem Tryz.lays100 : Go.Proofs.Lays.n100 Tryz.prog Tryz.lays100_ren := {
 mixed := by kernel_rfl
 f100 := Tryz.func164.trans (congrArg some (by kernel_rfl))
 f207 := Tryz.func190.trans (congrArg some (by kernel_rfl))
 t3 := Tryz.underlying3
 a3 := Tryz.isAgg3
 z3 := Tryz.sizeOf3
 v3 := Tryz.zeroValue3
 t4 := Tryz.underlying4
 a4 := Tryz.isAgg4
 z4 := Tryz.sizeOf4
 v4 := Tryz.zeroValue4
 t9 := Tryz.underlying9
 a9 := Tryz.isAgg9
 z9 := Tryz.sizeOf9
 v9 := Tryz.zeroValue9 }
open Go.RowKit Go.Lib in
theorem Tryz.strings_HasSuffix (s p : ByteArray) (w : World) (hs : s.size ≤ 9223372036854775807) :
 Calls Tryz.prog 164 #[.string s, .string p] w fun e w' => e = .returned (.bool (Lib.hasSuffix s.data.toList p.data.toList)) ∧ w' = w := Any.strings_HasSuffix Tryz.lays100 s p w hs
end Go.Proofs

namespace Go.Proofs.YtfkojnofbpdjdaaGreatDoor
set_option maxRecDepth 100000
open Go.RowKit
theorem sb_size : (Tryz.prog.info? 117).map (·.size) = some 2 := by kernel_rfl
theorem sb_lies : liesAt Tryz.prog Tryz.prog.depth 117 (2 / Tryz.prog.cellsOf 117) 0 117 1 = true := by kernel_rfl
theorem copyCheck_used (b : Nat) (w : World) (h0 : w.cell? ⟨b, 0, none⟩ = some (.pointer (some ⟨b, 0, none⟩))) :
 Calls Tryz.prog 93 #[.pointer (some ⟨b, 0, none⟩)] w fun e w' => e = .returned (.tuple #[]) ∧ w' = w := by
 obtain ⟨j, hj, hjs⟩ := Option.map_eq_some_iff.1 sb_size
 go_enter Tryz.func93, Tryz.ntmps93
 go_wp2
 rw [Lib.run_neq_ptr_same w _ Tryz.underlying115 hj]
 go_wp2
 go_end0
 exact ⟨rfl, rfl⟩
theorem copyCheck_fresh (b : Nat) (w : World) (h0 : w.cell? ⟨b, 0, none⟩ = some (.pointer none)) (hsh : w.shape? b = some (117, 2)) (hfz : w.frozen? ⟨b, 0, none⟩ = false) :
 Calls Tryz.prog 93 #[.pointer (some ⟨b, 0, none⟩)] w fun e w' => e = .returned (.tuple #[]) ∧ w' = w.setCell ⟨b, 0, none⟩ (.pointer (some ⟨b, 0, none⟩)) := by
 obtain ⟨j, hj, hjs⟩ := Option.map_eq_some_iff.1 sb_size
 go_enter Tryz.func93, Tryz.ntmps93
 go_wp2
 rw [Lib.run_to_unsafe w ⟨b, 0, none⟩ Tryz.underlying115 Tryz.underlying203 hj (by rw [hjs]; decide) hsh (Nat.zero_lt_succ 1)]
 simp only [Result.andThen]
 rw [Oper.upon_value]
 go_wp2
 rw [run_callFunc_extern Tryz.func141 (by kernel_rfl) (by kernel_rfl) (by kernel_rfl) (e := Extern.AbiNoEscape.same) (by kernel_rfl)]
 rw [Lib.run_noEscape]
 simp only [Result.andThen]
 rw [Oper.upon_value]
 go_wp2
 rw [Lib.run_from_unsafe w ⟨b, 0, none⟩ Tryz.underlying203 Tryz.underlying115 hj hsh sb_lies]
 simp only [Result.andThen]
 rw [Oper.upon_value]
 go_wp2
 go_end0
 exact ⟨rfl, rfl⟩
theorem copyCheck_any (B b : Nat) (bs : List Value) (w : World) (h : Lib.IsBuilder 117 5 B b bs w) :
 Calls Tryz.prog 93 #[.pointer (some ⟨b, 0, none⟩)] w fun e w' => e = .returned (.tuple #[]) ∧ (Lib.BuilderAt 117 5 B b (.pointer (some ⟨b, 0, none⟩)) bs w' ∧ Below B w w') := by
 rcases h with h | h
 ·refine (copyCheck_fresh b w h.cell0 h.shape h.frozen0).mono ?_
  rintro e w' ⟨rfl, rfl⟩
  exact ⟨rfl, h.used _, (Below.refl B w).setCell (p := ⟨b, 0, none⟩) h.1 _⟩
 ·refine (copyCheck_used b w h.cell0).mono ?_
  rintro e w' ⟨rfl, rfl⟩
  exact ⟨rfl, h, Below.refl B _⟩
theorem writeString_any (B b : Nat) (bs : List Value) (s : ByteArray) (w : World) (h : Lib.IsBuilder 117 5 B b bs w) (hlen : bs.length + s.size ≤ 140737488355328) (hBw : B ≤ w.heap.size) :
 Calls Tryz.prog 53 #[.pointer (some ⟨b, 0, none⟩), .string s] w fun e w' => e = .returned (.tuple #[.int .i64 s.size, .nilIface]) ∧ (Lib.BuilderAt 117 5 B b (.pointer (some ⟨b, 0, none⟩)) (bs ++ Lib.strCells s) w' ∧ Below B w w') := by
 obtain ⟨i0, hi, hz0, hz1, hz2⟩ := info_parts u8_info
 have HC := Lib.hid (copyCheck_any B b bs w h)
 clear h
 go_enter Tryz.func53, Tryz.ntmps53
 go_wp2_with (go_at_call 93; refine (HC.out).mono ?_)
 rintro e w1 ⟨rfl, h1, hb1⟩
 obtain ⟨hB, v, hbk, hown, hne⟩ := h1
 have c0 : w1.cell? ⟨b, 0, none⟩ = some (.pointer (some ⟨b, 0, none⟩)) := by rw [Lib.cell_of_heap hbk]; rfl
 have c1 : w1.cell? ⟨b, 1, none⟩ = some v := by rw [Lib.cell_of_heap hbk]; rfl
 go_wp2_with (at_builtin; refine Lib.wpList_append_own_string _ rfl _ _ 89 9 rfl B 5 i0 Tryz.underlying89 Tryz.underlying9 hi hz0 hz1 hz2 _ _ _ rfl hown s rfl ?c3 ?c4 ?c5 ?_)
 case c3 => unfold maxLen; omega
 case c4 => omega
 case c5 => have := hb1.size; omega
 intro v' w2 hown' hgrow _
 have hlt : b < w1.heap.size := by
  rcases Nat.lt_or_ge b w1.heap.size with h' | h'
  ·exact h'
  ·simp [Array.getElem?_eq_none h'] at hbk
 have hb2 : w2.heap[b]? = some (.cells #[.pointer (some ⟨b, 0, none⟩), v] 117 (0, 0)) := by
  rw [hgrow.block b hlt (fun e => hne e.symm)]
  exact hbk
 have d0 : w2.cell? ⟨b, 0, none⟩ = some (.pointer (some ⟨b, 0, none⟩)) := by rw [Lib.cell_of_heap hb2]; rfl
 have d1 : w2.cell? ⟨b, 1, none⟩ = some v := by rw [Lib.cell_of_heap hb2]; rfl
 have f1 : w2.frozen? ⟨b, 1, none⟩ = false := Lib.frozen_of_heap hb2 1
 obtain ⟨ao, n', cap, rfl⟩ : ∃ ao n' cap, v' = .slice ao n' cap := by
  rcases hown'.2 with ⟨hv, _⟩ | ⟨g, cap, cur, hv, _⟩
  ·exact ⟨_, _, _, hv⟩
  ·exact ⟨_, _, _, hv⟩
 go_wp2
 go_ret2
 refine ⟨rfl, ?_, ?_⟩
 ·exact Lib.BuilderAt.put (T := 117) (e := 5) hB hb2 (bs' := bs ++ Lib.strCells s) (by simpa [Lib.strCells_length] using hown') (by decide)
 ·exact (hb1.grown hgrow (by have := hb1.size; omega) (fun k hk => (hown.lt k hk).1)).setCell (p := ⟨b, 1, none⟩) hB _
end Go.Proofs.YtfkojnofbpdjdaaGreatDoor

namespace Go.Proofs.YtfkojnofbpdjdaaGreatDoor
set_option maxRecDepth 100000
open Go.RowKit
theorem isname_any (s : ByteArray) (w : World) (hs : s.size ≤ maxLen) :
 Calls Tryz.prog 114 #[.string s] w fun e w' => e = .returned (.bool (nameL s.data.toList)) ∧ w = w' := by
 unfold maxLen at hs
 have hsz := Lib.size_eq s
 by_cases h1 : s.size < 1
 ·have hn := nameL_short s.data.toList (by omega)
  have H := Lib.hid hn
  clear hn hsz
  go_enter Tryz.func114, Tryz.ntmps114
  go_wp2
  go_ret
  exact ⟨ret_bool H.out.symm, rfl⟩
 by_cases h2 : 24 < s.size
 ·have hn := nameL_long s.data.toList (by omega)
  have H := Lib.hid hn
  clear hn hsz
  go_enter Tryz.func114, Tryz.ntmps114
  go_wp2
  go_ret
  exact ⟨ret_bool H.out.symm, rfl⟩
 have h0 : 0 < s.size := by omega
 have hg : s.data.toList[0] = s[0] := rfl
 by_cases h3 : headB s[0] = true
 ·have hn := nameL_tail s.data.toList (by omega) (by omega) (by rw [hg]; exact h3)
  have H := Lib.hid hn
  have h3' : 97 ≤ s[0].toNat ∧ s[0].toNat ≤ 122 := by simpa [headB] using h3
  obtain ⟨h4, h5⟩ := h3'
  clear hn h3 hg
  have HZ := Lib.hid hsz
  clear hsz
  go_enter Tryz.func114, Tryz.ntmps114
  go_wp2
  go_loop [3] (fun i => ∃ k : Nat, 1 ≤ k ∧ k ≤ s.size ∧ i = .int .i64 k ∧ Hid (nameL s.data.toList = (s.data.toList.drop k).all restB)) (fun i => s.size - (intOf i).toNat)
  case atStart => exact ⟨1, by omega, by omega, rfl, H.out⟩
  case round =>
   obtain ⟨k, hk1, hk, rfl, HR⟩ := hrel
   by_cases hlt : k < s.size
   ·have hl : k < s.data.toList.length := by rw [← Lib.size_eq]; exact hlt
    have hst := HR.out.trans (all_drop_step _ _ hl)
    have hgk : s.data.toList[k] = s[k] := rfl
    rw [hgk] at hst
    have HS := Lib.hid hst
    clear hst hgk HR H
    have h255 : s[k].toNat < 256 := s[k].toNat_lt
    go_wp2
    all_goals (try simp only [beq_iff_eq, beq_eq_false_iff_ne, bne_iff_ne, bne_eq_false_iff_eq, ne_eq, Bool.not_eq_true', Bool.not_eq_false', Bool.not_eq_eq_eq_not, Bool.not_true, Bool.not_false, decide_eq_true_eq, decide_eq_false_iff_not, Int.not_lt, Int.not_le] at *)
    all_goals first
     | (refine ⟨⟨k + 1, by omega, by omega, by go_num, ?_⟩, by simp [intOf]; try omega⟩
        have hr : restB s[k] = true := by simp only [restB, decide_eq_true_eq]; omega
        have := HS.out
        rw [hr, Bool.true_and] at this
        exact this)
     | (have hr : restB s[k] = false := by simp only [restB, decide_eq_false_iff_not]; omega
        have := HS.out
        rw [hr, Bool.false_and] at this
        go_ret
        exact ⟨ret_bool this.symm, rfl⟩)
   ·have hl : ¬ k < s.data.toList.length := by rw [← Lib.size_eq]; exact hlt
    have hst := HR.out.trans (all_drop_end _ _ hl)
    have HS := Lib.hid hst
    clear hst HR H hl
    go_wp2
    go_ret
    exact ⟨ret_bool HS.out.symm, rfl⟩
 ·have h3f : headB s[0] = false := by simpa using h3
  have hn := nameL_head s.data.toList (by omega) (by rw [hg]; exact h3f)
  have H := Lib.hid hn
  have h3' : ¬ (97 ≤ s[0].toNat ∧ s[0].toNat ≤ 122) := by simpa [headB] using h3
  clear hn h3 h3f hg hsz
  have h255 : s[0].toNat < 256 := s[0].toNat_lt
  by_cases h4 : s[0].toNat < 97
  ·go_enter Tryz.func114, Tryz.ntmps114
   go_wp2
   go_ret
   exact ⟨ret_bool H.out.symm, rfl⟩
  ·have h5 : 122 < s[0].toNat := by omega
   clear h3'
   go_enter Tryz.func114, Tryz.ntmps114
   go_wp2
   go_ret
   exact ⟨ret_bool H.out.symm, rfl⟩
end Go.Proofs.YtfkojnofbpdjdaaGreatDoor

namespace Go.Proofs.YtfkojnofbpdjdaaGreatDoor
set_option maxRecDepth 100000
open Go.RowKit
structure BS (B g : Nat) (t : TypeId) (rest : List Value) (u : List Tk) (cs : List Int) (w : World) : Prop where
 ex : ∃ iv tv cv its tx, Bd B g t rest iv tv cv its tx cs w ∧ BSt u its tx
section
variable {B g : Nat} {t : TypeId} {rest : List Value} {u : List Tk} {cs : List Int} {w w' : World}
theorem BS.bsz (h : BS B g t rest u cs w) : B ≤ w.heap.size := by obtain ⟨_, _, _, _, _, h, _⟩ := h.ex; exact Nat.le_trans h.lt (Nat.le_of_lt h.gsz)
theorem BS.below (h : BS B g t rest u cs w) (hb : Below w.heap.size w w') : BS B g t rest u cs w' := by
 obtain ⟨iv, tv, cv, its, tx, h, hs⟩ := h.ex
 exact ⟨iv, tv, cv, its, tx, h.below hb, hs⟩
theorem bsByte (c : UInt8) (off : Int) (h : BS B g t rest u cs w) (hl : u.length + 1 ≤ 512) (hlu : lenI u ≤ 1000000) (hc : cs.length + 1 ≤ 1024) :
 Calls Tryz.prog 125 #[.pointer (some ⟨g, 0, none⟩), .int .u8 c.toNat, .int .i64 off] w (fun e w' => e = .returned (.bool true) ∧ BS B g t rest (u ++ [chI c]) (cs ++ [off]) w' ∧ Below B w w') := by
 have hB := h.bsz
 obtain ⟨iv, tv, cv, its, tx, h, hs⟩ := h.ex
 have h1 := hs.len
 have h2 := hs.text
 refine (bbyte_any c off h (by omega) hc (by omega)).mono ?_
 rintro e w' ⟨rfl, tv', cv', h', hm⟩
 refine ⟨rfl, ⟨_, _, _, _, _, h', hs.ch c⟩, hm.below (fun i hi => ?_) hB⟩
 rcases hi with rfl | hi | hi
 ·exact h.lt
 ·exact (h.txt.lt i hi).1
 ·exact (h.cuts.lt i hi).1
theorem bsItem (x : Tk) (hx : x.k ≠ 1) (off : Int) (h : BS B g t rest u cs w) (hl : u.length + 1 ≤ 512) (hlu : lenI u ≤ 1000000) (hc : cs.length + 1 ≤ 1024) :
 Calls Tryz.prog 127 #[.pointer (some ⟨g, 0, none⟩), .agg #[.int .i64 x.k, .string x.t, .int .i64 x.d], .int .i64 off] w (fun e w' => e = .returned (.bool true) ∧ BS B g t rest (u ++ [x]) (cs ++ [off]) w' ∧ Below B w w') := by
 have hB := h.bsz
 obtain ⟨iv, tv, cv, its, tx, h, hs⟩ := h.ex
 have h1 := hs.len
 have h2 := hs.text
 refine (bitem_any x off h (by omega) hc (by omega)).mono ?_
 rintro e w' ⟨rfl, iv', tv', cv', h', hm, _⟩
 refine ⟨rfl, ⟨_, _, _, _, _, h', hs.item x hx⟩, hm.below (fun i hi => ?_) hB⟩
 rcases hi with rfl | hi | hi
 ·exact h.lt
 ·exact (h.its.lt i hi).1
 ·exact (h.cuts.lt i hi).1
theorem bsItems (h : BS B g t rest u cs w) (hl : u.length ≤ 512) (hlu : lenI u ≤ 1000000) :
 Calls Tryz.prog 43 #[.pointer (some ⟨g, 0, none⟩)] w (fun e w' => ∃ v, e = .returned v ∧ OwnT 31 w' B v (normL u) ∧ Below B w w') := by
 have hB := h.bsz
 obtain ⟨iv, tv, cv, its, tx, h, hs⟩ := h.ex
 have h1 := hs.len
 have h2 := hs.text
 refine (bitems_any h (by omega) (by omega)).mono ?_
 rintro e w' ⟨v, rfl, ho, hm⟩
 refine ⟨v, rfl, ?_, hm.below (fun i hi => ?_) hB⟩
 ·rw [hs.2]
  exact ho
 ·rcases hi with rfl | hi
  ·exact h.lt
  ·exact (h.its.lt i hi).1
theorem bsCuts (last : Int) (h : BS B g t rest u cs w) (hc : cs.length + 1 ≤ 1000000) :
 Calls Tryz.prog 155 #[.pointer (some ⟨g, 0, none⟩), .int .i64 last] w (fun e w' => ∃ v, e = .returned v ∧ OwnE 3 intC 1 w' B v (cs ++ [last]) ∧ Below B w w') := by
 have hB := h.bsz
 obtain ⟨iv, tv, cv, its, tx, h, hs⟩ := h.ex
 refine (bcuts_any last h hc).mono ?_
 rintro e w' ⟨v, rfl, ho, hm⟩
 exact ⟨v, rfl, ho, hm.below (fun i hi => (h.cuts.lt i hi).1) hB⟩
end
def ElRet (B g : Nat) (t : TypeId) (rest : List Value) (u : List Tk) (cs : List Int) (n : Nat) (w : World) (e : Ending) (w' : World) : Prop :=
 e = .returned (.tuple #[.int .i64 n, .int .i64 0]) ∧ BS B g t rest u cs w' ∧ Below B w w'
theorem beq_u8f (a b : UInt8) (h : a ≠ b) : ((a.toNat : Int) == (b.toNat : Int)) = false := by
 rw [beq_eq_false_iff_ne]
 intro e
 exact h (UInt8.toNat_inj.1 (by omega))
theorem beq_u8t (a b : UInt8) (h : a = b) : ((a.toNat : Int) == (b.toNat : Int)) = true := by
 rw [h]
 simp
theorem pfx_any (s p : ByteArray) (b : Bool) (h : Lib.hasPrefix s.data.toList p.data.toList = b) (w : World) : Calls Tryz.prog 130 #[.string s, .string p] w fun e w' => e = .returned (.bool b) ∧ w = w' := by
 subst h
 refine (Tryz.strings_HasPrefix s p w).mono ?_
 rintro e w' ⟨rfl, rfl⟩
 exact ⟨rfl, rfl⟩
theorem shElem_ch (raw s : ByteArray) (k : Nat) (c : UInt8) (r : List UInt8) {B g : Nat} {t : TypeId} {rest : List Value} {u : List Tk} {cs : List Int} {w : World} (h : BS B g t rest u cs w) (hl : u.length + 1 ≤ 512) (hlu : lenI u ≤ 1000000) (hc : cs.length + 1 ≤ 1024)
 (hk : k < raw.size) (hr : raw.size ≤ 1000000) (hs : raw.extract k raw.size = s) (hcr : s.data.toList = c :: r) (h1 : c ≠ 34) (h2 : c ≠ 123) :
 Calls Tryz.prog 84 #[.pointer (some ⟨g, 0, none⟩), .string raw, .int .i64 k] w (ElRet B g t rest (u ++ [chI c]) (cs ++ [(k : Int)]) (k + 1) w) := by
 have hsz : 0 < s.size := by rw [Lib.size_eq, hcr]; simp
 have hc0 : s[0] = c := by
  have : s.data.toList[0]'(by rw [hcr]; simp) = c := by simp only [hcr]; rfl
  exact this
 have CP1 := Lib.hid (pfx_any s (⟨#[34, 34]⟩ : ByteArray) false (by rw [hcr]; exact pre_head c 34 r [34] h1))
 have CP2 := Lib.hid (pfx_any s (⟨#[123, 123]⟩ : ByteArray) false (by rw [hcr]; exact pre_head c 123 r [123] h2))
 have CB := Lib.hid (bsByte s[0] (k : Int) h hl hlu hc)
 rw [hc0] at CB
 have n1 : ((s[0].toNat : Int) == 34) = false := beq_u8f s[0] 34 (by rw [hc0]; exact h1)
 have n2 : ((s[0].toNat : Int) == 123) = false := beq_u8f s[0] 123 (by rw [hc0]; exact h2)
 rw [← hc0] at CB
 have HS := Lib.hid hs
 have HC0 := Lib.hid hc0
 clear h hl hlu hc hcr h1 h2 hc0 hs
 go_enter Tryz.func84, Tryz.ntmps84
 go_upto_region 2 with fail
 rw [HS.out]
 go_wp2_with (first
  | (go_at_call_of 130 (Value.string (⟨#[34, 34]⟩ : ByteArray)); refine (CP1.out _).mono ?_; rintro e w' ⟨rfl, rfl⟩)
  | (go_at_call_of 130 (Value.string (⟨#[123, 123]⟩ : ByteArray)); refine (CP2.out _).mono ?_; rintro e w' ⟨rfl, rfl⟩)
  | (go_at_call 125; refine (CB.out).mono ?_; rintro e w1 ⟨rfl, hb1, hw1⟩; have HB1 := Lib.hid hb1; have HW1 := Lib.hid hw1; clear hb1 hw1))
 go_ret2
 refine ⟨?_, ?_, HW1.out⟩
 ·rfl
 ·rw [← HC0.out]; exact HB1.out
theorem shElem_two (raw s : ByteArray) (k : Nat) (c : UInt8) (r : List UInt8) {B g : Nat} {t : TypeId} {rest : List Value} {u : List Tk} {cs : List Int} {w : World} (h : BS B g t rest u cs w) (hl : u.length + 1 ≤ 512) (hlu : lenI u ≤ 1000000) (hc : cs.length + 1 ≤ 1024)
 (hk : k < raw.size) (hr : raw.size ≤ 1000000) (hs : raw.extract k raw.size = s) (hcr : s.data.toList = c :: c :: r) (h1 : c = 34 ∨ c = 123) :
 Calls Tryz.prog 84 #[.pointer (some ⟨g, 0, none⟩), .string raw, .int .i64 k] w (ElRet B g t rest (u ++ [chI c]) (cs ++ [(k : Int)]) (k + 2) w) := by
 have hsz : 0 < s.size := by rw [Lib.size_eq, hcr]; simp
 have hc0 : s[0] = c := by
  have : s.data.toList[0]'(by rw [hcr]; simp) = c := by simp only [hcr]; rfl
  exact this
 have CB := Lib.hid (bsByte s[0] (k : Int) h hl hlu hc)
 have HS := Lib.hid hs
 have HC0 := Lib.hid hc0
 rcases h1 with rfl | rfl
 ·have CP1 := Lib.hid (pfx_any s (⟨#[34, 34]⟩ : ByteArray) true (by rw [hcr]; exact pre_yes [34, 34] r))
  clear h hl hlu hc hcr hc0 hs
  go_enter Tryz.func84, Tryz.ntmps84
  go_upto_region 2 with fail
  rw [HS.out]
  go_wp2_with (first
   | (go_at_call_of 130 (Value.string (⟨#[34, 34]⟩ : ByteArray)); refine (CP1.out _).mono ?_; rintro e w' ⟨rfl, rfl⟩)
   | (go_at_call 125; refine (CB.out).mono ?_; rintro e w1 ⟨rfl, hb1, hw1⟩; have HB1 := Lib.hid hb1; have HW1 := Lib.hid hw1; clear hb1 hw1))
  go_ret2
  refine ⟨?_, ?_, HW1.out⟩
  ·rfl
  ·rw [← HC0.out]; exact HB1.out
 ·have CP1 := Lib.hid (pfx_any s (⟨#[34, 34]⟩ : ByteArray) false (by rw [hcr]; exact pre_head 123 34 (123 :: r) [34] (by decide)))
  have CP2 := Lib.hid (pfx_any s (⟨#[123, 123]⟩ : ByteArray) true (by rw [hcr]; exact pre_yes [123, 123] r))
  clear h hl hlu hc hcr hc0 hs
  go_enter Tryz.func84, Tryz.ntmps84
  go_upto_region 2 with fail
  rw [HS.out]
  go_wp2_with (first
   | (go_at_call_of 130 (Value.string (⟨#[34, 34]⟩ : ByteArray)); refine (CP1.out _).mono ?_; rintro e w' ⟨rfl, rfl⟩)
   | (go_at_call_of 130 (Value.string (⟨#[123, 123]⟩ : ByteArray)); refine (CP2.out _).mono ?_; rintro e w' ⟨rfl, rfl⟩)
   | (go_at_call 125; refine (CB.out).mono ?_; rintro e w1 ⟨rfl, hb1, hw1⟩; have HB1 := Lib.hid hb1; have HW1 := Lib.hid hw1; clear hb1 hw1))
  go_ret2
  refine ⟨?_, ?_, HW1.out⟩
  ·rfl
  ·rw [← HC0.out]; exact HB1.out
theorem idx_call (s : ByteArray) (b : Nat) (z : Int) (h : Lib.indexByte s.data.toList (b : Int).toNat.toUInt8 = z) (w : World) : Calls Tryz.prog 126 #[.string s, .int .u8 b] w fun e w' => e = .returned (.int .i64 z) ∧ w = w' := by
 subst h
 exact index_any s b w
theorem shElem_slot (raw s nm : ByteArray) (k : Nat) (r : List UInt8) {B g : Nat} {t : TypeId} {rest : List Value} {u : List Tk} {cs : List Int} {w : World} (h : BS B g t rest u cs w) (hl : u.length + 1 ≤ 512) (hlu : lenI u ≤ 1000000) (hc : cs.length + 1 ≤ 1024)
 (hk : k < raw.size) (hr : raw.size ≤ 1000000) (hs : raw.extract k raw.size = s) (hcr : s.data.toList = 123 :: nm.data.toList ++ 125 :: r) (hn : nameL nm.data.toList = true) :
 Calls Tryz.prog 84 #[.pointer (some ⟨g, 0, none⟩), .string raw, .int .i64 k] w (ElRet B g t rest (u ++ [⟨5, nm, 0⟩]) (cs ++ [(k : Int)]) (k + (nm.size + 2)) w) := by
 have hsl : s.size = nm.size + 2 + r.length := by rw [Lib.size_eq, hcr, Lib.size_eq nm]; simp; omega
 have hsz : 0 < s.size := by omega
 have hss : s.size ≤ raw.size := by rw [← hs, ByteArray.size_extract]; omega
 have hc0 : s[0] = 123 := by
  have : s.data.toList[0]'(by rw [hcr]; simp) = 123 := by simp only [hcr]; rfl
  exact this
 have hns : nm.size ≤ maxLen := by unfold maxLen; omega
 have hex : s.extract 1 (nm.size + 1) = nm := by
  apply ByteArray.ext
  apply Array.toList_inj.1
  rw [Lib.size_eq nm]
  simp only [ByteArray.data_extract, Array.toList_extract, List.extract_eq_take_drop, hcr]
  simp
 have hpr : ∃ d l, nm.data.toList = d :: l ∧ d ≠ 123 := by
  obtain ⟨d, l, e, hh, _⟩ := name_head _ hn
  exact ⟨d, l, e, head_not d hh 123 (by simp)⟩
 have CP1 := Lib.hid (pfx_any s (⟨#[34, 34]⟩ : ByteArray) false (by rw [hcr]; exact pre_head 123 34 _ [34] (by decide)))
 have CP2 := Lib.hid (pfx_any s (⟨#[123, 123]⟩ : ByteArray) false (by
  obtain ⟨d, l, e, hd⟩ := hpr
  rw [hcr, e]
  show Lib.hasPrefix (123 :: d :: (l ++ 125 :: r)) [123, 123] = false
  unfold Lib.hasPrefix
  have hb : (123 == d) = false := by simpa using fun e : 123 = d => hd e.symm
  simp [List.isPrefixOf, hb]))
 have CI := Lib.hid (idx_call s 125 ((nm.size + 1 : Nat) : Int) (by rw [hcr, Lib.size_eq nm]; exact slot_idx nm.data.toList r hn))
 have CN := Lib.hid (fun w => isname_any nm w hns)
 rw [hn] at CN
 have CB := Lib.hid (bsItem ⟨5, nm, 0⟩ (by show (5 : Int) ≠ 1; decide) (k : Int) h hl hlu hc)
 have HS := Lib.hid hs
 have n1 : ((s[0].toNat : Int) == 34) = false := beq_u8f s[0] 34 (by rw [hc0]; decide)
 have n2 : ((s[0].toNat : Int) == 123) = true := beq_u8t s[0] 123 hc0
 clear h hl hlu hc hcr hs hpr hc0
 go_enter Tryz.func84, Tryz.ntmps84
 go_upto_region 2 with fail
 rw [HS.out]
 go_wp2_with (first
  | (go_at_call_of 130 (Value.string (⟨#[34, 34]⟩ : ByteArray)); refine (CP1.out _).mono ?_; rintro e w' ⟨rfl, rfl⟩)
  | (go_at_call_of 130 (Value.string (⟨#[123, 123]⟩ : ByteArray)); refine (CP2.out _).mono ?_; rintro e w' ⟨rfl, rfl⟩)
  | (go_at_call 126; refine (CI.out _).mono ?_; rintro e w' ⟨rfl, rfl⟩)
  | (go_at_call 114; refine (CN.out _).mono ?_; rintro e w' ⟨rfl, rfl⟩)
  | (go_at_call 127; refine (CB.out).mono ?_; rintro e w1 ⟨rfl, hb1, hw1⟩; have HB1 := Lib.hid hb1; have HW1 := Lib.hid hw1; clear hb1 hw1))
 go_ret2
 refine ⟨?_, HB1.out, HW1.out⟩
 have e : ((k : Int) + ((nm.size : Int) + 1) + 1) = ((k + (nm.size + 2) : Nat) : Int) := by omega
 exact ret_val (by rw [← e]; rfl)
end Go.Proofs.YtfkojnofbpdjdaaGreatDoor

namespace Go.Proofs.YtfkojnofbpdjdaaGreatDoor
set_option maxRecDepth 100000
open Go.RowKit
theorem ext_drop (raw : ByteArray) (k : Nat) : (raw.extract k raw.size).data.toList = raw.data.toList.drop k := by
 simp only [ByteArray.data_extract, Array.toList_extract, List.extract_eq_take_drop]
 rw [List.take_of_length_le (by rw [List.length_drop, Lib.size_eq]; omega)]
theorem shElem_any (raw : ByteArray) (k : Nat) (rest' : List UInt8) {B g : Nat} {t : TypeId} {rest : List Value} {u : List Tk} {cs : List Int} {w : World} (h : BS B g t rest u cs w) (hl : u.length + 1 ≤ 512) (hlu : lenI u ≤ 1000000) (hc : cs.length + 1 ≤ 1024)
 (hk : k < raw.size) (hr : raw.size ≤ 1000000) : ∀ (fmt : Int) (r : List UInt8) (o : Option Tk), ElOk fmt r o → fmt = 3 → raw.data.toList.drop k = r ++ rest' →
 ∃ x, o = some x ∧ Calls Tryz.prog 84 #[.pointer (some ⟨g, 0, none⟩), .string raw, .int .i64 k] w (ElRet B g t rest (u ++ [x]) (cs ++ [(k : Int)]) (k + r.length) w) := by
 intro fmt r o he hf hd
 have hx := ext_drop raw k
 rw [hd] at hx
 cases he with
 | slot _ n hn =>
   refine ⟨_, rfl, ?_⟩
   have e : (123 :: n ++ [125]).length = (ofL n).size + 2 := by rw [Lib.size_eq]; simp [ofL]
   rw [e]
   exact shElem_slot raw _ (ofL n) k rest' h hl hlu hc hk hr rfl (by rw [hx]; simp [ofL]) (by simpa [ofL] using hn)
 | ch3 c hc3 => exact ⟨_, rfl, shElem_ch raw _ k c rest' h hl hlu hc hk hr rfl (by rw [hx]; rfl) hc3.1 hc3.2⟩
 | two c hc3 => exact ⟨_, rfl, shElem_two raw _ k c rest' h hl hlu hc hk hr rfl (by rw [hx]; rfl) hc3⟩
 | ch1 => exact absurd hf (by decide)
 | ref => exact absurd hf (by decide)
 | opn => exact absurd hf (by decide)
 | cls => exact absurd hf (by decide)
 | emp => exact absurd hf (by decide)
 | ch2 => exact absurd hf (by decide)
 | esc => exact absurd hf (by decide)
 | cont => exact absurd hf (by decide)
theorem el_ne (fmt : Int) (r : List UInt8) (o : Option Tk) (he : ElOk fmt r o) : 0 < r.length := by
 cases he with
 | ref _ c h => 
   simp only [refsL, List.mem_cons, Prod.mk.injEq, List.not_mem_nil, or_false] at h
   rcases h with ⟨rfl, _⟩ | ⟨rfl, _⟩ | ⟨rfl, _⟩ | ⟨rfl, _⟩ | ⟨rfl, _⟩ <;> decide
 | _ => simp
def posE (ts : Els) (j : Nat) : Nat := (rawE (ts.take j)).length
theorem posE_succ (ts : Els) (j : Nat) (h : j < ts.length) : posE ts (j + 1) = posE ts j + ts[j].1.length := by
 unfold posE
 rw [raw_take ts j h, List.length_append]
theorem posE_all (ts : Els) : posE ts ts.length = (rawE ts).length := by unfold posE; rw [List.take_length]
theorem posE_drop (ts : Els) (j : Nat) (h : j < ts.length) : (rawE ts).drop (posE ts j) = ts[j].1 ++ rawE (ts.drop (j + 1)) := by
 have e := raw_split ts j h
 have := congrArg (List.drop (posE ts j)) e
 rw [this]
 exact List.drop_left
theorem posE_lt (ts : Els) (j : Nat) (h : j < ts.length) (h0 : 0 < ts[j].1.length) : posE ts j < (rawE ts).length := by
 have e := congrArg List.length (raw_split ts j h)
 rw [List.length_append, List.length_append] at e
 unfold posE
 omega
theorem itm_take (ts : Els) (j : Nat) (h : j < ts.length) (x : Tk) (hx : ts[j].2 = some x) : itmE (ts.take (j + 1)) = itmE (ts.take j) ++ [x] := by
 rw [List.take_succ_eq_append_getElem h, itmE_app]
 congr 1
 simp [itmE, hx]
theorem end_some : ∀ (ts : Els) (p : Nat), (∀ e ∈ ts, e.2 ≠ none) → endE ts p p = p + (rawE ts).length
 | [], p, _ => by simp [endE, rawE]
 | (r, none) :: ts, p, h => absurd rfl (h (r, none) (by simp))
 | (r, some x) :: ts, p, h => by
   rw [endE, end_some ts _ fun e he => h e (List.mem_cons_of_mem _ he), show rawE ((r, some x) :: ts) = r ++ rawE ts from rfl, List.length_append, Nat.add_assoc]
def csE (ts : Els) : List Int := (cutE ts 0 0).map fun (n : Nat) => (n : Int)
theorem cs_take (ts : Els) (j : Nat) (h : j < ts.length) (hall : ∀ e ∈ ts, e.2 ≠ none) : csE (ts.take (j + 1)) = csE (ts.take j) ++ [(posE ts j : Int)] := by
 unfold csE
 rw [List.take_succ_eq_append_getElem h, cutE_app, List.map_append]
 congr 1
 have he := end_some (ts.take j) 0 fun e he => hall e (List.mem_of_mem_take he)
 rw [Nat.zero_add] at he
 obtain ⟨x, hx⟩ := Option.ne_none_iff_exists'.1 (hall _ (List.getElem_mem h))
 have e2 : ts[j] = (ts[j].1, some x) := by rw [← hx]
 rw [e2]
 show [((endE (ts.take j) 0 0 : Nat) : Int)] = _
 rw [he]
 rfl
theorem cs_len (ts : Els) : (csE ts).length = (itmE ts).length := by unfold csE; rw [List.length_map, cutE_len]
theorem itm_take_le (ts : Els) (j : Nat) : (itmE (ts.take j)).length ≤ (itmE ts).length := by
 have := congrArg itmE (List.take_append_drop j ts)
 rw [itmE_app] at this
 rw [← this, List.length_append]
 omega
end Go.Proofs.YtfkojnofbpdjdaaGreatDoor

namespace Go.Proofs.YtfkojnofbpdjdaaGreatDoor
set_option maxRecDepth 100000
open Go.RowKit
structure Rdb (fmt : Int) (raw : ByteArray) (ts : Els) : Prop where
 eq : raw.data.toList = rawE ts
 els : ∀ e ∈ ts, ElOk fmt e.1 e.2
 len : (itmE ts).length ≤ 500
 sz : raw.size ≤ 1000000
theorem lenI_one : ∀ (u : List Tk), (∀ x ∈ u, One x) → lenI u ≤ u.length
 | [], _ => Nat.le_refl _
 | x :: u, h => by
   have h1 : wdI x ≤ 1 := by
    unfold wdI
    split
    ·rename_i hk
     obtain ⟨c, hc⟩ := h x (by simp) hk
     rw [hc]
     exact Nat.le_refl 1
    ·exact Nat.le_refl 1
   have h2 := lenI_one u fun y hy => h y (by simp [hy])
   show wdI x + lenI u ≤ u.length + 1
   omega
theorem el_one (fmt : Int) (r : List UInt8) (x : Tk) (he : ElOk fmt r (some x)) : One x := by
 cases he <;> first | exact fun _ => ⟨_, rfl⟩ | (intro h; exact absurd h (by simp))
theorem itm_one (fmt : Int) (ts : Els) (h : ∀ e ∈ ts, ElOk fmt e.1 e.2) : ∀ x ∈ itmE ts, One x := by
 intro x hx
 obtain ⟨e, he, hx⟩ := List.mem_filterMap.1 hx
 have := h e he
 rw [hx] at this
 exact el_one _ _ _ this
theorem el3_some (r : List UInt8) (o : Option Tk) : ∀ fmt, ElOk fmt r o → fmt ≠ 2 → o ≠ none := by
 intro fmt he hf
 cases he with
 | cont => exact absurd rfl hf
 | _ => simp
def ReadRet (B0 : Nat) (t : TypeId) (u : List Tk) (cs : List Int) (w : World) (e : Ending) (w' : World) : Prop :=
 ∃ g, e = .returned (.tuple #[.pointer (some ⟨g, 0, none⟩), .int .i64 0, .int .i64 0]) ∧ BS B0 g t [] u cs w' ∧ Below B0 w w'
theorem shRead_any (raw : ByteArray) (ts : Els) (w : World) (h : Rdb 3 raw ts) :
 Calls Tryz.prog 45 #[.string raw] w (ReadRet w.heap.size 91 (itmE ts) (csE ts) w) := by
 obtain ⟨R, HRR⟩ : ∃ R, Hid (R = ReadRet w.heap.size 91 (itmE ts) (csE ts) w) := ⟨_, rfl⟩
 rw [← HRR.out]
 have HB0 : Hid (BS w.heap.size w.heap.size 91 [] [] [] (w.alloc (.cells #[.slice none 0 0, .slice none 0 0, .slice none 0 0] 91))) :=
  ⟨⟨_, _, _, [], ⟨#[]⟩, Bd.start (Nat.le_refl _) rfl (by decide), BSt.nil⟩⟩
 have HL0 := Lib.hid ((Below.refl w.heap.size w).alloc (Nat.le_refl _) (.cells #[.slice none 0 0, .slice none 0 0, .slice none 0 0] 91))
 have hrs : raw.size = (rawE ts).length := by rw [Lib.size_eq, h.eq]
 have HRS := Lib.hid hrs
 have H := Lib.hid h
 clear h hrs
 go_enter Tryz.func45, Tryz.ntmps45
 go_wp2_with fail
 go_loopg [6] ts.length (fun gk iv wr => ∃ j, iv = .int .i64 (posE ts j : Nat) ∧ j ≤ ts.length ∧ Hid (BS w.heap.size w.heap.size 91 [] (itmE (ts.take j)) (csE (ts.take j)) wr) ∧ Hid (Below w.heap.size w wr) ∧ ts.length - j ≤ gk)
 case atStart => exact ⟨0, rfl, Nat.zero_le _, HB0.out, HL0.out, Nat.le_refl _⟩
 case round =>
  obtain ⟨j, rfl, hj, HB, HL, hgk⟩ := hrel
  by_cases hlt : j < ts.length
  ·have hmem := List.getElem_mem hlt
   have hel := H.out.els _ hmem
   have hp := posE_lt ts j hlt (el_ne _ _ _ hel)
   have hps : posE ts j < raw.size := by rw [HRS.out]; exact hp
   have hd := posE_drop ts j hlt
   rw [← H.out.eq] at hd
   have hil := itm_take_le ts (j + 1)
   have hlen := H.out.len
   have hsz := H.out.sz
   obtain ⟨x, hx⟩ := Option.ne_none_iff_exists'.1 (el3_some _ _ _ hel (by decide))
   have hit := itm_take ts j hlt x hx
   have hct := cs_take ts j hlt fun e he => el3_some _ _ _ (H.out.els e he) (by decide)
   rw [hit, List.length_append] at hil
   have hil1 : (itmE (ts.take j)).length + 1 ≤ 500 := by simp at hil; omega
   have hlu : lenI (itmE (ts.take j)) ≤ 500 := Nat.le_trans (lenI_one _ (itm_one 3 (ts.take j) fun e he => H.out.els e (List.mem_of_mem_take he))) (by omega)
   obtain ⟨x', hx', hC⟩ := shElem_any raw (posE ts j) _ HB.out (by omega) (by omega) (by rw [cs_len]; omega) hps hsz 3 _ _ hel rfl hd
   rw [hx] at hx'
   injection hx' with hx'
   subst hx'
   rw [← hit, ← hct, ← posE_succ ts j hlt] at hC
   have HC := Lib.hid hC
   have HSZ := Lib.hid (HB.out.bsz)
   clear hC hit hct hx hd hel hmem HB0 HL0 hil hlu hp
   have hps2 : ((posE ts j : Nat) : Int) < (raw.size : Int) := by omega
   generalize posE ts j = pj at hps hps2 HC ⊢
   go_wp2_with fail
   refine (HC.out).mono ?_
   rintro e w1 ⟨rfl, hb1, hw1⟩
   have HB1 := Lib.hid hb1
   have HW1 := Lib.hid (HL.out.trans hw1)
   clear hb1 hw1
   go_wp2_with fail
   go_roundg (ts.length - (j + 1))
   case measure => omega
   case rel => exact ⟨j + 1, rfl, hlt, HB1.out, HW1.out, by omega⟩
  ·obtain rfl : j = ts.length := by omega
   have he : posE ts ts.length = raw.size := by rw [HRS.out]; exact posE_all ts
   rw [he]
   rw [List.take_length] at HB
   clear HB0 HL0 he
   go_wp2_with fail
   go_ret3
   rw [HRR.out]
   exact ⟨_, rfl, HB.out, HL.out⟩
theorem shDecode_any (raw : ByteArray) (ts : Els) (w : World) (h : Rdb 3 raw ts) :
 Calls Tryz.prog 15 #[.string raw] w (fun e w' => ∃ v, e = .returned (.tuple #[v, .int .i64 0, .int .i64 0]) ∧ OwnT 31 w' w.heap.size v (normL (itmE ts)) ∧ Below w.heap.size w w') := by
 have HR := Lib.hid (shRead_any raw ts w h)
 have HL : Hid ((itmE ts).length ≤ 500) := h.len
 have HU : Hid (lenI (itmE ts) ≤ 500) := Nat.le_trans (lenI_one _ (itm_one 3 ts h.els)) h.len
 clear h
 go_enter Tryz.func15, Tryz.ntmps15
 go_wp2_with fail
 refine (HR.out).mono ?_
 rintro e w1 ⟨g, rfl, hb, hw⟩
 have HI := Lib.hid (bsItems hb (by have := HL.out; omega) (by have := HU.out; omega))
 have HW := Lib.hid hw
 clear hb hw HR
 go_wp2_with fail
 refine (HI.out).mono ?_
 rintro e w2 ⟨v, rfl, ho, hw2⟩
 have HO := Lib.hid ho
 have HW2 := Lib.hid (HW.out.trans hw2)
 obtain ⟨A, c, rfl⟩ := own_shape ho
 clear ho hw2
 go_wp2_with fail
 go_ret3
 exact ⟨_, rfl, HO.out, HW2.out⟩
end Go.Proofs.YtfkojnofbpdjdaaGreatDoor

namespace Go.Proofs.YtfkojnofbpdjdaaGreatDoor
set_option maxRecDepth 100000
open Go.RowKit
section
variable {B g : Nat} {t : TypeId} {rest : List Value} {u : List Tk} {cs : List Int} {w w' : World}
theorem BS.cellR (h : BS B g t rest u cs w) {i : Nat} {v : Value} (hu : rest[i]? = some v) : w.cell? ⟨g, 3 + i, none⟩ = some v := by
 obtain ⟨_, _, _, _, _, h, _⟩ := h.ex
 exact h.cellR hu
theorem BS.frozen (h : BS B g t rest u cs w) (j : Nat) : w.frozen? ⟨g, j, none⟩ = false := by
 obtain ⟨_, _, _, _, _, h, _⟩ := h.ex
 exact h.frozen j
theorem BS.putR (h : BS B g t rest u cs w) (i : Nat) (v : Value) : BS B g t (rest.set i v) u cs (w.setCell ⟨g, 3 + i, none⟩ v) ∧ Below B w (w.setCell ⟨g, 3 + i, none⟩ v) := by
 have hB := h.bsz
 obtain ⟨iv, tv, cv, its, tx, h, hs⟩ := h.ex
 obtain ⟨h1, h2⟩ := h.putR i v
 exact ⟨⟨iv, tv, cv, its, tx, h1, hs⟩, h2.below (fun k hk => by rw [hk]; exact h.lt) hB⟩
end
def RsRet (B g : Nat) (t : TypeId) (u : List Tk) (cs : List Int) (n : Nat) (w : World) (e : Ending) (w' : World) : Prop :=
 e = .returned (.tuple #[.int .i64 n, .int .i64 0]) ∧ BS B g t [.int .i64 n, .int .i64 n] u cs w' ∧ Below B w w'
theorem rsElem_ch (raw s : ByteArray) (k : Nat) (b : Int) (c : UInt8) (r : List UInt8) {B g : Nat} {t : TypeId} {u : List Tk} {cs : List Int} {w : World} (h : BS B g t [.int .i64 b, .int .i64 b] u cs w) (hl : u.length + 1 ≤ 512) (hlu : lenI u ≤ 1000000) (hc : cs.length + 1 ≤ 1024)
 (hk : k < raw.size) (hr : raw.size ≤ 1000000) (hs : raw.extract k raw.size = s) (hcr : s.data.toList = c :: r) (h0 : c ≠ 10) (h1 : c ≠ 92) (h2 : c ≠ 123) :
 Calls Tryz.prog 83 #[.pointer (some ⟨g, 0, none⟩), .string raw, .int .i64 k] w (RsRet B g t (u ++ [chI c]) (cs ++ [b]) (k + 1) w) := by
 have hsz : 0 < s.size := by rw [Lib.size_eq, hcr]; simp
 have hc0 : s[0] = c := by
  have : s.data.toList[0]'(by rw [hcr]; simp) = c := by simp only [hcr]; rfl
  exact this
 have CB := Lib.hid (fun w (h : BS B g t [.int .i64 b, .int .i64 b] u cs w) => bsByte s[0] b h hl hlu hc)
 have n0 : ((s[0].toNat : Int) == 10) = false := beq_u8f s[0] 10 (by rw [hc0]; exact h0)
 have n1 : ((s[0].toNat : Int) == 92) = false := beq_u8f s[0] 92 (by rw [hc0]; exact h1)
 have n2 : ((s[0].toNat : Int) == 123) = false := beq_u8f s[0] 123 (by rw [hc0]; exact h2)
 have HS := Lib.hid hs
 have HC0 := Lib.hid hc0
 have q3 : w.cell? ⟨g, 3, none⟩ = some (.int .i64 b) := h.cellR (i := 0) rfl
 have H := Lib.hid h
 clear h hl hlu hc hcr h0 h1 h2 hc0 hs
 go_enter Tryz.func83, Tryz.ntmps83
 go_upto_region 2 with fail
 rw [HS.out]
 go_wp2_with fail
 go_region_with (go_at_call 125; refine (CB.out _ (by exact H.out.below (below_drewN (Below.refl _ _) 1))).mono ?_; rintro e w1 ⟨rfl, hb1, hw1⟩; have HB1 := Lib.hid hb1; have HW1 := Lib.hid ((below_drewN (Below.refl B w) 1).trans hw1); have z3 : w1.cell? ⟨g, 3, none⟩ = some (.int .i64 b) := hb1.cellR (i := 0) rfl; have z4 : (w1.setCell ⟨g, 3, none⟩ (.int .i64 ((k : Int) + 1))).cell? ⟨g, 4, none⟩ = some (.int .i64 b) := ((hb1.putR 0 (.int .i64 ((k : Int) + 1))).1).cellR (i := 1) rfl; have y3 := hb1.frozen 3; have y4 := hb1.frozen 4; clear hb1 hw1)
 all_goals (
  go_wp2_with fail
  go_ret2
  refine ⟨rfl, ?_, ?_⟩
  ·rw [← HC0.out]; exact ((HB1.out.putR 0 (.int .i64 ((k + 1 : Nat) : Int))).1.putR 1 (.int .i64 ((k + 1 : Nat) : Int))).1
  ·exact HW1.out.trans ((HB1.out.putR 0 (.int .i64 ((k + 1 : Nat) : Int))).2.trans ((HB1.out.putR 0 (.int .i64 ((k + 1 : Nat) : Int))).1.putR 1 (.int .i64 ((k + 1 : Nat) : Int))).2))
end Go.Proofs.YtfkojnofbpdjdaaGreatDoor

namespace Go.Proofs.YtfkojnofbpdjdaaGreatDoor
set_option maxRecDepth 100000
open Go.RowKit
theorem resEsc_any (e c : UInt8) (h : (e, c) ∈ escL) (w : World) : Calls Tryz.prog 129 #[.int .u8 e.toNat] w fun e' w' => e' = .returned (.tuple #[.int .u8 c.toNat, .bool true]) ∧ w = w' := by
 simp only [escL, List.mem_cons, Prod.mk.injEq, List.not_mem_nil, or_false] at h
 rcases h with ⟨rfl, rfl⟩ | ⟨rfl, rfl⟩ | ⟨rfl, rfl⟩ | ⟨rfl, rfl⟩ | ⟨rfl, rfl⟩ | ⟨rfl, rfl⟩
 ·show Calls _ _ #[.int .u8 110] _ _
  go_enter Tryz.func129, Tryz.ntmps129
  go_wp2
  go_ret2
  exact ⟨rfl, rfl⟩
 ·show Calls _ _ #[.int .u8 116] _ _
  go_enter Tryz.func129, Tryz.ntmps129
  go_wp2
  go_ret2
  exact ⟨rfl, rfl⟩
 ·show Calls _ _ #[.int .u8 115] _ _
  go_enter Tryz.func129, Tryz.ntmps129
  go_wp2
  go_ret2
  exact ⟨rfl, rfl⟩
 ·show Calls _ _ #[.int .u8 114] _ _
  go_enter Tryz.func129, Tryz.ntmps129
  go_wp2
  go_ret2
  exact ⟨rfl, rfl⟩
 ·show Calls _ _ #[.int .u8 92] _ _
  go_enter Tryz.func129, Tryz.ntmps129
  go_wp2
  go_ret2
  exact ⟨rfl, rfl⟩
 ·show Calls _ _ #[.int .u8 123] _ _
  go_enter Tryz.func129, Tryz.ntmps129
  go_wp2
  go_ret2
  exact ⟨rfl, rfl⟩
theorem esc_not10 (e c : UInt8) (h : (e, c) ∈ escL) : e ≠ 10 := by
 simp only [escL, List.mem_cons, Prod.mk.injEq, List.not_mem_nil, or_false] at h
 rcases h with ⟨rfl, _⟩ | ⟨rfl, _⟩ | ⟨rfl, _⟩ | ⟨rfl, _⟩ | ⟨rfl, _⟩ | ⟨rfl, _⟩ <;> decide
theorem rsElem_esc (raw s : ByteArray) (k : Nat) (b : Int) (d c : UInt8) (r : List UInt8) {B g : Nat} {t : TypeId} {u : List Tk} {cs : List Int} {w : World} (h : BS B g t [.int .i64 b, .int .i64 b] u cs w) (hl : u.length + 1 ≤ 512) (hlu : lenI u ≤ 1000000) (hc : cs.length + 1 ≤ 1024)
 (hk : k < raw.size) (hr : raw.size ≤ 1000000) (hs : raw.extract k raw.size = s) (hcr : s.data.toList = 92 :: d :: r) (hd : (d, c) ∈ escL) :
 Calls Tryz.prog 83 #[.pointer (some ⟨g, 0, none⟩), .string raw, .int .i64 k] w (RsRet B g t (u ++ [chI c]) (cs ++ [b]) (k + 2) w) := by
 have hsz1 : 1 < s.size := by rw [Lib.size_eq, hcr]; simp
 have hsz : 0 < s.size := by omega
 have hc0 : s[0] = 92 := by
  have : s.data.toList[0]'(by rw [hcr]; simp) = 92 := by simp only [hcr]; rfl
  exact this
 have hc1 : s[1] = d := by
  have : s.data.toList[1]'(by rw [hcr]; simp) = d := by simp only [hcr]; rfl
  exact this
 have CB := Lib.hid (fun w (h : BS B g t [.int .i64 b, .int .i64 b] u cs w) => bsByte c b h hl hlu hc)
 have CE := Lib.hid (fun w => resEsc_any s[1] c (by rw [hc1]; exact hd) w)
 have n0 : ((s[0].toNat : Int) == 10) = false := beq_u8f s[0] 10 (by rw [hc0]; decide)
 have n1 : ((s[0].toNat : Int) == 92) = true := beq_u8t s[0] 92 hc0
 have n3 : ((s[1].toNat : Int) == 10) = false := beq_u8f s[1] 10 (by rw [hc1]; exact esc_not10 d c hd)
 have HS := Lib.hid hs
 have q3 : w.cell? ⟨g, 3, none⟩ = some (.int .i64 b) := h.cellR (i := 0) rfl
 have H := Lib.hid h
 clear h hl hlu hc hcr hc0 hs hd hc1
 go_enter Tryz.func83, Tryz.ntmps83
 go_upto_region 2 with fail
 rw [HS.out]
 go_wp2_with (go_at_call 129; refine (CE.out _).mono ?_; rintro e w' ⟨rfl, rfl⟩)
 go_region_with (go_at_call 125; refine (CB.out _ (by exact H.out.below (below_drewN (Below.refl _ _) 1))).mono ?_; rintro e w1 ⟨rfl, hb1, hw1⟩; have HB1 := Lib.hid hb1; have HW1 := Lib.hid ((below_drewN (Below.refl B _) 1).trans hw1); have z3 : w1.cell? ⟨g, 3, none⟩ = some (.int .i64 b) := hb1.cellR (i := 0) rfl; have z4 : (w1.setCell ⟨g, 3, none⟩ (.int .i64 ((k : Int) + 2))).cell? ⟨g, 4, none⟩ = some (.int .i64 b) := ((hb1.putR 0 (.int .i64 ((k : Int) + 2))).1).cellR (i := 1) rfl; have y3 := hb1.frozen 3; have y4 := hb1.frozen 4; clear hb1 hw1)
 all_goals (
  go_wp2_with fail
  go_ret2
  refine ⟨rfl, ?_, ?_⟩
  ·exact ((HB1.out.putR 0 (.int .i64 ((k + 2 : Nat) : Int))).1.putR 1 (.int .i64 ((k + 2 : Nat) : Int))).1
  ·exact HW1.out.trans ((HB1.out.putR 0 (.int .i64 ((k + 2 : Nat) : Int))).2.trans ((HB1.out.putR 0 (.int .i64 ((k + 2 : Nat) : Int))).1.putR 1 (.int .i64 ((k + 2 : Nat) : Int))).2))
theorem rsElem_slot (raw s nm : ByteArray) (k : Nat) (b : Int) (r : List UInt8) {B g : Nat} {t : TypeId} {u : List Tk} {cs : List Int} {w : World} (h : BS B g t [.int .i64 b, .int .i64 b] u cs w) (hl : u.length + 1 ≤ 512) (hlu : lenI u ≤ 1000000) (hc : cs.length + 1 ≤ 1024)
 (hk : k < raw.size) (hr : raw.size ≤ 1000000) (hs : raw.extract k raw.size = s) (hcr : s.data.toList = 123 :: nm.data.toList ++ 125 :: r) (hn : nameL nm.data.toList = true) :
 Calls Tryz.prog 83 #[.pointer (some ⟨g, 0, none⟩), .string raw, .int .i64 k] w (RsRet B g t (u ++ [⟨5, nm, 0⟩]) (cs ++ [b]) (k + (nm.size + 2)) w) := by
 have hsl : s.size = nm.size + 2 + r.length := by rw [Lib.size_eq, hcr, Lib.size_eq nm]; simp; omega
 have hsz : 0 < s.size := by omega
 have hsz1 : 1 < s.size := by omega
 have hss : s.size ≤ raw.size := by rw [← hs, ByteArray.size_extract]; omega
 have hc0 : s[0] = 123 := by
  have : s.data.toList[0]'(by rw [hcr]; simp) = 123 := by simp only [hcr]; rfl
  exact this
 have hns : nm.size ≤ maxLen := by unfold maxLen; omega
 have hex : s.extract 1 (nm.size + 1) = nm := by
  apply ByteArray.ext
  apply Array.toList_inj.1
  rw [Lib.size_eq nm]
  simp only [ByteArray.data_extract, Array.toList_extract, List.extract_eq_take_drop, hcr]
  simp
 have CI := Lib.hid (idx_call s 125 ((nm.size + 1 : Nat) : Int) (by rw [hcr, Lib.size_eq nm]; exact slot_idx nm.data.toList r hn))
 have CN := Lib.hid (fun w => isname_any nm w hns)
 rw [hn] at CN
 have CB := Lib.hid (fun w (h : BS B g t [.int .i64 b, .int .i64 b] u cs w) => bsItem ⟨5, nm, 0⟩ (by show (5 : Int) ≠ 1; decide) b h hl hlu hc)
 have n0 : ((s[0].toNat : Int) == 10) = false := beq_u8f s[0] 10 (by rw [hc0]; decide)
 have n1 : ((s[0].toNat : Int) == 92) = false := beq_u8f s[0] 92 (by rw [hc0]; decide)
 have n2 : ((s[0].toNat : Int) == 123) = true := beq_u8t s[0] 123 hc0
 have HS := Lib.hid hs
 have q3 : w.cell? ⟨g, 3, none⟩ = some (.int .i64 b) := h.cellR (i := 0) rfl
 have H := Lib.hid h
 clear h hl hlu hc hcr hc0 hs
 go_enter Tryz.func83, Tryz.ntmps83
 go_upto_region 2 with fail
 rw [HS.out]
 go_wp2_with (first
  | (go_at_call 126; refine (CI.out _).mono ?_; rintro e w' ⟨rfl, rfl⟩)
  | (go_at_call 114; refine (CN.out _).mono ?_; rintro e w' ⟨rfl, rfl⟩))
 go_region_with (go_at_call 127; refine (CB.out _ (by exact H.out.below (below_drewN (Below.refl _ _) 1))).mono ?_; rintro e w1 ⟨rfl, hb1, hw1⟩; have HB1 := Lib.hid hb1; have HW1 := Lib.hid ((below_drewN (Below.refl B _) 1).trans hw1); have z3 : w1.cell? ⟨g, 3, none⟩ = some (.int .i64 b) := hb1.cellR (i := 0) rfl; have z4 : (w1.setCell ⟨g, 3, none⟩ (.int .i64 ((k : Int) + ((nm.size : Int) + 1) + 1))).cell? ⟨g, 4, none⟩ = some (.int .i64 b) := ((hb1.putR 0 (.int .i64 ((k : Int) + ((nm.size : Int) + 1) + 1))).1).cellR (i := 1) rfl; have y3 := hb1.frozen 3; have y4 := hb1.frozen 4; clear hb1 hw1)
 all_goals (
  go_wp2_with fail
  go_ret2
  have e : ((k + (nm.size + 2) : Nat) : Int) = ((k : Int) + ((nm.size : Int) + 1) + 1) := by omega
  unfold RsRet
  rw [e]
  refine ⟨rfl, ?_, ?_⟩
  ·exact ((HB1.out.putR 0 (.int .i64 ((k : Int) + ((nm.size : Int) + 1) + 1))).1.putR 1 (.int .i64 ((k : Int) + ((nm.size : Int) + 1) + 1))).1
  ·exact HW1.out.trans ((HB1.out.putR 0 (.int .i64 ((k : Int) + ((nm.size : Int) + 1) + 1))).2.trans ((HB1.out.putR 0 (.int .i64 ((k : Int) + ((nm.size : Int) + 1) + 1))).1.putR 1 (.int .i64 ((k : Int) + ((nm.size : Int) + 1) + 1))).2))
end Go.Proofs.YtfkojnofbpdjdaaGreatDoor

namespace Go.Proofs.YtfkojnofbpdjdaaGreatDoor
set_option maxRecDepth 100000
open Go.RowKit
theorem resBlank_yes (c : UInt8) (h : c = 32 ∨ c = 9) (w : World) : Calls Tryz.prog 128 #[.int .u8 c.toNat] w fun e w' => e = .returned (.bool true) ∧ w = w' := by
 rcases h with rfl | rfl
 ·show Calls _ _ #[.int .u8 32] _ _
  go_enter Tryz.func128, Tryz.ntmps128
  go_wp2
  go_ret
  exact ⟨rfl, rfl⟩
 ·show Calls _ _ #[.int .u8 9] _ _
  go_enter Tryz.func128, Tryz.ntmps128
  go_wp2
  go_ret
  exact ⟨rfl, rfl⟩
theorem resBlank_no (c : UInt8) (h : c ≠ 32 ∧ c ≠ 9) (w : World) : Calls Tryz.prog 128 #[.int .u8 c.toNat] w fun e w' => e = .returned (.bool false) ∧ w = w' := by
 have n1 : ((c.toNat : Int) == 32) = false := beq_u8f c 32 h.1
 have n2 : ((c.toNat : Int) == 9) = false := beq_u8f c 9 h.2
 go_enter Tryz.func128, Tryz.ntmps128
 go_wp2
 go_ret
 exact ⟨ret_bool (by first | rfl | simp [n1, n2]), rfl⟩
theorem drop_head (raw : ByteArray) (p : Nat) (c : UInt8) (l : List UInt8) (h : raw.data.toList.drop p = c :: l) : ∃ hp : p < raw.size, raw[p] = c := by
 have hl := congrArg List.length h
 rw [List.length_drop, List.length_cons] at hl
 have hp : p < raw.data.toList.length := by omega
 have hp2 : p < raw.size := by rw [Lib.size_eq]; exact hp
 refine ⟨hp2, ?_⟩
 rw [List.drop_eq_getElem_cons hp] at h
 injection h with h1 _
theorem rsElem_cont (raw s : ByteArray) (k g : Nat) (b r : List UInt8) (w : World)
 (hk : k < raw.size) (hr : raw.size ≤ 1000000) (hs : raw.extract k raw.size = s) (hcr : s.data.toList = 92 :: 10 :: b ++ r) (hb : ∀ c ∈ b, c = 32 ∨ c = 9) (hrest : r.head? ≠ some 32 ∧ r.head? ≠ some 9) :
 Calls Tryz.prog 83 #[.pointer (some ⟨g, 0, none⟩), .string raw, .int .i64 k] w (fun e w' => e = .returned (.tuple #[.int .i64 ((k + (b.length + 2) : Nat) : Int), .int .i64 0]) ∧ w' = w) := by
 obtain ⟨R, HRR⟩ : ∃ R : Ending → World → Prop, Hid (R = fun e w' => e = .returned (.tuple #[.int .i64 ((k + (b.length + 2) : Nat) : Int), .int .i64 0]) ∧ w' = w) := ⟨_, rfl⟩
 rw [← HRR.out]
 have hsz1 : 1 < s.size := by rw [Lib.size_eq, hcr]; simp
 have hsz : 0 < s.size := by omega
 have hc0 : s[0] = 92 := by
  have : s.data.toList[0]'(by rw [hcr]; simp) = 92 := by simp only [hcr]; rfl
  exact this
 have hc1 : s[1] = 10 := by
  have : s.data.toList[1]'(by rw [hcr]; simp) = 10 := by simp only [hcr]; rfl
  exact this
 have n0 : ((s[0].toNat : Int) == 10) = false := beq_u8f s[0] 10 (by rw [hc0]; decide)
 have n1 : ((s[0].toNat : Int) == 92) = true := beq_u8t s[0] 92 hc0
 have n3 : ((s[1].toNat : Int) == 10) = true := beq_u8t s[1] 10 hc1
 have hd : raw.data.toList.drop (k + 2) = b ++ r := by
  have h := ext_drop raw k
  rw [hs, hcr] at h
  rw [← List.drop_drop, ← h]
  rfl
 have hk2 : k + 2 + (b.length + r.length) = raw.size := by
  have h := congrArg List.length hd
  have h2 := congrArg List.length hcr
  rw [← hs, ext_drop, List.length_drop, ← Lib.size_eq] at h2
  simp at h2
  omega
 have hka : k + 2 + (b.length + r.length) ≤ raw.size := by omega
 have hkb : raw.size ≤ k + 2 + (b.length + r.length) := by omega
 clear hk2
 have HS := Lib.hid hs
 have HD := Lib.hid hd
 have HB := Lib.hid hb
 have HRE := Lib.hid hrest
 clear hcr hc0 hs hc1 hd hb hrest
 go_enter Tryz.func83, Tryz.ntmps83
 go_upto_region 2 with fail
 rw [HS.out]
 go_wp2_with fail
 obtain ⟨wo, HWO⟩ : ∃ wo, Hid (wo = w) := ⟨w, rfl⟩
 go_loopg [10] b.length (fun gk nv wr => ∃ (j p : Nat), nv = .int .i64 (p : Nat) ∧ p ≤ k + 2 + j ∧ k + 2 + j ≤ p ∧ j ≤ b.length ∧ Hid (wr = wo) ∧ Hid (raw.data.toList.drop p = b.drop j ++ r) ∧ b.length - j ≤ gk)
 case atStart => exact ⟨0, k + 2, rfl, Nat.le_refl _, Nat.le_refl _, Nat.zero_le _, HWO.out.symm, HD.out, Nat.le_refl _⟩
 case round =>
  obtain ⟨j, p, rfl, hp, hp2, hj, HW, HDP, hgk⟩ := hrel
  by_cases hlt : j < b.length
  ·have h1 := HDP.out
   rw [List.drop_eq_getElem_cons hlt, List.cons_append] at h1
   obtain ⟨hpl, hpc⟩ := drop_head raw p _ _ h1
   have CB := Lib.hid (fun w => resBlank_yes raw[p] (by rw [hpc]; exact HB.out _ (List.getElem_mem hlt)) w)
   have HN : Hid (raw.data.toList.drop (p + 1) = b.drop (j + 1) ++ r) := by
    show _ = _
    rw [← List.drop_drop, h1]
    rfl
   clear h1 hpc HDP
   have hpi : ((p : Nat) : Int) < (raw.size : Int) := by omega
   go_wp2_with (go_at_call 128; refine (CB.out _).mono ?_; rintro e w' ⟨rfl, rfl⟩)
   go_roundg (b.length - (j + 1))
   case measure => omega
   case rel => exact ⟨j + 1, p + 1, rfl, by omega, by omega, hlt, HW.out, HN.out, by omega⟩
  ·obtain rfl : j = b.length := by omega
   have hE : Hid ((p : Int) = ((k + (b.length + 2) : Nat) : Int)) := by show _ = _; omega
   have h1 := HDP.out
   rw [List.drop_length, List.nil_append] at h1
   cases r with
   | nil =>
     have hpi : ¬ ((p : Nat) : Int) < (raw.size : Int) := by simp at hkb; omega
     clear h1 HDP HD
     go_wp2_with fail
     first | go_ret2 | skip
     rw [HRR.out, ← hE.out, HW.out, HWO.out]
     exact ⟨rfl, rfl⟩
   | cons c l =>
     obtain ⟨hpl, hpc⟩ := drop_head raw p _ _ h1
     have CB := Lib.hid (fun w => resBlank_no raw[p] (by rw [hpc]; exact ⟨fun e => HRE.out.1 (by rw [e]; rfl), fun e => HRE.out.2 (by rw [e]; rfl)⟩) w)
     clear h1 hpc HDP HD
     have hpi : ((p : Nat) : Int) < (raw.size : Int) := by omega
     go_wp2_with (go_at_call 128; refine (CB.out _).mono ?_; rintro e w' ⟨rfl, rfl⟩)
     first | go_ret2 | skip
     rw [HRR.out, ← hE.out, HW.out, HWO.out]
     exact ⟨rfl, rfl⟩
end Go.Proofs.YtfkojnofbpdjdaaGreatDoor

namespace Go.Proofs.YtfkojnofbpdjdaaGreatDoor
set_option maxRecDepth 100000
open Go.RowKit
theorem rsElem_some (raw : ByteArray) (k : Nat) (b : Int) (rest' : List UInt8) {B g : Nat} {t : TypeId} {u : List Tk} {cs : List Int} {w : World} (h : BS B g t [.int .i64 b, .int .i64 b] u cs w) (hl : u.length + 1 ≤ 512) (hlu : lenI u ≤ 1000000) (hc : cs.length + 1 ≤ 1024)
 (hk : k < raw.size) (hr : raw.size ≤ 1000000) (x : Tk) : ∀ (fmt : Int) (r : List UInt8) (o : Option Tk), ElOk fmt r o → fmt = 2 → o = some x → raw.data.toList.drop k = r ++ rest' →
 Calls Tryz.prog 83 #[.pointer (some ⟨g, 0, none⟩), .string raw, .int .i64 k] w (RsRet B g t (u ++ [x]) (cs ++ [b]) (k + r.length) w) := by
 intro fmt r o he hf ho hd
 have hx := ext_drop raw k
 rw [hd] at hx
 cases he with
 | slot _ n hn =>
   injection ho with ho
   subst ho
   have e : (123 :: n ++ [125]).length = (ofL n).size + 2 := by rw [Lib.size_eq]; simp [ofL]
   rw [e]
   exact rsElem_slot raw _ (ofL n) k b rest' h hl hlu hc hk hr rfl (by rw [hx]; simp [ofL]) (by simpa [ofL] using hn)
 | ch2 c hc3 =>
   injection ho with ho
   subst ho
   exact rsElem_ch raw _ k b c rest' h hl hlu hc hk hr rfl (by rw [hx]; rfl) hc3.1 hc3.2.1 hc3.2.2
 | esc d c hc3 =>
   injection ho with ho
   subst ho
   exact rsElem_esc raw _ k b d c rest' h hl hlu hc hk hr rfl (by rw [hx]; rfl) hc3
 | cont => cases ho
 | ch1 => exact absurd hf (by decide)
 | ref => exact absurd hf (by decide)
 | opn => exact absurd hf (by decide)
 | cls => exact absurd hf (by decide)
 | emp => exact absurd hf (by decide)
 | ch3 => exact absurd hf (by decide)
 | two => exact absurd hf (by decide)
theorem rsElem_none (raw : ByteArray) (k g : Nat) (rest' : List UInt8) (w : World) (hk : k < raw.size) (hr : raw.size ≤ 1000000) (hrest : rest'.head? ≠ some 32 ∧ rest'.head? ≠ some 9) : ∀ (fmt : Int) (r : List UInt8) (o : Option Tk), ElOk fmt r o → o = none → raw.data.toList.drop k = r ++ rest' →
 Calls Tryz.prog 83 #[.pointer (some ⟨g, 0, none⟩), .string raw, .int .i64 k] w (fun e w' => e = .returned (.tuple #[.int .i64 ((k + r.length : Nat) : Int), .int .i64 0]) ∧ w' = w) := by
 intro fmt r o he ho hd
 have hx := ext_drop raw k
 rw [hd] at hx
 cases he with
 | cont b hb =>
   rw [show (92 :: 10 :: b).length = b.length + 2 from rfl]
   exact rsElem_cont raw _ k g b rest' w hk hr rfl (by rw [hx]) hb hrest
 | _ => cases ho
theorem cont_next : ∀ (ts : Els) (fmt : Int) (j : Nat) (h : j < ts.length), ContOk ts → (∀ e ∈ ts, ElOk fmt e.1 e.2) → ts[j].2 = none → (rawE (ts.drop (j + 1))).head? ≠ some 32 ∧ (rawE (ts.drop (j + 1))).head? ≠ some 9
 | [], _, j, h, _, _, _ => absurd h (Nat.not_lt_zero _)
 | [e], _, 0, _, _, _, _ => by simp [rawE]
 | [e], _, j + 1, h, _, _, _ => by simp at h
 | (r, x) :: (r', y) :: ts, fmt, 0, _, hc, he, hn => by
   have h1 := hc.1 hn
   have h2 := el_ne _ _ _ (he (r', y) (by simp))
   cases r' with
   | nil => simp at h2
   | cons c l => exact h1
 | (r, x) :: (r', y) :: ts, fmt, j + 1, h, hc, he, hn => cont_next ((r', y) :: ts) fmt j (by simpa using h) hc.2 (fun e hh => he e (List.mem_cons_of_mem _ hh)) hn
def endJ (ts : Els) (j : Nat) : Nat := endE (ts.take j) 0 0
theorem cs_takeS (ts : Els) (j : Nat) (h : j < ts.length) (x : Tk) (hx : ts[j].2 = some x) : csE (ts.take (j + 1)) = csE (ts.take j) ++ [(endJ ts j : Int)] ∧ endJ ts (j + 1) = posE ts (j + 1) := by
 have e2 : ts[j] = (ts[j].1, some x) := by rw [← hx]
 refine ⟨?_, ?_⟩
 ·unfold csE
  rw [List.take_succ_eq_append_getElem h, cutE_app, List.map_append]
  congr 1
  rw [e2]
  rfl
 ·rw [posE_succ ts j h]
  unfold endJ posE
  rw [List.take_succ_eq_append_getElem h, endE_app, e2, Nat.zero_add]
  rfl
theorem cs_takeN (ts : Els) (j : Nat) (h : j < ts.length) (hx : ts[j].2 = none) : csE (ts.take (j + 1)) = csE (ts.take j) ∧ endJ ts (j + 1) = endJ ts j ∧ itmE (ts.take (j + 1)) = itmE (ts.take j) := by
 have e2 : ts[j] = (ts[j].1, none) := by rw [← hx]
 refine ⟨?_, ?_, ?_⟩
 ·unfold csE
  rw [List.take_succ_eq_append_getElem h, cutE_app, List.map_append, e2]
  simp [cutE]
 ·unfold endJ
  rw [List.take_succ_eq_append_getElem h, endE_app, e2]
  rfl
 ·rw [List.take_succ_eq_append_getElem h, itmE_app, e2]
  simp [itmE]
theorem itm_one_le (ts : Els) (fmt : Int) (h : ∀ e ∈ ts, ElOk fmt e.1 e.2) (j : Nat) : lenI (itmE (ts.take j)) ≤ (itmE ts).length :=
 Nat.le_trans (lenI_one _ (itm_one fmt (ts.take j) fun e he => h e (List.mem_of_mem_take he))) (itm_take_le ts j)
theorem rsRead_any (raw : ByteArray) (ts : Els) (w : World) (h : Rdb 2 raw ts) (hco : ContOk ts) :
 Calls Tryz.prog 44 #[.string raw] w (fun e w' => ∃ g, e = .returned (.tuple #[.pointer (some ⟨g, 0, none⟩), .int .i64 0, .int .i64 0]) ∧ BS w.heap.size g 98 [.int .i64 (endE ts 0 0 : Nat), .int .i64 (endE ts 0 0 : Nat)] (itmE ts) (csE ts) w' ∧ Below w.heap.size w w') := by
 obtain ⟨R, HRR⟩ : ∃ R : Ending → World → Prop, Hid (R = fun e w' => ∃ g, e = .returned (.tuple #[.pointer (some ⟨g, 0, none⟩), .int .i64 0, .int .i64 0]) ∧ BS w.heap.size g 98 [.int .i64 (endE ts 0 0 : Nat), .int .i64 (endE ts 0 0 : Nat)] (itmE ts) (csE ts) w' ∧ Below w.heap.size w w') := ⟨_, rfl⟩
 rw [← HRR.out]
 have HB0 : Hid (BS w.heap.size w.heap.size 98 [.int .i64 0, .int .i64 0] [] [] (w.alloc (.cells #[.slice none 0 0, .slice none 0 0, .slice none 0 0, .int .i64 0, .int .i64 0] 98))) :=
  ⟨⟨_, _, _, [], ⟨#[]⟩, Bd.start (Nat.le_refl _) rfl (by decide), BSt.nil⟩⟩
 have HL0 := Lib.hid ((Below.refl w.heap.size w).alloc (Nat.le_refl _) (.cells #[.slice none 0 0, .slice none 0 0, .slice none 0 0, .int .i64 0, .int .i64 0] 98))
 have hrs : raw.size = (rawE ts).length := by rw [Lib.size_eq, h.eq]
 have HRS := Lib.hid hrs
 have H := Lib.hid h
 have HCO := Lib.hid hco
 clear h hrs hco
 go_enter Tryz.func44, Tryz.ntmps44
 go_wp2_with fail
 go_loopg [6] ts.length (fun gk iv wr => ∃ j, iv = .int .i64 (posE ts j : Nat) ∧ j ≤ ts.length ∧ Hid (BS w.heap.size w.heap.size 98 [.int .i64 (endJ ts j : Nat), .int .i64 (endJ ts j : Nat)] (itmE (ts.take j)) (csE (ts.take j)) wr) ∧ Hid (Below w.heap.size w wr) ∧ ts.length - j ≤ gk)
 case atStart => exact ⟨0, rfl, Nat.zero_le _, HB0.out, HL0.out, Nat.le_refl _⟩
 case round =>
  obtain ⟨j, rfl, hj, HB, HL, hgk⟩ := hrel
  by_cases hlt : j < ts.length
  ·have hmem := List.getElem_mem hlt
   have hel := H.out.els _ hmem
   have hp := posE_lt ts j hlt (el_ne _ _ _ hel)
   have hps : posE ts j < raw.size := by rw [HRS.out]; exact hp
   have hd := posE_drop ts j hlt
   rw [← H.out.eq] at hd
   have hsz := H.out.sz
   have HC : Hid (Calls Tryz.prog 83 #[.pointer (some ⟨w.heap.size, 0, none⟩), .string raw, .int .i64 (posE ts j : Nat)] wr (fun e w' => e = .returned (.tuple #[.int .i64 (posE ts (j + 1) : Nat), .int .i64 0]) ∧ BS w.heap.size w.heap.size 98 [.int .i64 (endJ ts (j + 1) : Nat), .int .i64 (endJ ts (j + 1) : Nat)] (itmE (ts.take (j + 1))) (csE (ts.take (j + 1))) w' ∧ Below w.heap.size wr w')) := by
    show Calls _ _ _ _ _
    cases hx : ts[j].2 with
    | none =>
      obtain ⟨e1, e2, e3⟩ := cs_takeN ts j hlt hx
      rw [e1, e2, e3, posE_succ ts j hlt]
      refine (rsElem_none raw (posE ts j) w.heap.size _ wr hps hsz (cont_next ts 2 j hlt HCO.out H.out.els hx) 2 _ _ hel hx hd).mono ?_
      rintro e w' ⟨rfl, rfl⟩
      exact ⟨rfl, HB.out, Below.refl _ _⟩
    | some x =>
      obtain ⟨e1, e2⟩ := cs_takeS ts j hlt x hx
      have hit := itm_take ts j hlt x hx
      have hil := itm_take_le ts (j + 1)
      have hlen := H.out.len
      have hlu := itm_one_le ts 2 H.out.els j
      rw [hit, List.length_append, List.length_singleton] at hil
      rw [e1, e2, hit, posE_succ ts j hlt]
      exact rsElem_some raw (posE ts j) _ _ HB.out (by omega) (by omega) (by rw [cs_len]; omega) hps hsz x 2 _ _ hel rfl hx hd
   clear hd hel hmem HB0 HL0 hp HB
   have hps2 : ((posE ts j : Nat) : Int) < (raw.size : Int) := by omega
   generalize posE ts j = pj at hps hps2 HC ⊢
   go_wp2_with fail
   refine (HC.out).mono ?_
   rintro e w1 ⟨rfl, hb1, hw1⟩
   have HB1 := Lib.hid hb1
   have HW1 := Lib.hid (HL.out.trans hw1)
   clear hb1 hw1
   go_wp2_with fail
   go_roundg (ts.length - (j + 1))
   case measure => omega
   case rel => exact ⟨j + 1, rfl, hlt, HB1.out, HW1.out, by omega⟩
  ·obtain rfl : j = ts.length := by omega
   have he : posE ts ts.length = raw.size := by rw [HRS.out]; exact posE_all ts
   have he2 : endJ ts ts.length = endE ts 0 0 := by unfold endJ; rw [List.take_length]
   rw [he]
   rw [List.take_length, he2] at HB
   clear HB0 HL0 he he2
   go_wp2_with fail
   first | go_ret3 | skip
   rw [HRR.out]
   exact ⟨_, rfl, HB.out, HL.out⟩
end Go.Proofs.YtfkojnofbpdjdaaGreatDoor

namespace Go.Proofs.YtfkojnofbpdjdaaGreatDoor
set_option maxRecDepth 100000
open Go.RowKit
theorem rsDecode_any (raw : ByteArray) (ts : Els) (w : World) (h : Rdb 2 raw ts) (hco : ContOk ts) :
 Calls Tryz.prog 14 #[.string raw] w (fun e w' => ∃ v, e = .returned (.tuple #[v, .int .i64 0, .int .i64 0]) ∧ OwnT 31 w' w.heap.size v (normL (itmE ts)) ∧ Below w.heap.size w w') := by
 have HR := Lib.hid (rsRead_any raw ts w h hco)
 have HL : Hid ((itmE ts).length ≤ 500) := h.len
 have HU : Hid (lenI (itmE ts) ≤ 500) := Nat.le_trans (lenI_one _ (itm_one 2 ts h.els)) h.len
 clear h hco
 go_enter Tryz.func14, Tryz.ntmps14
 go_wp2_with fail
 refine (HR.out).mono ?_
 rintro e w1 ⟨g, rfl, hb, hw⟩
 have HI := Lib.hid (bsItems hb (by have := HL.out; omega) (by have := HU.out; omega))
 have HW := Lib.hid hw
 clear hb hw HR
 go_wp2_with fail
 refine (HI.out).mono ?_
 rintro e w2 ⟨v, rfl, ho, hw2⟩
 have HO := Lib.hid ho
 have HW2 := Lib.hid (HW.out.trans hw2)
 obtain ⟨A, c, rfl⟩ := own_shape ho
 clear ho hw2
 go_wp2_with fail
 go_ret3
 exact ⟨_, rfl, HO.out, HW2.out⟩
end Go.Proofs.YtfkojnofbpdjdaaGreatDoor

namespace Go.Proofs.YtfkojnofbpdjdaaGreatDoor
set_option maxRecDepth 100000
open Go.RowKit
theorem tw_stop (p r : List UInt8) (h : ∀ b ∈ p, b ≠ 32) : tagN (p ++ 32 :: r) = p := by
 unfold tagN
 induction p with
 | nil => rfl
 | cons b p ih =>
   rw [List.cons_append, List.takeWhile_cons, if_pos (by simpa using h b (by simp)), ih fun x hx => h x (by simp [hx])]
theorem cut_name (l : List UInt8) : (Lib.cut l [32]).1 = tagN l := by
 rcases parted 32 l with hm | ⟨p, r, rfl, hm⟩
 ·unfold Lib.cut
  rw [index_one_miss 32 l hm, if_neg (by decide)]
  exact (tw_self _ l fun b hb => by simpa using hm b hb).symm
 ·unfold Lib.cut
  rw [index_one_hit 32 p r hm, if_pos (by omega), tw_stop p r hm]
  simp
theorem name_mk (s : ByteArray) (m : Int) (w : World) (hs : s.size ≤ 1000000) (hm : w.cell? ⟨0, 0, none⟩ = some (.int .i64 m)) :
 Calls Tryz.prog 41 #[.string s] w fun e w' => e = .returned (.string (ofL (tagN s.data.toList))) ∧ ∃ n, w' = w.drewN n := by
 have hcut := cut_name s.data.toList
 have HC := Lib.hid (Tryz.strings_Cut s (⟨#[32]⟩ : ByteArray) m w (by omega) hm)
 have HN : Hid ((⟨(Lib.cut s.data.toList [32]).1.toArray⟩ : ByteArray) = ofL (tagN s.data.toList)) := by show _ = _; rw [hcut]; rfl
 rw [← HN.out]
 clear hcut HN
 generalize Lib.cut s.data.toList [32] = cc at HC ⊢
 go_enter Tryz.func41, Tryz.ntmps41
 go_wp2_with (go_at_call 80; refine (HC.out).mono ?_; rintro e w1 ⟨rfl, n1, rfl⟩)
 go_ret
 exact ⟨rfl, n1, rfl⟩
theorem isBlock_no (s : ByteArray) (w : World) (h : blockL s.data.toList = false) : Calls Tryz.prog 40 #[.string s] w fun e w' => e = .returned (.bool false) ∧ w = w' := by
 rw [← toList_eq_data] at h
 unfold blockL wP wH wLi wTd wTitle at h
 simp only [Bool.or_eq_false_iff] at h
 obtain ⟨⟨⟨⟨n1, n2⟩, n3⟩, n4⟩, n5⟩ := h
 go_enter Tryz.func40, Tryz.ntmps40
 go_wp2
 go_ret
 exact ⟨rfl, rfl⟩
theorem limit_ok (w : World) : Calls Tryz.prog 124 #[.bool true] w fun e w' => e = .returned (.int .i64 0) ∧ w = w' := by
 go_enter Tryz.func124, Tryz.ntmps124
 go_wp2
 go_ret
 exact ⟨rfl, rfl⟩
end Go.Proofs.YtfkojnofbpdjdaaGreatDoor

namespace Go.Proofs.YtfkojnofbpdjdaaGreatDoor
set_option maxRecDepth 100000
open Go.RowKit
theorem ref_mk (s : ByteArray) (rest r : List UInt8) (c : UInt8) (h : (r, c) ∈ refsL) (hs : s.data.toList = r ++ rest) (w : World) :
 Calls Tryz.prog 123 #[.string s] w fun e w' => e = .returned (.tuple #[.int .u8 c.toNat, .int .i64 (r.length : Nat), .bool true]) ∧ w = w' := by
 simp only [refsL, List.mem_cons, Prod.mk.injEq, List.not_mem_nil, or_false] at h
 rcases h with ⟨rfl, rfl⟩ | ⟨rfl, rfl⟩ | ⟨rfl, rfl⟩ | ⟨rfl, rfl⟩ | ⟨rfl, rfl⟩
 ·skip
  have C0 := Lib.hid (pfx_any s (⟨#[38, 108, 116, 59]⟩ : ByteArray) true (by rw [hs]; exact pre_yes _ rest))
  clear hs
  go_enter Tryz.func123, Tryz.ntmps123
  go_wp2_with (first
   | (go_at_call_of 130 (Value.string (⟨#[38, 108, 116, 59]⟩ : ByteArray)); refine (C0.out _).mono ?_; rintro e w' ⟨rfl, rfl⟩))
  go_ret3
  exact ⟨rfl, rfl⟩
 ·skip
  have C0 := Lib.hid (pfx_any s (⟨#[38, 108, 116, 59]⟩ : ByteArray) false (by rw [hs]; unfold Lib.hasPrefix; simp [List.isPrefixOf]))
  have C1 := Lib.hid (pfx_any s (⟨#[38, 103, 116, 59]⟩ : ByteArray) true (by rw [hs]; exact pre_yes _ rest))
  clear hs
  go_enter Tryz.func123, Tryz.ntmps123
  go_wp2_with (first
   | (go_at_call_of 130 (Value.string (⟨#[38, 108, 116, 59]⟩ : ByteArray)); refine (C0.out _).mono ?_; rintro e w' ⟨rfl, rfl⟩)
   | (go_at_call_of 130 (Value.string (⟨#[38, 103, 116, 59]⟩ : ByteArray)); refine (C1.out _).mono ?_; rintro e w' ⟨rfl, rfl⟩))
  go_ret3
  exact ⟨rfl, rfl⟩
 ·skip
  have C0 := Lib.hid (pfx_any s (⟨#[38, 108, 116, 59]⟩ : ByteArray) false (by rw [hs]; unfold Lib.hasPrefix; simp [List.isPrefixOf]))
  have C1 := Lib.hid (pfx_any s (⟨#[38, 103, 116, 59]⟩ : ByteArray) false (by rw [hs]; unfold Lib.hasPrefix; simp [List.isPrefixOf]))
  have C2 := Lib.hid (pfx_any s (⟨#[38, 97, 109, 112, 59]⟩ : ByteArray) true (by rw [hs]; exact pre_yes _ rest))
  clear hs
  go_enter Tryz.func123, Tryz.ntmps123
  go_wp2_with (first
   | (go_at_call_of 130 (Value.string (⟨#[38, 108, 116, 59]⟩ : ByteArray)); refine (C0.out _).mono ?_; rintro e w' ⟨rfl, rfl⟩)
   | (go_at_call_of 130 (Value.string (⟨#[38, 103, 116, 59]⟩ : ByteArray)); refine (C1.out _).mono ?_; rintro e w' ⟨rfl, rfl⟩)
   | (go_at_call_of 130 (Value.string (⟨#[38, 97, 109, 112, 59]⟩ : ByteArray)); refine (C2.out _).mono ?_; rintro e w' ⟨rfl, rfl⟩))
  go_ret3
  exact ⟨rfl, rfl⟩
 ·skip
  have C0 := Lib.hid (pfx_any s (⟨#[38, 108, 116, 59]⟩ : ByteArray) false (by rw [hs]; unfold Lib.hasPrefix; simp [List.isPrefixOf]))
  have C1 := Lib.hid (pfx_any s (⟨#[38, 103, 116, 59]⟩ : ByteArray) false (by rw [hs]; unfold Lib.hasPrefix; simp [List.isPrefixOf]))
  have C2 := Lib.hid (pfx_any s (⟨#[38, 97, 109, 112, 59]⟩ : ByteArray) false (by rw [hs]; unfold Lib.hasPrefix; simp [List.isPrefixOf]))
  have C3 := Lib.hid (pfx_any s (⟨#[38, 108, 98, 59]⟩ : ByteArray) true (by rw [hs]; exact pre_yes _ rest))
  clear hs
  go_enter Tryz.func123, Tryz.ntmps123
  go_wp2_with (first
   | (go_at_call_of 130 (Value.string (⟨#[38, 108, 116, 59]⟩ : ByteArray)); refine (C0.out _).mono ?_; rintro e w' ⟨rfl, rfl⟩)
   | (go_at_call_of 130 (Value.string (⟨#[38, 103, 116, 59]⟩ : ByteArray)); refine (C1.out _).mono ?_; rintro e w' ⟨rfl, rfl⟩)
   | (go_at_call_of 130 (Value.string (⟨#[38, 97, 109, 112, 59]⟩ : ByteArray)); refine (C2.out _).mono ?_; rintro e w' ⟨rfl, rfl⟩)
   | (go_at_call_of 130 (Value.string (⟨#[38, 108, 98, 59]⟩ : ByteArray)); refine (C3.out _).mono ?_; rintro e w' ⟨rfl, rfl⟩))
  go_ret3
  exact ⟨rfl, rfl⟩
 ·skip
  have C0 := Lib.hid (pfx_any s (⟨#[38, 108, 116, 59]⟩ : ByteArray) false (by rw [hs]; unfold Lib.hasPrefix; simp [List.isPrefixOf]))
  have C1 := Lib.hid (pfx_any s (⟨#[38, 103, 116, 59]⟩ : ByteArray) false (by rw [hs]; unfold Lib.hasPrefix; simp [List.isPrefixOf]))
  have C2 := Lib.hid (pfx_any s (⟨#[38, 97, 109, 112, 59]⟩ : ByteArray) false (by rw [hs]; unfold Lib.hasPrefix; simp [List.isPrefixOf]))
  have C3 := Lib.hid (pfx_any s (⟨#[38, 108, 98, 59]⟩ : ByteArray) false (by rw [hs]; unfold Lib.hasPrefix; simp [List.isPrefixOf]))
  have C4 := Lib.hid (pfx_any s (⟨#[38, 114, 98, 59]⟩ : ByteArray) true (by rw [hs]; exact pre_yes _ rest))
  clear hs
  go_enter Tryz.func123, Tryz.ntmps123
  go_wp2_with (first
   | (go_at_call_of 130 (Value.string (⟨#[38, 108, 116, 59]⟩ : ByteArray)); refine (C0.out _).mono ?_; rintro e w' ⟨rfl, rfl⟩)
   | (go_at_call_of 130 (Value.string (⟨#[38, 103, 116, 59]⟩ : ByteArray)); refine (C1.out _).mono ?_; rintro e w' ⟨rfl, rfl⟩)
   | (go_at_call_of 130 (Value.string (⟨#[38, 97, 109, 112, 59]⟩ : ByteArray)); refine (C2.out _).mono ?_; rintro e w' ⟨rfl, rfl⟩)
   | (go_at_call_of 130 (Value.string (⟨#[38, 108, 98, 59]⟩ : ByteArray)); refine (C3.out _).mono ?_; rintro e w' ⟨rfl, rfl⟩)
   | (go_at_call_of 130 (Value.string (⟨#[38, 114, 98, 59]⟩ : ByteArray)); refine (C4.out _).mono ?_; rintro e w' ⟨rfl, rfl⟩))
  go_ret3
  exact ⟨rfl, rfl⟩
end Go.Proofs.YtfkojnofbpdjdaaGreatDoor

namespace Go.Proofs.YtfkojnofbpdjdaaGreatDoor
set_option maxRecDepth 100000
open Go.RowKit
theorem cut_cont (s : ByteArray) (m : Int) (w : World) (hs : s.size ≤ 1000000) (hm : w.cell? ⟨0, 0, none⟩ = some (.int .i64 m)) (hc : contL s.data.toList = true) :
 ∃ (a b : ByteArray) (f : Bool), nameL a.data.toList = true ∧ a.size ≤ 1000000 ∧ (f = true → 0 < b.size) ∧ Calls Tryz.prog 80 #[.string s, .string (⟨#[32]⟩ : ByteArray)] w fun e w' => e = .returned (.tuple #[.string a, .string b, .bool f]) ∧ ∃ n, w' = w.drewN n := by
 obtain ⟨_, _, _, h4, h5⟩ := cont_parts _ hc
 have hcut := cut_name s.data.toList
 refine ⟨⟨(Lib.cut s.data.toList [32]).1.toArray⟩, ⟨(Lib.cut s.data.toList [32]).2.1.toArray⟩, (Lib.cut s.data.toList [32]).2.2, ?_, ?_, ?_, Tryz.strings_Cut s (⟨#[32]⟩ : ByteArray) m w (by omega) hm⟩
 ·rw [← hcut] at h4
  simpa using h4
 ·rw [Lib.size_eq] at hs ⊢
  simp only [List.toList_toArray]
  rw [hcut]
  have := (List.takeWhile_sublist (l := s.data.toList) (fun c => c != 32)).length_le
  unfold tagN
  omega
 ·intro hf
  rw [Lib.size_eq]
  simp only [List.toList_toArray]
  rcases parted 32 s.data.toList with hmm | ⟨p, r, e, hmm⟩
  ·unfold Lib.cut at hf
   rw [index_one_miss 32 _ hmm, if_neg (by decide)] at hf
   cases hf
  ·rw [e, tw_stop p r hmm, List.length_append, List.length_cons] at h5
   rw [e]
   unfold Lib.cut
   rw [index_one_hit 32 p r hmm, if_pos (by omega)]
   simp
   omega
theorem isContent_any (s : ByteArray) (m : Int) (w : World) (hm : w.cell? ⟨0, 0, none⟩ = some (.int .i64 m)) (hc : contL s.data.toList = true) :
 Calls Tryz.prog 115 #[.string s] w fun e w' => e = .returned (.bool true) ∧ ∃ n, w' = w.drewN n := by
 obtain ⟨R, HRR⟩ : ∃ R : Ending → World → Prop, Hid (R = fun e w' => e = .returned (.bool true) ∧ ∃ n, w' = w.drewN n) := ⟨_, rfl⟩
 rw [← HRR.out]
 obtain ⟨h1, h2, h3, _, _⟩ := cont_parts _ hc
 obtain ⟨l, d, hld, hd⟩ := cont_last _ hc
 have hsz := Lib.size_eq s
 obtain ⟨k, hk⟩ : ∃ k, s.size = k + 1 := ⟨l.length, by rw [hsz, hld, List.length_append]; rfl⟩
 have hk64 : k + 1 ≤ 64 := by omega
 have hkl : k < s.size := by omega
 have hlast : s[k] = d := by
  have hll : l.length = k := by have := congrArg List.length hld; rw [← hsz, List.length_append] at this; simp at this; omega
  have : s.data.toList[k]'(by rw [← hsz]; exact hkl) = d := by
   simp only [hld]
   rw [List.getElem_append_right (by omega)]
   simp [hll]
  exact this
 have n1 : ((s[k].toNat : Int) == 47) = false := beq_u8f s[k] 47 (by rw [hlast]; exact hd)
 have t1 : ¬ (64 : Int) < (k : Int) + 1 := by omega
 have t2 : (((k : Int) + 1) == 0) = false := by rw [beq_eq_false_iff_ne]; omega
 obtain ⟨a, b, f, ha, has, hf, hC⟩ := cut_cont s m w (by omega) hm hc
 have HC := Lib.hid hC
 have CN := Lib.hid (fun w => isname_any a w (by unfold maxLen; omega))
 rw [ha] at CN
 have HALL : Hid (∀ (i : Nat) (h : i < s.size), cntB s[i] = true) := fun i h => by
  have := h3 (s.data.toList[i]'(by rw [← hsz]; exact h)) (List.getElem_mem _)
  exact this
 clear hC h1 h2 h3 hld hd hlast hm hc ha hsz
 go_enter Tryz.func115, Tryz.ntmps115
 go_wp2_with fail
 obtain ⟨wo, HWO⟩ : ∃ wo, Hid (wo = w) := ⟨w, rfl⟩
 go_loopg [3] (k + 1) (fun gk iv wr => ∃ (i : Nat), iv = .int .i64 (i : Nat) ∧ i ≤ k + 1 ∧ Hid (wr = wo) ∧ k + 1 - i ≤ gk)
 case atStart => exact ⟨0, rfl, Nat.zero_le _, HWO.out.symm, Nat.le_refl _⟩
 case round =>
  obtain ⟨i, rfl, hi, HW, hgk⟩ := hrel
  by_cases hlt : i < k + 1
  ·have his : i < s.size := by omega
   have hcb := HALL.out i his
   have hn := cnt_not _ hcb
   have hr : 32 ≤ s[i].toNat ∧ s[i].toNat ≤ 126 := by
    unfold cntB at hcb
    simp only [Bool.and_eq_true, decide_eq_true_eq] at hcb
    exact hcb.1.1.1.1
   obtain ⟨r1, r2⟩ := hr
   have CI := Lib.hid (idx_call (⟨#[60, 62, 123, 125]⟩ : ByteArray) s[i].toNat (-1) (by
    have e : ((s[i].toNat : Int)).toNat.toUInt8 = s[i] := by rw [Int.toNat_natCast]; exact UInt8.ofNat_toNat
    rw [e]
    revert hn
    generalize s[i] = c
    intro hn
    simp [Lib.indexByte, hn.1.symm, hn.2.1.symm, hn.2.2.1.symm, hn.2.2.2.symm]))
   clear hcb hn
   go_wp2_with (go_at_call 126; refine (CI.out _).mono ?_; rintro e w' ⟨rfl, rfl⟩)
   go_roundg (k + 1 - (i + 1))
   case measure => omega
   case rel => exact ⟨i + 1, rfl, hlt, HW.out, by omega⟩
  ·obtain rfl : i = k + 1 := by omega
   have HCW : Hid (Calls Tryz.prog 80 #[.string s, .string (⟨#[32]⟩ : ByteArray)] wr fun e w' => e = .returned (.tuple #[.string a, .string b, .bool f]) ∧ ∃ n, w' = wr.drewN n) := by
    show Calls _ _ _ _ _
    rw [HW.out, HWO.out]
    exact HC.out
   cases f with
   | true =>
     have hb := hf rfl
     go_wp2_with (first
      | (go_at_call 80; refine (HCW.out).mono ?_; rintro e w1 ⟨rfl, n1, rfl⟩)
      | (go_at_call 114; refine (CN.out _).mono ?_; rintro e w' ⟨rfl, rfl⟩))
     first | go_ret | skip
     rw [HRR.out, HW.out, HWO.out]
     exact ⟨rfl, _, rfl⟩
   | false =>
     go_wp2_with (first
      | (go_at_call 80; refine (HCW.out).mono ?_; rintro e w1 ⟨rfl, n1, rfl⟩)
      | (go_at_call 114; refine (CN.out _).mono ?_; rintro e w' ⟨rfl, rfl⟩))
     first | go_ret | skip
     rw [HRR.out, HW.out, HWO.out]
     exact ⟨rfl, _, rfl⟩
end Go.Proofs.YtfkojnofbpdjdaaGreatDoor

namespace Go.Proofs.YtfkojnofbpdjdaaGreatDoor
set_option maxRecDepth 100000
open Go.RowKit
theorem sfx_any (s p : ByteArray) (b : Bool) (h : Lib.hasSuffix s.data.toList p.data.toList = b) (hs : s.size ≤ 1000000) (w : World) : Calls Tryz.prog 164 #[.string s, .string p] w fun e w' => e = .returned (.bool b) ∧ w = w' := by
 subst h
 refine (Tryz.strings_HasSuffix s p w (by omega)).mono ?_
 rintro e w' ⟨rfl, rfl⟩
 exact ⟨rfl, rfl⟩
theorem ext_list (s t : ByteArray) (a b : Nat) (h : (s.data.toList.take b).drop a = t.data.toList) : s.extract a b = t := by
 apply ByteArray.ext
 apply Array.toList_inj.1
 rw [← h, ByteArray.data_extract, Array.toList_extract, List.extract_eq_take_drop, List.drop_take]
theorem res_item3 {fn : Func} {p u v : Tmp} (h : fn.results = #[.cell p 31, .tmp u, .tmp v]) (tmps : Array Value) (w : World) (g : Nat) (k d : Int) (t : ByteArray) (x y : Value) (hp : tmps.getD p undef = .pointer (some ⟨g, 0, none⟩)) (hu : tmps.getD u undef = x) (hv : tmps.getD v undef = y)
 (c0 : w.cell? ⟨g, 0, none⟩ = some (.int .i64 k)) (c1 : w.cell? ⟨g, 1, none⟩ = some (.string t)) (c2 : w.cell? ⟨g, 2, none⟩ = some (.int .i64 d)) :
 (results fn tmps).run Tryz.prog w = .ok (.tuple #[.agg #[.int .i64 k, .string t, .int .i64 d], x, y]) w := by
 rw [results_cell_tmp2 h, hp, hu, hv]
 go_simp
theorem mid_of {l p m q : List UInt8} {a b : Nat} (h : l = p ++ m ++ q) (ha : p.length = a) (hb : a + m.length = b) : (l.take b).drop a = m := by
 subst h ha hb
 rw [← List.length_append, List.take_left, List.drop_left]
def TagRet (k : Int) (t : ByteArray) (n : Nat) (w : World) (e : Ending) (w' : World) : Prop :=
 e = .returned (.tuple #[.agg #[.int .i64 k, .string t, .int .i64 0], .int .i64 n, .bool true]) ∧ Below w.heap.size w w'
theorem size_pos {w : World} {m : Value} (hm : w.cell? ⟨0, 0, none⟩ = some m) : 0 < w.heap.size := by
 rcases Nat.eq_zero_or_pos w.heap.size with h | h
 ·exfalso
  have h2 : w.heap[0]? = none := Array.getElem?_eq_none (by omega)
  simp [World.cell?, h2] at hm
 ·exact h
theorem below_cell0 {w w' : World} {m : Value} (hm : w.cell? ⟨0, 0, none⟩ = some m) (hb : Below w.heap.size w w') : w'.cell? ⟨0, 0, none⟩ = some m := by
 rw [← hm]
 exact hb.cell (size_pos hm)
theorem tag_opn (s t : ByteArray) (r : List UInt8) (m : Int) (w : World) (hm : w.cell? ⟨0, 0, none⟩ = some (.int .i64 m)) (hs : s.data.toList = 60 :: t.data.toList ++ 62 :: r) (hsz : s.size ≤ 1000000) (hc : contL t.data.toList = true) :
 Calls Tryz.prog 121 #[.string s] w (TagRet 2 t (t.size + 2) w) := by
 have hsl : s.size = t.size + 2 + r.length := by rw [Lib.size_eq, hs, Lib.size_eq t]; simp; omega
 have hex : s.extract 1 (t.size + 1) = t := ext_list _ _ _ _ (by rw [hs, Lib.size_eq t]; simp)
 have CI := Lib.hid (idx_call s 62 ((t.size + 1 : Nat) : Int) (by rw [hs, Lib.size_eq t]; exact tag_idx t.data.toList r (cont_not _ hc).1))
 have CP := Lib.hid (pfx_any t (⟨#[47]⟩ : ByteArray) false (by
  obtain ⟨c, l, e, hh⟩ := cont_head _ hc
  rw [e]
  exact pre_head c 47 l [] (head_not c hh 47 (by simp))))
 have CS := Lib.hid (sfx_any t (⟨#[47]⟩ : ByteArray) false (by
  obtain ⟨l, d, e, hd⟩ := cont_last _ hc
  rw [e]
  show Lib.hasSuffix (l ++ [d]) [47] = false
  rw [suf_last l [] d 47]
  simpa using fun e : 47 = d => hd e.symm) (by omega))
 have HC := Lib.hid (fun w hm => isContent_any t m w hm hc)
 have HM := Lib.hid hm
 have hts : t.size ≤ 1000000 := by omega
 have HR : Hid (IntKind.i64.wrap ((t.size : Int) + 1 + 1) = ((t.size + 2 : Nat) : Int)) := by show _ = _; rw [IntKind.wrap_i64]; omega
 clear hs hc hm
 go_enter Tryz.func121, Tryz.ntmps121
 go_wp2_with (first
  | (go_at_call 126; refine (CI.out _).mono ?_; rintro e w' ⟨rfl, rfl⟩)
  | (go_at_call 130; refine (CP.out _).mono ?_; rintro e w' ⟨rfl, rfl⟩)
  | (go_at_call 164; refine (CS.out _).mono ?_; rintro e w' ⟨rfl, rfl⟩))
 go_region_with (go_at_call 115; refine (HC.out _ (by exact below_cell0 HM.out (by (repeat' (first | with_reducible exact Below.refl _ _ | refine below_drewN ?_ _ | refine Below.drew ?_ | refine Below.setCell ?_ (by simp) _ | refine Below.alloc ?_ (by simp) _))))).mono ?_;  rintro e w1 ⟨rfl, n1, rfl⟩)
 all_goals (
  go_wp2_with fail
  refine bodyPost_ret (res_item3 rfl _ _ w.heap.size 2 0 t _ _ rfl rfl rfl (by go_simp) (by go_simp) (by go_simp)) rfl ?_
  refine ⟨ret_val (by rw [HR.out]; rfl), ?_⟩
  (repeat' (first | with_reducible exact Below.refl _ _ | refine below_drewN ?_ _ | refine Below.drew ?_ | refine Below.setCell ?_ (by simp) _ | refine Below.alloc ?_ (by simp) _)))
theorem tag_emp (s t : ByteArray) (r : List UInt8) (m : Int) (w : World) (hm : w.cell? ⟨0, 0, none⟩ = some (.int .i64 m)) (hs : s.data.toList = 60 :: t.data.toList ++ 47 :: 62 :: r) (hsz : s.size ≤ 1000000) (hc : contL t.data.toList = true) :
 Calls Tryz.prog 121 #[.string s] w (TagRet 4 t (t.size + 3) w) := by
 have hsl : s.size = t.size + 3 + r.length := by rw [Lib.size_eq, hs, Lib.size_eq t]; simp; omega
 obtain ⟨u, HU⟩ : ∃ u : ByteArray, Hid (u = ofL (t.data.toList ++ [47])) := ⟨ofL (t.data.toList ++ [47]), rfl⟩
 have hul : u.data.toList = t.data.toList ++ [47] := by rw [HU.out]; simp [ofL]
 have hus : u.size = t.size + 1 := by rw [Lib.size_eq, hul, Lib.size_eq t]; simp
 have hex : s.extract 1 (t.size + 2) = u := ext_list _ _ _ _ (mid_of (p := [60]) (q := 62 :: r) (by rw [hs, hul]; simp) rfl (by rw [← Lib.size_eq, hus]; omega))
 have hex2 : u.extract 0 t.size = t := ext_list _ _ _ _ (mid_of (p := []) (q := [47]) (by rw [hul]; simp) rfl (by rw [← Lib.size_eq]; omega))
 have CI := Lib.hid (idx_call s 62 ((t.size + 2 : Nat) : Int) (by
  have h := tag_idx (t.data.toList ++ [47]) r (fun b hb => by
   rcases List.mem_append.1 hb with hb | hb
   ·exact (cont_not _ hc).1 b hb
   ·rw [List.mem_singleton.1 hb]; decide)
  rw [hs, show ((t.size + 2 : Nat) : Int) = (t.size : Int) + 1 + 1 by omega, Lib.size_eq t]
  simpa using h))
 have CP := Lib.hid (pfx_any u (⟨#[47]⟩ : ByteArray) false (by
  obtain ⟨c, l, e, hh⟩ := cont_head _ hc
  rw [hul, e]
  exact pre_head c 47 _ [] (head_not c hh 47 (by simp))))
 have CS := Lib.hid (sfx_any u (⟨#[47]⟩ : ByteArray) true (by
  rw [hul]
  show Lib.hasSuffix (t.data.toList ++ [47]) [47] = true
  rw [suf_last _ [] 47 47]
  rfl) (by omega))
 have HC := Lib.hid (fun w hm => isContent_any t m w hm hc)
 have HM := Lib.hid hm
 have hts : t.size ≤ 1000000 := by omega
 have HR : Hid (IntKind.i64.wrap ((t.size : Int) + 2 + 1) = ((t.size + 3 : Nat) : Int)) := by show _ = _; rw [IntKind.wrap_i64]; omega
 clear hs hc hm hul HU
 go_enter Tryz.func121, Tryz.ntmps121
 go_wp2_with (first
  | (go_at_call 126; refine (CI.out _).mono ?_; rintro e w' ⟨rfl, rfl⟩)
  | (go_at_call 130; refine (CP.out _).mono ?_; rintro e w' ⟨rfl, rfl⟩)
  | (go_at_call 164; refine (CS.out _).mono ?_; rintro e w' ⟨rfl, rfl⟩))
 go_region
 all_goals (
  go_wp2_with fail
  go_region_with (go_at_call 115; refine (HC.out _ ?hcell).mono ?_; (case hcell => (refine below_cell0 HM.out ?_; (repeat' (first | with_reducible exact Below.refl _ _ | refine below_drewN ?_ _ | refine Below.drew ?_ | refine Below.setCell ?_ (by simp) _ | refine Below.alloc ?_ (by simp) _)))); rintro e w1 ⟨rfl, n1, rfl⟩))
 all_goals (
  go_wp2_with fail
  refine bodyPost_ret (res_item3 rfl _ _ w.heap.size 4 0 t _ _ rfl rfl rfl (by go_simp) (by go_simp) (by go_simp)) rfl ?_
  refine ⟨ret_val (by rw [HR.out]; rfl), ?_⟩
  (repeat' (first | with_reducible exact Below.refl _ _ | refine below_drewN ?_ _ | refine Below.drew ?_ | refine Below.setCell ?_ (by simp) _ | refine Below.alloc ?_ (by simp) _)))
theorem tag_cls (s t : ByteArray) (r : List UInt8) (m : Int) (w : World) (hm : w.cell? ⟨0, 0, none⟩ = some (.int .i64 m)) (hs : s.data.toList = 60 :: 47 :: t.data.toList ++ 62 :: r) (hsz : s.size ≤ 1000000) (hc : nameL t.data.toList = true) :
 Calls Tryz.prog 121 #[.string s] w (TagRet 3 t (t.size + 3) w) := by
 have hsl : s.size = t.size + 3 + r.length := by rw [Lib.size_eq, hs, Lib.size_eq t]; simp; omega
 obtain ⟨u, HU⟩ : ∃ u : ByteArray, Hid (u = ofL (47 :: t.data.toList)) := ⟨ofL (47 :: t.data.toList), rfl⟩
 have hul : u.data.toList = 47 :: t.data.toList := by rw [HU.out]; simp [ofL]
 have hus : u.size = t.size + 1 := by rw [Lib.size_eq, hul, Lib.size_eq t]; simp
 have hex : s.extract 1 (t.size + 2) = u := ext_list _ _ _ _ (mid_of (p := [60]) (q := 62 :: r) (by rw [hs, hul]; simp) rfl (by rw [← Lib.size_eq, hus]; omega))
 have hex2 : u.extract 1 (t.size + 1) = t := ext_list _ _ _ _ (mid_of (p := [47]) (q := []) (by rw [hul]; simp) rfl (by rw [← Lib.size_eq]; omega))
 have CI := Lib.hid (idx_call s 62 ((t.size + 2 : Nat) : Int) (by
  have h := tag_idx (47 :: t.data.toList) r (fun b hb => by
   rcases List.mem_cons.1 hb with rfl | hb
   ·decide
   ·exact name_not _ hc 62 (by simp) b hb)
  rw [hs, show ((t.size + 2 : Nat) : Int) = (t.size : Int) + 1 + 1 by omega, Lib.size_eq t]
  simpa using h))
 have CP := Lib.hid (pfx_any u (⟨#[47]⟩ : ByteArray) true (by
  rw [hul]
  exact pre_yes [47] t.data.toList))
 have CN := Lib.hid (fun w => isname_any t w (by unfold maxLen; omega))
 rw [hc] at CN
 have hts : t.size ≤ 1000000 := by omega
 have HR : Hid (IntKind.i64.wrap ((t.size : Int) + 2 + 1) = ((t.size + 3 : Nat) : Int)) := by show _ = _; rw [IntKind.wrap_i64]; omega
 clear hs hc hm hul HU
 go_enter Tryz.func121, Tryz.ntmps121
 go_wp2_with (first
  | (go_at_call 126; refine (CI.out _).mono ?_; rintro e w' ⟨rfl, rfl⟩)
  | (go_at_call 130; refine (CP.out _).mono ?_; rintro e w' ⟨rfl, rfl⟩))
 go_region
 all_goals (
  go_wp2_with fail
  go_region_with (go_at_call 114; refine (CN.out _).mono ?_; rintro e w1 ⟨rfl, rfl⟩))
 all_goals (
  go_wp2_with fail
  refine bodyPost_ret (res_item3 rfl _ _ w.heap.size 3 0 t _ _ rfl rfl rfl (by go_simp) (by go_simp) (by go_simp)) rfl ?_
  refine ⟨ret_val (by rw [HR.out]; rfl), ?_⟩
  (repeat' (first | with_reducible exact Below.refl _ _ | refine below_drewN ?_ _ | refine Below.drew ?_ | refine Below.setCell ?_ (by simp) _ | refine Below.alloc ?_ (by simp) _)))
end Go.Proofs.YtfkojnofbpdjdaaGreatDoor
