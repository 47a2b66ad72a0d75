/-
  Contracts and plain laws that this claim leans on, part 6.
-/
import Derived.Test.YtfkojnofbpdjdaaGreatDoorPackC5
import Derived.Test.YtfkojnofbpdjdaaGreatDoorPackC1
import Derived.Test.YtfkojnofbpdjdaaGreatDoorPackC3
import Derived.Test.YtfkojnofbpdjdaaGreatDoorPackC2
import Derived.Test.YtfkojnofbpdjdaaGreatDoorPackC4
import Derived.Lib.IndexMore
import Derived.Shelf.Strings.SlTrimAscii
import Derived.Maps.Own
import Derived.Maps.OwnOps
import Derived.Maps.Views
set_option linter.unusedVariables false
set_option linter.unusedSimpArgs false
set_option maxHeartbeats 16000000
set_option maxRecDepth 100000
namespace Go.Proofs.YtfkojnofbpdjdaaGreatDoor
set_option maxRecDepth 100000
open Go.RowKit
theorem res_doc2 {fn : Func} {p u : Tmp} (h : fn.results = #[.cell p 41, .tmp u]) (tmps : Array Value) (w : World) (g : Nat) (k : Int) (A : Option Addr) (n c : Nat) (x : Value) (hp : tmps.getD p undef = .pointer (some ⟨g, 0, none⟩)) (hu : tmps.getD u undef = x)
 (c0 : w.cell? ⟨g, 0, none⟩ = some (.int .i64 k)) (c1 : w.cell? ⟨g, 1, none⟩ = some (.slice A n c)) :
 (results fn tmps).run Tryz.prog w = .ok (.tuple #[.agg #[.int .i64 k, .slice A n c], x]) w := by
 rw [results_cell_tmp h, hp, hu]
 go_simp
theorem own_someD {w : World} {B : Nat} {e : TypeId} {size n c : Nat} {A : Option Addr} {xs : List Value} {m : Nat} (h : w.ownsRow B e size (.slice A m c) n xs) (hn : 0 < n) : ∃ bk, A = some ⟨bk, 0, none⟩ ∧ B ≤ bk := by
 rcases h.2 with ⟨_, h0⟩ | ⟨g', cap, cur, hv, hbg, _⟩
 ·omega
 ·injection hv with hv
  exact ⟨g', hv, hbg⟩
theorem flat_set : ∀ (ps : List Pt) (k : Nat) (hk : k < ps.length) (nb : ByteArray), (ps[k]).un = true → (ps.flatMap ptC).set (k * 3 + 2) (.string nb) = (ps.set k ⟨true, ps[k].key, nb⟩).flatMap ptC
 | [], k, hk, _, _ => by simp at hk
 | p :: ps, 0, hk, nb, hu => by
   simp only [List.getElem_cons_zero] at hu
   simp [ptC, hu]
 | p :: ps, k + 1, hk, nb, hu => by
   have ih := flat_set ps k (by simpa using hk) nb (by simpa using hu)
   rw [List.set_cons_succ, List.flatMap_cons, List.flatMap_cons, List.getElem_cons_succ, ← ih]
   show ([Value.bool p.un, Value.string p.key, Value.string p.raw] ++ ps.flatMap ptC).set ((k + 1) * 3 + 2) _ = [Value.bool p.un, Value.string p.key, Value.string p.raw] ++ _
   rw [show (k + 1) * 3 + 2 = k * 3 + 2 + 1 + 1 + 1 by omega]
   rfl
theorem splE_nil (ts : Els) (p : Nat) (tg : List Els) : splE ts p [] tg = dropE ts p := by cases tg <;> rfl
theorem takeE_len_le (ts : Els) (p q : Nat) (h : p ≤ q) : (rawE (takeE ts p)).length ≤ (rawE (takeE ts q)).length := by
 obtain ⟨d, rfl⟩ : ∃ d, q = p + d := ⟨q - p, by omega⟩
 rw [takeE_split, rawE_app, List.length_append]
 omega
theorem takeE_len_all (ts : Els) (p : Nat) : (rawE (takeE ts p)).length ≤ (rawE ts).length := by
 rw [rawE_take_le ts p, List.length_append]
 omega
theorem rdInt_get {w : World} {A : Option Addr} {n c : Nat} {l : List Int} (h : RdE intC 1 w (.slice A n c) l) (k : Nat) {v : Int} (hk : l[k]? = some v) : ∃ b o, A = some ⟨b, o, none⟩ ∧ w.cell? ⟨b, o + k, none⟩ = some (.int .i64 v) := by
 obtain ⟨hl, hv⟩ := List.getElem?_eq_some_iff.1 hk
 obtain ⟨b, o, hA, _, hc⟩ := rdInt_at h k hl
 exact ⟨b, o, hA, by rw [hc, hv]⟩
theorem rdInt_get2 {w : World} {b o n c : Nat} {l : List Int} (h : RdE intC 1 w (.slice (some ⟨b, o, none⟩) n c) l) (k : Nat) {v : Int} (hk : l[k]? = some v) : w.cell? ⟨b, o + k, none⟩ = some (.int .i64 v) := by
 obtain ⟨b', o', hA, hc⟩ := rdInt_get h k hk
 injection hA with hA
 injection hA with e1 e2 _
 rw [e1, e2]
 exact hc
structure RplOk (m fmt : Int) (ps : List Pt) (k : Nat) (ts : Els) (cs : List Int) (rl : List (Nat × Nat)) (tg : List (List Tk)) (n : Nat) : Prop where
 fm : FmtOk fmt
 len : ps.length ≤ 100000
 size : (bytesP ps).length ≤ 1000000
 spl : SplOk m fmt (ofL (bytesP ps)) ps
 kl : k < ps.length
 un : (ps[k]'kl).un = true
 raw : (ps[k]'kl).raw = ofL (rawE ts)
 rsz : (rawE ts).length ≤ 1000000
 dec : DecOk m fmt (ofL (rawE ts)) (normL (itmE ts))
 one : expF (itmE ts) = itmE ts
 pos : (itmE ts).length ≤ 500
 cut : CutOk m fmt (ofL (rawE ts)) cs
 csl : cs.length = (itmE ts).length + 1
 cat : ∀ p, p ≤ (itmE ts).length → cs[p]? = some ((rawE (takeE ts p)).length : Int)
 rtl : rl.length = tg.length
 rll : rl.length ≤ 100000
 asc : ascL 0 rl (itmE ts).length
 tgn : ∀ t ∈ tg, Normal t
 enc : ∀ t ∈ tg, EncOk m fmt t (ofL (encF fmt t))
 new : DecOk m fmt (ofL (rawE (splE ts 0 rl (tg.map (tsF fmt))))) (normL (itmE (splE ts 0 rl (tg.map (tsF fmt)))))
 none_ : expF (itmE (splE ts 0 rl (tg.map (tsF fmt)))) = itmE (splE ts 0 rl (tg.map (tsF fmt)))
 npos : (itmE (splE ts 0 rl (tg.map (tsF fmt)))).length ≤ 500
 nrsz : (rawE (splE ts 0 rl (tg.map (tsF fmt)))).length ≤ 1000000
 num : numsG (normL (itmE (splE ts 0 rl (tg.map (tsF fmt))))) [] = cnt1 n
 nle : n ≤ 100000
 knd : ∀ x ∈ normL (itmE (splE ts 0 rl (tg.map (tsF fmt)))), KindT n x
 nsz : (bytesP (ps.set k ⟨true, (ps[k]'kl).key, ofL (rawE (splE ts 0 rl (tg.map (tsF fmt))))⟩)).length ≤ 65536
theorem replace_doc {m fmt : Int} {ps : List Pt} {k : Nat} {ts : Els} {cs : List Int} {rl : List (Nat × Nat)} {tg : List (List Tk)} {n : Nat} (h : RplOk m fmt ps k ts cs rl tg n) (A A2 A3 : Option Addr) (c c2 c3 : Nat) (w : World) (hm : w.cell? ⟨0, 0, none⟩ = some (.int .i64 m)) (h1 : RdE ptC 3 w (.slice A ps.length c) ps) (h2 : RdE rangeC 2 w (.slice A2 rl.length c2) rl) (h3 : RdTT w (.slice A3 tg.length c3) tg) :
 Calls Tryz.prog 32 #[.agg #[.int .i64 fmt, .slice A ps.length c], .int .i64 k, .slice A2 rl.length c2, .slice A3 tg.length c3] w (fun e w' => ∃ A' c', e = .returned (.tuple #[.agg #[.int .i64 fmt, .slice A' ps.length c'], .int .i64 0]) ∧ OwnE 52 ptC 3 w' w.heap.size (.slice A' ps.length c') (ps.set k ⟨true, (ps[k]'h.kl).key, ofL (rawE (splE ts 0 rl (tg.map (tsF fmt))))⟩) ∧ Below w.heap.size w w') := by
 obtain ⟨R, HRR⟩ : ∃ R : Ending → World → Prop, Hid (R = fun e w' => ∃ A' c', e = .returned (.tuple #[.agg #[.int .i64 fmt, .slice A' ps.length c'], .int .i64 0]) ∧ OwnE 52 ptC 3 w' w.heap.size (.slice A' ps.length c') (ps.set k ⟨true, (ps[k]'h.kl).key, ofL (rawE (splE ts 0 rl (tg.map (tsF fmt))))⟩) ∧ Below w.heap.size w w') := ⟨_, rfl⟩
 rw [← HRR.out]
 -- WALK
 have hrtl : rl.length = tg.length := h.rtl
 have HRTL := Lib.hid hrtl
 rw [hrtl] at h2 ⊢
 clear hrtl
 obtain ⟨f, hf⟩ : ∃ f, Hid (normL (itmE ts) = f) := ⟨_, rfl⟩
 obtain ⟨raw, hraw⟩ : ∃ raw, Hid (ofL (rawE ts) = raw) := ⟨_, rfl⟩
 obtain ⟨NEW, hNEW⟩ : ∃ NEW, Hid (rawE (splE ts 0 rl (tg.map (tsF fmt))) = NEW) := ⟨_, rfl⟩
 have hlf : lenI f = (itmE ts).length := by rw [← hf.out, lenI_norm, lenI_exp _ h.one]
 have hfl : f.length ≤ 500 := by
  have := len_norm (itmE ts)
  rw [hf.out, lenI_exp _ h.one] at this
  have := h.pos
  omega
 have hef : expF f = itmE ts := by rw [← hf.out, expF_norm, h.one]
 have HREP : Hid (normL (repU (expF f) 0 rl tg) = normL (itmE (splE ts 0 rl (tg.map (tsF fmt))))) := by show _ = _; rw [hef, itm_spl]
 have HH := Lib.hid h
 have HM := Lib.hid hm
 have HP := Lib.hid h1
 have HRL := Lib.hid h2
 have HTG := Lib.hid h3
 have hrs : raw.size = (rawE ts).length := by rw [← hraw.out, size_ofL]
 have hrs2 : raw.size ≤ 1000000 := by rw [hrs]; exact h.rsz
 have CV := Lib.hid (fun (W : World) (hW : Below w.heap.size w W) => dvalid_any m fmt h.fm ps h.spl A c W (below_cell0 hm hW) (RdE.below h1 hW (Nat.le_refl _)) h.len h.size)
 have CC := Lib.hid (fun (W : World) (hW : Below w.heap.size w W) => content_any m fmt h.fm ps f k h.kl h.un (by rw [h.raw, ← hf.out]; exact h.dec) A c W (below_cell0 hm hW) (RdE.below h1 hW (Nat.le_refl _)) h.len)
 have CL := Lib.hid (fun (v : Value) (W : World) (hr : RdT W v f) => ilength_any f v W hr (by have := h.pos; omega) (by omega))
 have CA := Lib.hid (fun (W : World) (hW : Below w.heap.size w W) => asc_any rl (lenI f) _ W (RdE.below h2 hW (Nat.le_refl _)) h.rll (by have := h.pos; omega) (by rw [hlf]; exact h.asc))
 have CCU := Lib.hid (fun (W : World) (hW : Below w.heap.size w W) => cuts_any fmt h.fm raw cs W (by rw [← hraw.out]; exact h.cut W (below_cell0 hm hW)))
 have hkl := h.kl
 have hpl := h.len
 have hrlb : tg.length ≤ 100000 := by rw [← HRTL.out]; exact h.rll
 obtain ⟨b, o, rfl, hb, p0, p1, p2⟩ := RdP.at_ h1 k h.kl
 have HP2 : Hid (w.cell? ⟨b, o + k * 3 + 2, none⟩ = some (.string raw)) := by show _ = _; rw [p2, h.raw, hraw.out]
 have HB0 : Hid (Below w.heap.size w (((w.alloc (.cells #[.int .i64 fmt, .slice (some ⟨b, o, none⟩) ps.length c] 41)).alloc (.cells #[.int .i64 0, .slice none 0 0] 41)).alloc (.cells #[.int .i64 0, .slice none 0 0] 41))) := Lib.hid ((((Below.refl w.heap.size w).alloc (Nat.le_refl _) _).alloc (by simp) _).alloc (by simp; omega) _)
 have HX0 : Hid ((((w.alloc (.cells #[.int .i64 fmt, .slice (some ⟨b, o, none⟩) ps.length c] 41)).alloc (.cells #[.int .i64 0, .slice none 0 0] 41)).alloc (.cells #[.int .i64 0, .slice none 0 0] 41)).heap[w.heap.size]? = some (.cells #[.int .i64 fmt, .slice (some ⟨b, o, none⟩) ps.length c] 41)) := by
  show _ = _
  rw [Below.heap_alloc _ _ _ (by simp; omega), Below.heap_alloc _ _ _ (by simp)]
  exact heap_alloc_new w _
 have HY0 : Hid ((((w.alloc (.cells #[.int .i64 fmt, .slice (some ⟨b, o, none⟩) ps.length c] 41)).alloc (.cells #[.int .i64 0, .slice none 0 0] 41)).alloc (.cells #[.int .i64 0, .slice none 0 0] 41)).heap[w.heap.size + 1]? = some (.cells #[.int .i64 0, .slice none 0 0] 41)) := by
  show _ = _
  rw [Below.heap_alloc _ _ _ (by simp)]
  have := heap_alloc_new (w.alloc (.cells #[.int .i64 fmt, .slice (some ⟨b, o, none⟩) ps.length c] 41)) (.cells #[.int .i64 0, .slice none 0 0] 41)
  simpa using this
 have HLF := Lib.hid hlf
 have HRS := Lib.hid hrs
 have hefx := Lib.hid hef
 have hlf2 : lenI f ≤ 500 := by rw [hlf]; exact h.pos
 clear h1 h2 h3 hm p0 p1 p2 hef hf hlf hrs
 obtain ⟨lf, hlfx⟩ : ∃ lf, Hid (lenI f = lf) := ⟨_, rfl⟩
 rw [hlfx.out] at CL CA HLF hlf2
 go_enter Tryz.func32, Tryz.ntmps32
 go_upto_region 2 with fail
 generalize ((w.alloc (.cells #[.int .i64 fmt, .slice (some ⟨b, o, none⟩) ps.length c] 41)).alloc (.cells #[.int .i64 0, .slice none 0 0] 41)).alloc (.cells #[.int .i64 0, .slice none 0 0] 41) = W0 at HB0 HX0 HY0 ⊢
 obtain ⟨g, hgx⟩ : ∃ g, Hid (w.heap.size = g) := ⟨_, rfl⟩
 rw [hgx.out] at HX0 HY0
 rw [hgx.out]
 have hgw : w.heap.size ≤ g := Nat.le_of_eq hgx.out
 obtain ⟨x0, x1, _⟩ := bx2 HX0.out
 go_upto_region 11 with (first
  | (go_at_call 65; refine (CV.out _ (by exact HB0.out)).mono ?_; rintro e W1 ⟨rfl, hb1⟩; have HB1 := Lib.hid (HB0.out.trans (hb1.mono HB0.out.size)); have HX1 := Lib.hid (heap_step HX0.out hb1); have HY1 := Lib.hid (heap_step HY0.out hb1); obtain ⟨y0, y1, _⟩ := bx2 HX1.out; clear hb1)
  | (go_at_call 27; refine (CC.out _ (by exact HB1.out)).mono ?_; rintro e W2 ⟨vf, rfl, ho2, hb2⟩; obtain ⟨Af, cf, rfl⟩ := own_shape ho2; have HB2 := Lib.hid (HB1.out.trans (hb2.mono HB1.out.size)); have HX2 := Lib.hid (heap_step HX1.out hb2); have HY2 := Lib.hid (heap_step HY1.out hb2); have HF2 := Lib.hid (OwnE.rd tkC_three ho2); clear ho2 hb2)
  | (go_at_call 62; refine (CL.out _ _ (by exact HF2.out)).mono ?_; rintro e W3 ⟨rfl, hb3⟩; have HB3 := Lib.hid (HB2.out.trans (hb3.mono HB2.out.size)); have HX3 := Lib.hid (heap_step HX2.out hb3); have HY3 := Lib.hid (heap_step HY2.out hb3); have HF3 := Lib.hid (RdE.below HF2.out hb3 (Nat.le_refl _)); clear hb3)
  | (go_at_call 66; refine (CA.out _ (by exact HB3.out)).mono ?_; rintro e W4 ⟨rfl, hb4⟩; have HB4 := Lib.hid (HB3.out.trans (hb4.mono HB3.out.size)); have HX4 := Lib.hid (heap_step HX3.out hb4); have HY4 := Lib.hid (heap_step HY3.out hb4); have HF4 := Lib.hid (RdE.below HF3.out hb4 (Nat.le_refl _)); obtain ⟨z0, z1, _⟩ := bx2 HX4.out; have z2 := (HB4.out.cell (p := ⟨b, o + k * 3 + 2, none⟩) hb).trans HP2.out; clear hb4))
 go_upto_region 16 with (go_at_call 67; refine (CCU.out _ (by exact HB4.out)).mono ?_; rintro e W5 ⟨vc, rfl, ho5, hb5⟩; obtain ⟨Ac, cc, rfl⟩ := own_shape ho5; have HB5 := Lib.hid (HB4.out.trans (hb5.mono HB4.out.size)); have HX5 := Lib.hid (heap_step HX4.out hb5); have HY5 := Lib.hid (heap_step HY4.out hb5); have HF5 := Lib.hid (RdE.below HF4.out hb5 (Nat.le_refl _)); have HC5 := Lib.hid (OwnE.rd intC_one ho5); clear ho5 hb5)
 have hA0 : ((rawE (takeE ts 0)).length : Int) = 0 := by cases ts <;> rfl
 go_loopg [16, 17, 73] tg.length (fun gk sv av iv wr => ∃ (i p : Nat) (sb : ByteArray), sv = .string sb ∧ av = .int .i64 ((rawE (takeE ts p)).length : Nat) ∧ iv = .int .i64 i ∧ i ≤ tg.length ∧ p ≤ lf ∧ Hid (ascL p (rl.drop i) lf) ∧ Hid (sb.data.toList ++ rawE (splE ts p (rl.drop i) ((tg.drop i).map (tsF fmt))) = NEW) ∧ Hid (Below w.heap.size w wr) ∧ Hid (wr.heap[g]? = some (.cells #[.int .i64 fmt, .slice (some ⟨b, o, none⟩) ps.length c] 41)) ∧ Hid (wr.heap[g + 1]? = some (.cells #[.int .i64 0, .slice none 0 0] 41)) ∧ Hid (RdT wr (.slice Af f.length cf) f) ∧ Hid (RdE intC 1 wr (.slice Ac cs.length cc) cs) ∧ tg.length - i ≤ gk)
 case atStart => exact ⟨0, 0, ⟨#[]⟩, rfl, by rw [hA0], rfl, Nat.zero_le _, Nat.zero_le _, by rw [HLF.out]; exact HH.out.asc, hNEW.out, HB5.out, HX5.out, HY5.out, HF5.out, HC5.out, Nat.le_refl _⟩
 case round =>
  obtain ⟨i, p, sb, rfl, rfl, rfl, hi, hpf, HS, HE, HB, HX, HY, HF, HC, hgk⟩ := hrel
  clear hA0 HB5 HX5 HY5 HF5 HC5 HB4 HX4 HY4 HF4 HB3 HX3 HY3 HF3 HB2 HX2 HY2 HF2 HB1 HX1 HY1 HB0 HX0 HY0 CV CC CL CA CCU x0 x1 y0 y1 z0 z1 z2
  have hNL : NEW.length ≤ 1000000 := by rw [← hNEW.out]; exact HH.out.nrsz
  by_cases hlt : i < tg.length
  ·have hlr : i < rl.length := by rw [HRTL.out]; exact hlt
   obtain ⟨b2, o2, hA2, hb2, c0, c1⟩ := rdR_at HRL.out i hlr
   obtain ⟨b3, o3, At, ct, hA3, hb3, t00, ht00⟩ := RdTT.at_ HTG.out i hlt
   subst hA2
   subst hA3
   have hs := HS.out
   have he := HE.out
   rw [List.drop_eq_getElem_cons hlr] at hs he
   rw [List.drop_eq_getElem_cons hlt, List.map_cons, splE] at he
   have hmem := List.getElem_mem hlt
   have henc := HH.out.enc _ hmem
   generalize rl[i] = x at *
   generalize tg[i] = tk at *
   obtain ⟨x1, x2⟩ := x
   obtain ⟨s1, s2, s3, s4⟩ := hs
   simp only at c0 c1 s1 s2 s3 s4 he
   have HS4 := Lib.hid s4
   rw [rawE_app, rawE_app, raw_tsF] at he
   have CE := Lib.hid (fun (W : World) (hW : Below w.heap.size w W) => enc_any fmt HH.out.fm At tk.length ct (ofL (encF fmt tk)) W (henc At ct W (below_cell0 HM.out hW) (RdE.below ht00 hW (Nat.le_refl _))))
   obtain ⟨e1, he1⟩ : ∃ e1 : ByteArray, Hid (ofL (rawE (takeE (dropE ts p) (x1 - p))) = e1) := ⟨_, rfl⟩
   obtain ⟨e2, he2⟩ : ∃ e2 : ByteArray, Hid (ofL (encF fmt tk) = e2) := ⟨_, rfl⟩
   rw [he2.out] at CE
   have hTL := congrArg List.length he
   simp only [List.length_append] at hTL
   have z1 : e1.size = (rawE (takeE (dropE ts p) (x1 - p))).length := by rw [← he1.out, size_ofL]
   have z2 : e2.size = (encF fmt tk).length := by rw [← he2.out, size_ofL]
   have z3 : sb.size = sb.data.toList.length := Lib.size_eq sb
   have hz1 : e1.size ≤ 1000000 := by omega
   have hz2 : e2.size ≤ 1000000 := by omega
   have hz3 : sb.size ≤ 1000000 := by omega
   have hm1 := takeE_len_le ts p x1 s1
   have hm2 := takeE_len_le ts x1 x2 s2
   have hm3 := takeE_len_all ts x2
   have hxl : x2 ≤ (itmE ts).length := by rw [← HLF.out]; exact s3
   have hk1 := HH.out.cat x1 (Nat.le_trans s2 hxl)
   have hk2 := HH.out.cat x2 hxl
   have hex : raw.extract (rawE (takeE ts p)).length (rawE (takeE ts x1)).length = e1 := by
    rw [← he1.out, ← hraw.out]
    refine ext_list _ _ _ _ ?_
    rw [show (ofL (rawE ts)).data.toList = rawE ts by simp [ofL], raw_cut ts p x1 s1]
    simp [ofL]
   have HEN : Hid ((sb ++ (e1 ++ e2)).data.toList ++ rawE (splE ts x2 (rl.drop (i + 1)) ((tg.drop (i + 1)).map (tsF fmt))) = NEW) := by
    show _ = _
    rw [← he, ← he1.out, ← he2.out]
    simp [ofL]
   have hra : (rawE (takeE ts x1)).length ≤ raw.size := by rw [HRS.out]; omega
   have hlt2 : (i : Int) < (tg.length : Int) := by omega
   have hlt3 : x1 < cs.length := by rw [HH.out.csl]; omega
   have hlt4 : x2 < cs.length := by rw [HH.out.csl]; omega
   have hal := (Below.refl wr.heap.size wr).alloc (Nat.le_refl _) (.cells #[.int .i64 x1, .int .i64 x2] 54)
   have HBA := Lib.hid (HB.out.trans (hal.mono HB.out.size))
   have HXA := Lib.hid (heap_step HX.out hal)
   have HYA := Lib.hid (heap_step HY.out hal)
   have HFA := Lib.hid (RdE.below HF.out hal (Nat.le_refl _))
   have HCA := Lib.hid (RdE.below HC.out hal (Nat.le_refl _))
   have HRA : Hid ((wr.alloc (.cells #[.int .i64 x1, .int .i64 x2] 54)).heap[wr.heap.size]? = some (.cells #[.int .i64 x1, .int .i64 x2] 54)) := heap_alloc_new wr _
   have r0 := (HB.out.cell (p := ⟨b2, o2 + i * 2, none⟩) hb2).trans c0
   have r1 := (HB.out.cell (p := ⟨b2, o2 + i * 2 + 1, none⟩) hb2).trans c1
   clear he hTL z1 z2 z3 hal s4 hmem henc ht00 c0 c1 HS HE HX HY HF HC
   go_upto_region 18 with fail
   generalize wr.heap.size = gr at HRA ⊢
   generalize wr.alloc (.cells #[.int .i64 x1, .int .i64 x2] 54) = wa at HBA HXA HYA HFA HCA HRA ⊢
   obtain ⟨x0, x1', _⟩ := bx2 HXA.out
   have t0 := (HBA.out.cell (p := ⟨b3, o3 + i, none⟩) hb3).trans t00
   clear r0 r1 HB
   generalize (rawE (takeE ts p)).length = a0 at *
   generalize (rawE (takeE ts x1)).length = a1 at *
   obtain ⟨a2, ha2⟩ : ∃ a2, Hid ((rawE (takeE ts x2)).length = a2) := ⟨_, rfl⟩
   rw [ha2.out] at hk2 hm2 hm3
   go_region_with (go_at_call 68; refine (CE.out _ ?hbx).mono ?_; (case hbx => (repeat' (first | exact HBA.out | refine below_drewN ?_ _ | refine Below.drew ?_))); rintro e W6 ⟨rfl, hb6⟩; have hb7 : Below wa.heap.size wa W6 := ⟨hb6.os, hb6.tape, hb6.output, hb6.size, hb6.block⟩; have HB6 := Lib.hid (HBA.out.trans (hb7.mono HBA.out.size)); have HX6 := Lib.hid (heap_step HXA.out hb7); have HY6 := Lib.hid (heap_step HYA.out hb7); have HF6 := Lib.hid (RdE.below HFA.out hb7 (Nat.le_refl _)); have HC6 := Lib.hid (RdE.below HCA.out hb7 (Nat.le_refl _)); obtain ⟨q0, q1, _⟩ := bx2 (heap_step HRA.out hb7); clear hb6 hb7)
   all_goals (
    obtain ⟨bc, oc, rfl, d1⟩ := rdInt_get HC6.out x1 hk1
    have d2 := rdInt_get2 HC6.out x2 hk2
    go_wp2_with fail
    go_roundg (tg.length - (i + 1))
    case measure => omega
    case rel => exact ⟨i + 1, x2, sb ++ (e1 ++ e2), rfl, by rw [ha2.out], rfl, hlt, s3, HS4.out, HEN.out, HB6.out, HX6.out, HY6.out, HF6.out, HC6.out, Nat.le_refl _⟩)
  ·obtain rfl : i = tg.length := by omega
   have he := HE.out
   rw [show rl.drop tg.length = [] by rw [← HRTL.out, List.drop_length], List.drop_length, List.map_nil, splE_nil] at he
   obtain ⟨e9, he9⟩ : ∃ e9 : ByteArray, Hid (ofL (rawE (dropE ts p)) = e9) := ⟨_, rfl⟩
   obtain ⟨nb, hnb⟩ : ∃ nb : ByteArray, Hid (ofL NEW = nb) := ⟨_, rfl⟩
   obtain ⟨fN, hfN⟩ : ∃ fN, Hid (normL (itmE (splE ts 0 rl (tg.map (tsF fmt)))) = fN) := ⟨_, rfl⟩
   have hTL := congrArg List.length he
   rw [List.length_append] at hTL
   have z1 : e9.size = (rawE (dropE ts p)).length := by rw [← he9.out, size_ofL]
   have z3 : sb.size = sb.data.toList.length := Lib.size_eq sb
   have hz1 : e9.size ≤ 1000000 := by omega
   have hz3 : sb.size ≤ 1000000 := by omega
   have hex : raw.extract (rawE (takeE ts p)).length raw.size = e9 := by
    rw [← he9.out, ← hraw.out]
    refine ext_list _ _ _ _ ?_
    rw [show (ofL (rawE ts)).data.toList = rawE ts by simp [ofL], size_ofL, List.take_length, raw_rest]
    simp [ofL]
   have hcat : sb ++ e9 = nb := by
    apply ByteArray.ext
    apply Array.toList_inj.1
    rw [← hnb.out, ← he9.out, ← he]
    simp [ofL]
   have hra : (rawE (takeE ts p)).length ≤ raw.size := by rw [HRS.out]; exact takeE_len_all ts p
   have hnew := HH.out.new
   rw [hNEW.out, hnb.out, hfN.out] at hnew
   rw [hfN.out] at HREP
   have hfN2 : fN.length ≤ 500 ∧ lenI fN ≤ 500 := by
    have h1 := len_norm (itmE (splE ts 0 rl (tg.map (tsF fmt))))
    have h2 := lenI_norm (itmE (splE ts 0 rl (tg.map (tsF fmt))))
    have h3 := lenI_exp _ HH.out.none_
    have h4 := HH.out.npos
    rw [hfN.out] at h1 h2
    omega
   have hnn : normL fN = fN := by rw [← hfN.out, normL_of_normal _ (normL_normal _)]
   have CD := Lib.hid (fun (W : World) (hW : Below w.heap.size w W) => dec_any fmt HH.out.fm nb fN W (hnew W (below_cell0 HM.out hW)))
   have CR := Lib.hid (fun (W : World) (hW : Below w.heap.size w W) (hr : RdT W (.slice Af f.length cf) f) => replaced_any f rl tg _ _ _ W hr (RdE.below HRL.out hW (Nat.le_refl _)) (RdTT.below HTG.out hW (Nat.le_refl _)) HRTL.out HH.out.rll (by omega) (by rw [hlfx.out]; omega) (by rw [hlfx.out, HLF.out]; exact HH.out.asc) (by rw [hefx.out, ← itm_spl fmt]; exact Nat.le_trans HH.out.npos (by decide)) HH.out.tgn)
   rw [HREP.out] at CR
   have hnum := HH.out.num
   have hknd := HH.out.knd
   rw [hfN.out] at hnum hknd
   have CN := Lib.hid (fun (v : Value) (W : World) (hr : RdT W v fN) => renumber_any fN n v W hr (by omega) (by omega) HH.out.nle hknd hnum)
   rw [hnn] at CN
   have CSM := Lib.hid (fun (va vb : Value) (W : World) (ha : RdT W va fN) (hb : RdT W vb fN) => same_any fN va vb W ha hb (by omega))
   clear he hTL z1 z3 hnew hnn hnum hknd HS HE HC hgk
   generalize (rawE (takeE ts p)).length = a0 at *
   obtain ⟨x0, x1, _⟩ := bx2 HX.out
   go_upto_region 30 with (first
    | (go_at_call 56; refine (CD.out _ (by exact HB.out)).mono ?_; rintro e W1 ⟨vg, rfl, ho1, hb1⟩; obtain ⟨Ag, cg, rfl⟩ := own_shape ho1; have HG1 := Lib.hid (OwnE.rd tkC_three ho1); have HB1 := Lib.hid (HB.out.trans (hb1.mono HB.out.size)); have HX1 := Lib.hid (heap_step HX.out hb1); have HY1 := Lib.hid (heap_step HY.out hb1); have HF1 := Lib.hid (RdE.below HF.out hb1 (Nat.le_refl _)); clear ho1 hb1)
    | (go_at_call 71; refine (CR.out _ (by exact HB1.out) (by exact HF1.out)).mono ?_; rintro e W2 ⟨v2, rfl, ho2, hb2⟩; obtain ⟨Ah, ch, rfl⟩ := own_shape ho2; have HR2 := Lib.hid (OwnE.rd tkC_three ho2); have HG2 := Lib.hid (RdE.below HG1.out hb2 (Nat.le_refl _)); have HB2 := Lib.hid (HB1.out.trans (hb2.mono HB1.out.size)); have HX2 := Lib.hid (heap_step HX1.out hb2); have HY2 := Lib.hid (heap_step HY1.out hb2); clear ho2 hb2)
    | (go_at_call 70; refine (CN.out _ _ (by exact HR2.out)).mono ?_; rintro e W3 ⟨v3, rfl, ho3, hb3⟩; obtain ⟨Ai, ci, rfl⟩ := own_shape ho3; have HR3 := Lib.hid (OwnE.rd tkC_three ho3); have HG3 := Lib.hid (RdE.below HG2.out hb3 (Nat.le_refl _)); have HB3 := Lib.hid (HB2.out.trans (hb3.mono HB2.out.size)); have HX3 := Lib.hid (heap_step HX2.out hb3); have HY3 := Lib.hid (heap_step HY2.out hb3); clear ho3 hb3)
    | (go_at_call 69; refine (CSM.out _ _ _ (by exact HG3.out) (by exact HR3.out)).mono ?_; rintro e W4 ⟨rfl, n4, rfl⟩))
   have CLO := Lib.hid (fun (W : World) (hW : Below w.heap.size w W) => cloneP_any ps _ W (RdE.below HP.out hW (Nat.le_refl _)) (by omega) (by intro e; rw [e] at hkl; simp at hkl))
   refine wp_region_at 8 #[false, false, false, false, false, false, false, false] rfl rfl (by kernel_rfl) ?_
   have HBv : Hid (Below w.heap.size w (W3.drewN n4).drew) := (below_drewN HB3.out n4).drew
   have HXv : Hid ((W3.drewN n4).drew.heap[g]? = some (.cells #[.int .i64 fmt, .slice (some ⟨b, o, none⟩) ps.length c] 41)) := HX3.out
   have HYv : Hid ((W3.drewN n4).drew.heap[g + 1]? = some (.cells #[.int .i64 0, .slice none 0 0] 41)) := HY3.out
   clear HB HX HY HF HB1 HX1 HY1 HF1 HG1 HR2 HG2 HB2 HX2 HY2 HG3 HR3 HB3 HX3 HY3 CD CR CN CSM x0 x1
   generalize (W3.drewN n4).drew = V0 at HBv HXv HYv ⊢
   have HB0 := HBv
   have HX0 := HXv
   have HY0 := HYv
   clear HBv HXv HYv
   refine zzA 0 (.pointer (some ⟨g, 0, none⟩)) (some 135) rfl (fun _ => ex_fieldAddr 41 _ 0 (.pointer (some ⟨g, 0, none⟩)) _ rfl (by kernel_rfl) (by go_simp)) ?_
   refine zzA 2 (.pointer (some ⟨g, 1, none⟩)) (some 137) rfl (fun _ => ex_fieldAddr 41 _ 1 (.pointer (some ⟨g, 0, none⟩)) _ rfl (by kernel_rfl) (by go_simp)) ?_
   simp only [Act.put, List.setIfInBounds_toArray, List.set_cons_zero, List.set_cons_succ]
   refine wpAny_ops3 1 3 6 (by kernel_rfl) rfl rfl rfl (by kernel_rfl) (by kernel_rfl) (by kernel_rfl) ?_ ?_ ?_
   refine wp_of_val (v := .int .i64 fmt) (ex_load 3 _ (.pointer (some ⟨g, 0, none⟩)) _ rfl (by kernel_rfl) (ldT_int (bx2 HX0.out).1)) ?_
   simp only [Act.put, List.setIfInBounds_toArray, List.set_cons_zero, List.set_cons_succ]
   refine wpAny_two 3 6 (by kernel_rfl) rfl rfl (by kernel_rfl) (by kernel_rfl) ?_ ?_
   refine wp_of_val (v := .slice (some ⟨b, o, none⟩) ps.length c) (ex_load 39 _ (.pointer (some ⟨g, 1, none⟩)) _ rfl (by kernel_rfl) (ldT_parts (bx2 HX0.out).2.1)) ?_
   simp only [Act.put, List.setIfInBounds_toArray, List.set_cons_zero, List.set_cons_succ]
   refine wpAny_two 4 6 (by kernel_rfl) rfl rfl (by kernel_rfl) (by kernel_rfl) ?_ ?_
   refine wp_of_call (ex_call1 (.tmp 138) _ (.slice (some ⟨b, o, none⟩) ps.length c) rfl (by kernel_rfl) (enters_of Tryz.func72 (by kernel_rfl) rfl _ _)) (CLO.out V0 HB0.out) ?_
   rintro e V1 ⟨v9, rfl, ho, hb⟩
   obtain ⟨A9, c9, rfl⟩ := own_shape ho
   have HB1 := Lib.hid (HB0.out.trans (hb.mono HB0.out.size))
   have HX1 := Lib.hid (heap_step HX0.out hb)
   have HY1 := Lib.hid (heap_step HY0.out hb)
   have HO1 := Lib.hid (own_base ho HB0.out.size)
   clear ho hb
   refine ⟨.slice A9 ps.length c9, rfl, ?_⟩
   simp only [Act.put, List.setIfInBounds_toArray, List.set_cons_zero, List.set_cons_succ]
   refine zzA 5 (.agg #[.int .i64 fmt, .slice A9 ps.length c9]) (some 140) rfl (fun _ => ex_buildD (.tmp 136) (.tmp 139) fmt A9 ps.length c9 rfl (by kernel_rfl) (by kernel_rfl)) ?_
   simp only [Act.put, List.setIfInBounds_toArray, List.set_cons_zero, List.set_cons_succ]
   refine wpAny_only 6 (by kernel_rfl) rfl (by kernel_rfl) ?_
   refine wp_of_valw (ex_allocD rfl) ?_
   have hal := (Below.refl V1.heap.size V1).alloc (Nat.le_refl _) (.cells #[.int .i64 0, .slice none 0 0] 41)
   have HB2 := Lib.hid (HB1.out.trans (hal.mono HB1.out.size))
   have HX2 := Lib.hid (heap_step HX1.out hal)
   have HY2 := Lib.hid (heap_step HY1.out hal)
   have HO2 := Lib.hid (own_step HO1.out hal)
   have HG2 : Hid ((V1.alloc (.cells #[.int .i64 0, .slice none 0 0] 41)).heap[V1.heap.size]? = some (.cells #[.int .i64 0, .slice none 0 0] 41)) := heap_alloc_new V1 _
   have hg3 : g < V1.heap.size := heap_lt HX1.out
   have hg4 : g + 1 < V1.heap.size := heap_lt HY1.out
   clear hal
   generalize V1.heap.size = g3 at HG2 hg3 hg4 ⊢
   generalize V1.alloc (.cells #[.int .i64 0, .slice none 0 0] 41) = V2 at HB2 HX2 HY2 HG2 HO2 ⊢
   simp only [Act.put, List.setIfInBounds_toArray, List.set_cons_zero, List.set_cons_succ]
   refine wpAny_only 7 (by kernel_rfl) rfl (by kernel_rfl) ?_
   refine wp_storeD (.tmp 23) (.tmp 140) rfl rfl g3 fmt A9 ps.length c9 (by kernel_rfl) (by kernel_rfl) HG2.out ?_
   have HB3 := Lib.hid ((HB2.out.setCell (p := ⟨g3, 0, none⟩) (Nat.le_trans hgw (Nat.le_of_lt hg3)) (.int .i64 fmt)).setCell (p := ⟨g3, 1, none⟩) (Nat.le_trans hgw (Nat.le_of_lt hg3)) (.slice A9 ps.length c9))
   have HX3 := Lib.hid ((storeD_out (u0 := .int .i64 fmt) (u1 := .slice A9 ps.length c9) (Nat.ne_of_lt hg3)).trans HX2.out)
   have HY3 := Lib.hid ((storeD_out (u0 := .int .i64 fmt) (u1 := .slice A9 ps.length c9) (Nat.ne_of_lt hg4)).trans HY2.out)
   have HG3 := Lib.hid (storeD_at (u0 := .int .i64 fmt) (u1 := .slice A9 ps.length c9) HG2.out)
   have HO3 := Lib.hid (own_same (w' := (V2.setCell ⟨g3, 0, none⟩ (.int .i64 fmt)).setCell ⟨g3, 1, none⟩ (.slice A9 ps.length c9)) HO2.out fun j hj => storeD_out (fun e => own_apart HO2.out HG2.out (by decide) j hj e))
   generalize (V2.setCell ⟨g3, 0, none⟩ (.int .i64 fmt)).setCell ⟨g3, 1, none⟩ (.slice A9 ps.length c9) = V3 at HB3 HX3 HY3 HG3 HO3 ⊢
   simp only [Act.put, List.setIfInBounds_toArray, List.set_cons_zero, List.set_cons_succ]
   refine wpAny_done (by kernel_rfl) ?_ _
   clear HB0 HX0 HY0 HB1 HX1 HY1 HB2 HX2 HY2
   rename Hid (Below w.heap.size w V3) => HBZ
   rename Hid (V3.heap[g]? = _) => HXZ
   rename Hid (V3.heap[g + 1]? = _) => HYZ
   rename Hid (V3.heap[g3]? = _) => HGZ
   rename Hid (OwnE _ _ _ V3 _ _ _) => HOZ
   generalize V3 = V at *
   rotate_left 1
   refine wp_of_valw (ex_allocD rfl) ?_
   have hal := (Below.refl V0.heap.size V0).alloc (Nat.le_refl _) (.cells #[.int .i64 0, .slice none 0 0] 41)
   have HB1 := Lib.hid (HB0.out.trans (hal.mono HB0.out.size))
   have HX1 := Lib.hid (heap_step HX0.out hal)
   have HY1 := Lib.hid (heap_step HY0.out hal)
   have HG1 : Hid ((V0.alloc (.cells #[.int .i64 0, .slice none 0 0] 41)).heap[V0.heap.size]? = some (.cells #[.int .i64 0, .slice none 0 0] 41)) := heap_alloc_new V0 _
   have hg3 : g < V0.heap.size := heap_lt HX0.out
   have hg4 : g + 1 < V0.heap.size := heap_lt HY0.out
   clear hal
   generalize V0.heap.size = g3 at HG1 hg3 hg4 ⊢
   generalize V0.alloc (.cells #[.int .i64 0, .slice none 0 0] 41) = V1 at HB1 HX1 HY1 HG1 ⊢
   simp only [Act.put, List.setIfInBounds_toArray, List.set_cons_zero, List.set_cons_succ]
   refine wpAny_only 4 (by kernel_rfl) rfl (by kernel_rfl) ?_
   refine wp_of_call (ex_call1 (.tmp 138) _ (.slice (some ⟨b, o, none⟩) ps.length c) rfl (by kernel_rfl) (enters_of Tryz.func72 (by kernel_rfl) rfl _ _)) (CLO.out V1 HB1.out) ?_
   rintro e V2 ⟨v9, rfl, ho, hb⟩
   obtain ⟨A9, c9, rfl⟩ := own_shape ho
   have HB2 := Lib.hid (HB1.out.trans (hb.mono HB1.out.size))
   have HX2 := Lib.hid (heap_step HX1.out hb)
   have HY2 := Lib.hid (heap_step HY1.out hb)
   have HG2 := Lib.hid (heap_step HG1.out hb)
   have HO2 := Lib.hid (own_base ho HB1.out.size)
   clear ho hb
   refine ⟨.slice A9 ps.length c9, rfl, ?_⟩
   simp only [Act.put, List.setIfInBounds_toArray, List.set_cons_zero, List.set_cons_succ]
   refine zzA 5 (.agg #[.int .i64 fmt, .slice A9 ps.length c9]) (some 140) rfl (fun _ => ex_buildD (.tmp 136) (.tmp 139) fmt A9 ps.length c9 rfl (by kernel_rfl) (by kernel_rfl)) ?_
   simp only [Act.put, List.setIfInBounds_toArray, List.set_cons_zero, List.set_cons_succ]
   refine wpAny_only 7 (by kernel_rfl) rfl (by kernel_rfl) ?_
   refine wp_storeD (.tmp 23) (.tmp 140) rfl rfl g3 fmt A9 ps.length c9 (by kernel_rfl) (by kernel_rfl) HG2.out ?_
   have HB3 := Lib.hid ((HB2.out.setCell (p := ⟨g3, 0, none⟩) (Nat.le_trans hgw (Nat.le_of_lt hg3)) (.int .i64 fmt)).setCell (p := ⟨g3, 1, none⟩) (Nat.le_trans hgw (Nat.le_of_lt hg3)) (.slice A9 ps.length c9))
   have HX3 := Lib.hid ((storeD_out (u0 := .int .i64 fmt) (u1 := .slice A9 ps.length c9) (Nat.ne_of_lt hg3)).trans HX2.out)
   have HY3 := Lib.hid ((storeD_out (u0 := .int .i64 fmt) (u1 := .slice A9 ps.length c9) (Nat.ne_of_lt hg4)).trans HY2.out)
   have HG3 := Lib.hid (storeD_at (u0 := .int .i64 fmt) (u1 := .slice A9 ps.length c9) HG2.out)
   have HO3 := Lib.hid (own_same (w' := (V2.setCell ⟨g3, 0, none⟩ (.int .i64 fmt)).setCell ⟨g3, 1, none⟩ (.slice A9 ps.length c9)) HO2.out fun j hj => storeD_out (fun e => own_apart HO2.out HG2.out (by decide) j hj e))
   generalize (V2.setCell ⟨g3, 0, none⟩ (.int .i64 fmt)).setCell ⟨g3, 1, none⟩ (.slice A9 ps.length c9) = V3 at HB3 HX3 HY3 HG3 HO3 ⊢
   simp only [Act.put, List.setIfInBounds_toArray, List.set_cons_zero, List.set_cons_succ]
   refine wpAny_done (by kernel_rfl) ?_ _
   clear HB0 HX0 HY0 HB1 HX1 HY1 HB2 HX2 HY2
   rename Hid (Below w.heap.size w V3) => HBZ
   rename Hid (V3.heap[g]? = _) => HXZ
   rename Hid (V3.heap[g + 1]? = _) => HYZ
   rename Hid (V3.heap[g3]? = _) => HGZ
   rename Hid (OwnE _ _ _ V3 _ _ _) => HOZ
   generalize V3 = V at *
   rotate_left 1
   refine wp_of_valw (ex_allocD rfl) ?_
   have hal := (Below.refl V0.heap.size V0).alloc (Nat.le_refl _) (.cells #[.int .i64 0, .slice none 0 0] 41)
   have HB1 := Lib.hid (HB0.out.trans (hal.mono HB0.out.size))
   have HX1 := Lib.hid (heap_step HX0.out hal)
   have HY1 := Lib.hid (heap_step HY0.out hal)
   have HG1 : Hid ((V0.alloc (.cells #[.int .i64 0, .slice none 0 0] 41)).heap[V0.heap.size]? = some (.cells #[.int .i64 0, .slice none 0 0] 41)) := heap_alloc_new V0 _
   have hg3 : g < V0.heap.size := heap_lt HX0.out
   have hg4 : g + 1 < V0.heap.size := heap_lt HY0.out
   clear hal
   generalize V0.heap.size = g3 at HG1 hg3 hg4 ⊢
   generalize V0.alloc (.cells #[.int .i64 0, .slice none 0 0] 41) = V1 at HB1 HX1 HY1 HG1 ⊢
   simp only [Act.put, List.setIfInBounds_toArray, List.set_cons_zero, List.set_cons_succ]
   refine wpAny_only 3 (by kernel_rfl) rfl (by kernel_rfl) ?_
   refine wp_of_val (v := .slice (some ⟨b, o, none⟩) ps.length c) (ex_load 39 _ (.pointer (some ⟨g, 1, none⟩)) _ rfl (by kernel_rfl) (ldT_parts (bx2 HX1.out).2.1)) ?_
   simp only [Act.put, List.setIfInBounds_toArray, List.set_cons_zero, List.set_cons_succ]
   refine wpAny_only 4 (by kernel_rfl) rfl (by kernel_rfl) ?_
   refine wp_of_call (ex_call1 (.tmp 138) _ (.slice (some ⟨b, o, none⟩) ps.length c) rfl (by kernel_rfl) (enters_of Tryz.func72 (by kernel_rfl) rfl _ _)) (CLO.out V1 HB1.out) ?_
   rintro e V2 ⟨v9, rfl, ho, hb⟩
   obtain ⟨A9, c9, rfl⟩ := own_shape ho
   have HB2 := Lib.hid (HB1.out.trans (hb.mono HB1.out.size))
   have HX2 := Lib.hid (heap_step HX1.out hb)
   have HY2 := Lib.hid (heap_step HY1.out hb)
   have HG2 := Lib.hid (heap_step HG1.out hb)
   have HO2 := Lib.hid (own_base ho HB1.out.size)
   clear ho hb
   refine ⟨.slice A9 ps.length c9, rfl, ?_⟩
   simp only [Act.put, List.setIfInBounds_toArray, List.set_cons_zero, List.set_cons_succ]
   refine zzA 5 (.agg #[.int .i64 fmt, .slice A9 ps.length c9]) (some 140) rfl (fun _ => ex_buildD (.tmp 136) (.tmp 139) fmt A9 ps.length c9 rfl (by kernel_rfl) (by kernel_rfl)) ?_
   simp only [Act.put, List.setIfInBounds_toArray, List.set_cons_zero, List.set_cons_succ]
   refine wpAny_only 7 (by kernel_rfl) rfl (by kernel_rfl) ?_
   refine wp_storeD (.tmp 23) (.tmp 140) rfl rfl g3 fmt A9 ps.length c9 (by kernel_rfl) (by kernel_rfl) HG2.out ?_
   have HB3 := Lib.hid ((HB2.out.setCell (p := ⟨g3, 0, none⟩) (Nat.le_trans hgw (Nat.le_of_lt hg3)) (.int .i64 fmt)).setCell (p := ⟨g3, 1, none⟩) (Nat.le_trans hgw (Nat.le_of_lt hg3)) (.slice A9 ps.length c9))
   have HX3 := Lib.hid ((storeD_out (u0 := .int .i64 fmt) (u1 := .slice A9 ps.length c9) (Nat.ne_of_lt hg3)).trans HX2.out)
   have HY3 := Lib.hid ((storeD_out (u0 := .int .i64 fmt) (u1 := .slice A9 ps.length c9) (Nat.ne_of_lt hg4)).trans HY2.out)
   have HG3 := Lib.hid (storeD_at (u0 := .int .i64 fmt) (u1 := .slice A9 ps.length c9) HG2.out)
   have HO3 := Lib.hid (own_same (w' := (V2.setCell ⟨g3, 0, none⟩ (.int .i64 fmt)).setCell ⟨g3, 1, none⟩ (.slice A9 ps.length c9)) HO2.out fun j hj => storeD_out (fun e => own_apart HO2.out HG2.out (by decide) j hj e))
   generalize (V2.setCell ⟨g3, 0, none⟩ (.int .i64 fmt)).setCell ⟨g3, 1, none⟩ (.slice A9 ps.length c9) = V3 at HB3 HX3 HY3 HG3 HO3 ⊢
   simp only [Act.put, List.setIfInBounds_toArray, List.set_cons_zero, List.set_cons_succ]
   refine wpAny_done (by kernel_rfl) ?_ _
   clear HB0 HX0 HY0 HB1 HX1 HY1 HB2 HX2 HY2
   rename Hid (Below w.heap.size w V3) => HBZ
   rename Hid (V3.heap[g]? = _) => HXZ
   rename Hid (V3.heap[g + 1]? = _) => HYZ
   rename Hid (V3.heap[g3]? = _) => HGZ
   rename Hid (OwnE _ _ _ V3 _ _ _) => HOZ
   generalize V3 = V at *
   rotate_left 1
   refine wp_of_val (v := .slice (some ⟨b, o, none⟩) ps.length c) (ex_load 39 _ (.pointer (some ⟨g, 1, none⟩)) _ rfl (by kernel_rfl) (ldT_parts (bx2 HX0.out).2.1)) ?_
   simp only [Act.put, List.setIfInBounds_toArray, List.set_cons_zero, List.set_cons_succ]
   refine wpAny_ops3 1 4 6 (by kernel_rfl) rfl rfl rfl (by kernel_rfl) (by kernel_rfl) (by kernel_rfl) ?_ ?_ ?_
   refine wp_of_val (v := .int .i64 fmt) (ex_load 3 _ (.pointer (some ⟨g, 0, none⟩)) _ rfl (by kernel_rfl) (ldT_int (bx2 HX0.out).1)) ?_
   simp only [Act.put, List.setIfInBounds_toArray, List.set_cons_zero, List.set_cons_succ]
   refine wpAny_two 4 6 (by kernel_rfl) rfl rfl (by kernel_rfl) (by kernel_rfl) ?_ ?_
   refine wp_of_call (ex_call1 (.tmp 138) _ (.slice (some ⟨b, o, none⟩) ps.length c) rfl (by kernel_rfl) (enters_of Tryz.func72 (by kernel_rfl) rfl _ _)) (CLO.out V0 HB0.out) ?_
   rintro e V1 ⟨v9, rfl, ho, hb⟩
   obtain ⟨A9, c9, rfl⟩ := own_shape ho
   have HB1 := Lib.hid (HB0.out.trans (hb.mono HB0.out.size))
   have HX1 := Lib.hid (heap_step HX0.out hb)
   have HY1 := Lib.hid (heap_step HY0.out hb)
   have HO1 := Lib.hid (own_base ho HB0.out.size)
   clear ho hb
   refine ⟨.slice A9 ps.length c9, rfl, ?_⟩
   simp only [Act.put, List.setIfInBounds_toArray, List.set_cons_zero, List.set_cons_succ]
   refine zzA 5 (.agg #[.int .i64 fmt, .slice A9 ps.length c9]) (some 140) rfl (fun _ => ex_buildD (.tmp 136) (.tmp 139) fmt A9 ps.length c9 rfl (by kernel_rfl) (by kernel_rfl)) ?_
   simp only [Act.put, List.setIfInBounds_toArray, List.set_cons_zero, List.set_cons_succ]
   refine wpAny_only 6 (by kernel_rfl) rfl (by kernel_rfl) ?_
   refine wp_of_valw (ex_allocD rfl) ?_
   have hal := (Below.refl V1.heap.size V1).alloc (Nat.le_refl _) (.cells #[.int .i64 0, .slice none 0 0] 41)
   have HB2 := Lib.hid (HB1.out.trans (hal.mono HB1.out.size))
   have HX2 := Lib.hid (heap_step HX1.out hal)
   have HY2 := Lib.hid (heap_step HY1.out hal)
   have HO2 := Lib.hid (own_step HO1.out hal)
   have HG2 : Hid ((V1.alloc (.cells #[.int .i64 0, .slice none 0 0] 41)).heap[V1.heap.size]? = some (.cells #[.int .i64 0, .slice none 0 0] 41)) := heap_alloc_new V1 _
   have hg3 : g < V1.heap.size := heap_lt HX1.out
   have hg4 : g + 1 < V1.heap.size := heap_lt HY1.out
   clear hal
   generalize V1.heap.size = g3 at HG2 hg3 hg4 ⊢
   generalize V1.alloc (.cells #[.int .i64 0, .slice none 0 0] 41) = V2 at HB2 HX2 HY2 HG2 HO2 ⊢
   simp only [Act.put, List.setIfInBounds_toArray, List.set_cons_zero, List.set_cons_succ]
   refine wpAny_only 7 (by kernel_rfl) rfl (by kernel_rfl) ?_
   refine wp_storeD (.tmp 23) (.tmp 140) rfl rfl g3 fmt A9 ps.length c9 (by kernel_rfl) (by kernel_rfl) HG2.out ?_
   have HB3 := Lib.hid ((HB2.out.setCell (p := ⟨g3, 0, none⟩) (Nat.le_trans hgw (Nat.le_of_lt hg3)) (.int .i64 fmt)).setCell (p := ⟨g3, 1, none⟩) (Nat.le_trans hgw (Nat.le_of_lt hg3)) (.slice A9 ps.length c9))
   have HX3 := Lib.hid ((storeD_out (u0 := .int .i64 fmt) (u1 := .slice A9 ps.length c9) (Nat.ne_of_lt hg3)).trans HX2.out)
   have HY3 := Lib.hid ((storeD_out (u0 := .int .i64 fmt) (u1 := .slice A9 ps.length c9) (Nat.ne_of_lt hg4)).trans HY2.out)
   have HG3 := Lib.hid (storeD_at (u0 := .int .i64 fmt) (u1 := .slice A9 ps.length c9) HG2.out)
   have HO3 := Lib.hid (own_same (w' := (V2.setCell ⟨g3, 0, none⟩ (.int .i64 fmt)).setCell ⟨g3, 1, none⟩ (.slice A9 ps.length c9)) HO2.out fun j hj => storeD_out (fun e => own_apart HO2.out HG2.out (by decide) j hj e))
   generalize (V2.setCell ⟨g3, 0, none⟩ (.int .i64 fmt)).setCell ⟨g3, 1, none⟩ (.slice A9 ps.length c9) = V3 at HB3 HX3 HY3 HG3 HO3 ⊢
   simp only [Act.put, List.setIfInBounds_toArray, List.set_cons_zero, List.set_cons_succ]
   refine wpAny_done (by kernel_rfl) ?_ _
   clear HB0 HX0 HY0 HB1 HX1 HY1 HB2 HX2 HY2
   rename Hid (Below w.heap.size w V3) => HBZ
   rename Hid (V3.heap[g]? = _) => HXZ
   rename Hid (V3.heap[g + 1]? = _) => HYZ
   rename Hid (V3.heap[g3]? = _) => HGZ
   rename Hid (OwnE _ _ _ V3 _ _ _) => HOZ
   generalize V3 = V at *
   rotate_left 1
   refine wp_of_valw (ex_allocD rfl) ?_
   have hal := (Below.refl V0.heap.size V0).alloc (Nat.le_refl _) (.cells #[.int .i64 0, .slice none 0 0] 41)
   have HB1 := Lib.hid (HB0.out.trans (hal.mono HB0.out.size))
   have HX1 := Lib.hid (heap_step HX0.out hal)
   have HY1 := Lib.hid (heap_step HY0.out hal)
   have HG1 : Hid ((V0.alloc (.cells #[.int .i64 0, .slice none 0 0] 41)).heap[V0.heap.size]? = some (.cells #[.int .i64 0, .slice none 0 0] 41)) := heap_alloc_new V0 _
   have hg3 : g < V0.heap.size := heap_lt HX0.out
   have hg4 : g + 1 < V0.heap.size := heap_lt HY0.out
   clear hal
   generalize V0.heap.size = g3 at HG1 hg3 hg4 ⊢
   generalize V0.alloc (.cells #[.int .i64 0, .slice none 0 0] 41) = V1 at HB1 HX1 HY1 HG1 ⊢
   simp only [Act.put, List.setIfInBounds_toArray, List.set_cons_zero, List.set_cons_succ]
   refine wpAny_only 4 (by kernel_rfl) rfl (by kernel_rfl) ?_
   refine wp_of_call (ex_call1 (.tmp 138) _ (.slice (some ⟨b, o, none⟩) ps.length c) rfl (by kernel_rfl) (enters_of Tryz.func72 (by kernel_rfl) rfl _ _)) (CLO.out V1 HB1.out) ?_
   rintro e V2 ⟨v9, rfl, ho, hb⟩
   obtain ⟨A9, c9, rfl⟩ := own_shape ho
   have HB2 := Lib.hid (HB1.out.trans (hb.mono HB1.out.size))
   have HX2 := Lib.hid (heap_step HX1.out hb)
   have HY2 := Lib.hid (heap_step HY1.out hb)
   have HG2 := Lib.hid (heap_step HG1.out hb)
   have HO2 := Lib.hid (own_base ho HB1.out.size)
   clear ho hb
   refine ⟨.slice A9 ps.length c9, rfl, ?_⟩
   simp only [Act.put, List.setIfInBounds_toArray, List.set_cons_zero, List.set_cons_succ]
   refine zzA 5 (.agg #[.int .i64 fmt, .slice A9 ps.length c9]) (some 140) rfl (fun _ => ex_buildD (.tmp 136) (.tmp 139) fmt A9 ps.length c9 rfl (by kernel_rfl) (by kernel_rfl)) ?_
   simp only [Act.put, List.setIfInBounds_toArray, List.set_cons_zero, List.set_cons_succ]
   refine wpAny_only 7 (by kernel_rfl) rfl (by kernel_rfl) ?_
   refine wp_storeD (.tmp 23) (.tmp 140) rfl rfl g3 fmt A9 ps.length c9 (by kernel_rfl) (by kernel_rfl) HG2.out ?_
   have HB3 := Lib.hid ((HB2.out.setCell (p := ⟨g3, 0, none⟩) (Nat.le_trans hgw (Nat.le_of_lt hg3)) (.int .i64 fmt)).setCell (p := ⟨g3, 1, none⟩) (Nat.le_trans hgw (Nat.le_of_lt hg3)) (.slice A9 ps.length c9))
   have HX3 := Lib.hid ((storeD_out (u0 := .int .i64 fmt) (u1 := .slice A9 ps.length c9) (Nat.ne_of_lt hg3)).trans HX2.out)
   have HY3 := Lib.hid ((storeD_out (u0 := .int .i64 fmt) (u1 := .slice A9 ps.length c9) (Nat.ne_of_lt hg4)).trans HY2.out)
   have HG3 := Lib.hid (storeD_at (u0 := .int .i64 fmt) (u1 := .slice A9 ps.length c9) HG2.out)
   have HO3 := Lib.hid (own_same (w' := (V2.setCell ⟨g3, 0, none⟩ (.int .i64 fmt)).setCell ⟨g3, 1, none⟩ (.slice A9 ps.length c9)) HO2.out fun j hj => storeD_out (fun e => own_apart HO2.out HG2.out (by decide) j hj e))
   generalize (V2.setCell ⟨g3, 0, none⟩ (.int .i64 fmt)).setCell ⟨g3, 1, none⟩ (.slice A9 ps.length c9) = V3 at HB3 HX3 HY3 HG3 HO3 ⊢
   simp only [Act.put, List.setIfInBounds_toArray, List.set_cons_zero, List.set_cons_succ]
   refine wpAny_done (by kernel_rfl) ?_ _
   clear HB0 HX0 HY0 HB1 HX1 HY1 HB2 HX2 HY2
   rename Hid (Below w.heap.size w V3) => HBZ
   rename Hid (V3.heap[g]? = _) => HXZ
   rename Hid (V3.heap[g + 1]? = _) => HYZ
   rename Hid (V3.heap[g3]? = _) => HGZ
   rename Hid (OwnE _ _ _ V3 _ _ _) => HOZ
   generalize V3 = V at *
   rotate_left 1
   refine wp_of_call (ex_call1 (.tmp 138) _ (.slice (some ⟨b, o, none⟩) ps.length c) rfl (by kernel_rfl) (enters_of Tryz.func72 (by kernel_rfl) rfl _ _)) (CLO.out V0 HB0.out) ?_
   rintro e V1 ⟨v9, rfl, ho, hb⟩
   obtain ⟨A9, c9, rfl⟩ := own_shape ho
   have HB1 := Lib.hid (HB0.out.trans (hb.mono HB0.out.size))
   have HX1 := Lib.hid (heap_step HX0.out hb)
   have HY1 := Lib.hid (heap_step HY0.out hb)
   have HO1 := Lib.hid (own_base ho HB0.out.size)
   clear ho hb
   refine ⟨.slice A9 ps.length c9, rfl, ?_⟩
   simp only [Act.put, List.setIfInBounds_toArray, List.set_cons_zero, List.set_cons_succ]
   refine wpAny_two 1 6 (by kernel_rfl) rfl rfl (by kernel_rfl) (by kernel_rfl) ?_ ?_
   refine wp_of_val (v := .int .i64 fmt) (ex_load 3 _ (.pointer (some ⟨g, 0, none⟩)) _ rfl (by kernel_rfl) (ldT_int (bx2 HX1.out).1)) ?_
   simp only [Act.put, List.setIfInBounds_toArray, List.set_cons_zero, List.set_cons_succ]
   refine zzA 5 (.agg #[.int .i64 fmt, .slice A9 ps.length c9]) (some 140) rfl (fun _ => ex_buildD (.tmp 136) (.tmp 139) fmt A9 ps.length c9 rfl (by kernel_rfl) (by kernel_rfl)) ?_
   simp only [Act.put, List.setIfInBounds_toArray, List.set_cons_zero, List.set_cons_succ]
   refine wpAny_only 6 (by kernel_rfl) rfl (by kernel_rfl) ?_
   refine wp_of_valw (ex_allocD rfl) ?_
   have hal := (Below.refl V1.heap.size V1).alloc (Nat.le_refl _) (.cells #[.int .i64 0, .slice none 0 0] 41)
   have HB2 := Lib.hid (HB1.out.trans (hal.mono HB1.out.size))
   have HX2 := Lib.hid (heap_step HX1.out hal)
   have HY2 := Lib.hid (heap_step HY1.out hal)
   have HO2 := Lib.hid (own_step HO1.out hal)
   have HG2 : Hid ((V1.alloc (.cells #[.int .i64 0, .slice none 0 0] 41)).heap[V1.heap.size]? = some (.cells #[.int .i64 0, .slice none 0 0] 41)) := heap_alloc_new V1 _
   have hg3 : g < V1.heap.size := heap_lt HX1.out
   have hg4 : g + 1 < V1.heap.size := heap_lt HY1.out
   clear hal
   generalize V1.heap.size = g3 at HG2 hg3 hg4 ⊢
   generalize V1.alloc (.cells #[.int .i64 0, .slice none 0 0] 41) = V2 at HB2 HX2 HY2 HG2 HO2 ⊢
   simp only [Act.put, List.setIfInBounds_toArray, List.set_cons_zero, List.set_cons_succ]
   refine wpAny_only 7 (by kernel_rfl) rfl (by kernel_rfl) ?_
   refine wp_storeD (.tmp 23) (.tmp 140) rfl rfl g3 fmt A9 ps.length c9 (by kernel_rfl) (by kernel_rfl) HG2.out ?_
   have HB3 := Lib.hid ((HB2.out.setCell (p := ⟨g3, 0, none⟩) (Nat.le_trans hgw (Nat.le_of_lt hg3)) (.int .i64 fmt)).setCell (p := ⟨g3, 1, none⟩) (Nat.le_trans hgw (Nat.le_of_lt hg3)) (.slice A9 ps.length c9))
   have HX3 := Lib.hid ((storeD_out (u0 := .int .i64 fmt) (u1 := .slice A9 ps.length c9) (Nat.ne_of_lt hg3)).trans HX2.out)
   have HY3 := Lib.hid ((storeD_out (u0 := .int .i64 fmt) (u1 := .slice A9 ps.length c9) (Nat.ne_of_lt hg4)).trans HY2.out)
   have HG3 := Lib.hid (storeD_at (u0 := .int .i64 fmt) (u1 := .slice A9 ps.length c9) HG2.out)
   have HO3 := Lib.hid (own_same (w' := (V2.setCell ⟨g3, 0, none⟩ (.int .i64 fmt)).setCell ⟨g3, 1, none⟩ (.slice A9 ps.length c9)) HO2.out fun j hj => storeD_out (fun e => own_apart HO2.out HG2.out (by decide) j hj e))
   generalize (V2.setCell ⟨g3, 0, none⟩ (.int .i64 fmt)).setCell ⟨g3, 1, none⟩ (.slice A9 ps.length c9) = V3 at HB3 HX3 HY3 HG3 HO3 ⊢
   simp only [Act.put, List.setIfInBounds_toArray, List.set_cons_zero, List.set_cons_succ]
   refine wpAny_done (by kernel_rfl) ?_ _
   clear HB0 HX0 HY0 HB1 HX1 HY1 HB2 HX2 HY2
   rename Hid (Below w.heap.size w V3) => HBZ
   rename Hid (V3.heap[g]? = _) => HXZ
   rename Hid (V3.heap[g + 1]? = _) => HYZ
   rename Hid (V3.heap[g3]? = _) => HGZ
   rename Hid (OwnE _ _ _ V3 _ _ _) => HOZ
   generalize V3 = V at *
   rotate_left 1
   refine wp_of_valw (ex_allocD rfl) ?_
   have hal := (Below.refl V1.heap.size V1).alloc (Nat.le_refl _) (.cells #[.int .i64 0, .slice none 0 0] 41)
   have HB2 := Lib.hid (HB1.out.trans (hal.mono HB1.out.size))
   have HX2 := Lib.hid (heap_step HX1.out hal)
   have HY2 := Lib.hid (heap_step HY1.out hal)
   have HO2 := Lib.hid (own_step HO1.out hal)
   have HG2 : Hid ((V1.alloc (.cells #[.int .i64 0, .slice none 0 0] 41)).heap[V1.heap.size]? = some (.cells #[.int .i64 0, .slice none 0 0] 41)) := heap_alloc_new V1 _
   have hg3 : g < V1.heap.size := heap_lt HX1.out
   have hg4 : g + 1 < V1.heap.size := heap_lt HY1.out
   clear hal
   generalize V1.heap.size = g3 at HG2 hg3 hg4 ⊢
   generalize V1.alloc (.cells #[.int .i64 0, .slice none 0 0] 41) = V2 at HB2 HX2 HY2 HG2 HO2 ⊢
   simp only [Act.put, List.setIfInBounds_toArray, List.set_cons_zero, List.set_cons_succ]
   refine wpAny_only 1 (by kernel_rfl) rfl (by kernel_rfl) ?_
   refine wp_of_val (v := .int .i64 fmt) (ex_load 3 _ (.pointer (some ⟨g, 0, none⟩)) _ rfl (by kernel_rfl) (ldT_int (bx2 HX2.out).1)) ?_
   simp only [Act.put, List.setIfInBounds_toArray, List.set_cons_zero, List.set_cons_succ]
   refine zzA 5 (.agg #[.int .i64 fmt, .slice A9 ps.length c9]) (some 140) rfl (fun _ => ex_buildD (.tmp 136) (.tmp 139) fmt A9 ps.length c9 rfl (by kernel_rfl) (by kernel_rfl)) ?_
   simp only [Act.put, List.setIfInBounds_toArray, List.set_cons_zero, List.set_cons_succ]
   refine wpAny_only 7 (by kernel_rfl) rfl (by kernel_rfl) ?_
   refine wp_storeD (.tmp 23) (.tmp 140) rfl rfl g3 fmt A9 ps.length c9 (by kernel_rfl) (by kernel_rfl) HG2.out ?_
   have HB3 := Lib.hid ((HB2.out.setCell (p := ⟨g3, 0, none⟩) (Nat.le_trans hgw (Nat.le_of_lt hg3)) (.int .i64 fmt)).setCell (p := ⟨g3, 1, none⟩) (Nat.le_trans hgw (Nat.le_of_lt hg3)) (.slice A9 ps.length c9))
   have HX3 := Lib.hid ((storeD_out (u0 := .int .i64 fmt) (u1 := .slice A9 ps.length c9) (Nat.ne_of_lt hg3)).trans HX2.out)
   have HY3 := Lib.hid ((storeD_out (u0 := .int .i64 fmt) (u1 := .slice A9 ps.length c9) (Nat.ne_of_lt hg4)).trans HY2.out)
   have HG3 := Lib.hid (storeD_at (u0 := .int .i64 fmt) (u1 := .slice A9 ps.length c9) HG2.out)
   have HO3 := Lib.hid (own_same (w' := (V2.setCell ⟨g3, 0, none⟩ (.int .i64 fmt)).setCell ⟨g3, 1, none⟩ (.slice A9 ps.length c9)) HO2.out fun j hj => storeD_out (fun e => own_apart HO2.out HG2.out (by decide) j hj e))
   generalize (V2.setCell ⟨g3, 0, none⟩ (.int .i64 fmt)).setCell ⟨g3, 1, none⟩ (.slice A9 ps.length c9) = V3 at HB3 HX3 HY3 HG3 HO3 ⊢
   simp only [Act.put, List.setIfInBounds_toArray, List.set_cons_zero, List.set_cons_succ]
   refine wpAny_done (by kernel_rfl) ?_ _
   clear HB0 HX0 HY0 HB1 HX1 HY1 HB2 HX2 HY2
   rename Hid (Below w.heap.size w V3) => HBZ
   rename Hid (V3.heap[g]? = _) => HXZ
   rename Hid (V3.heap[g + 1]? = _) => HYZ
   rename Hid (V3.heap[g3]? = _) => HGZ
   rename Hid (OwnE _ _ _ V3 _ _ _) => HOZ
   generalize V3 = V at *
   rotate_left 1
   refine wp_of_valw (ex_allocD rfl) ?_
   have hal := (Below.refl V0.heap.size V0).alloc (Nat.le_refl _) (.cells #[.int .i64 0, .slice none 0 0] 41)
   have HB1 := Lib.hid (HB0.out.trans (hal.mono HB0.out.size))
   have HX1 := Lib.hid (heap_step HX0.out hal)
   have HY1 := Lib.hid (heap_step HY0.out hal)
   have HG1 : Hid ((V0.alloc (.cells #[.int .i64 0, .slice none 0 0] 41)).heap[V0.heap.size]? = some (.cells #[.int .i64 0, .slice none 0 0] 41)) := heap_alloc_new V0 _
   have hg3 : g < V0.heap.size := heap_lt HX0.out
   have hg4 : g + 1 < V0.heap.size := heap_lt HY0.out
   clear hal
   generalize V0.heap.size = g3 at HG1 hg3 hg4 ⊢
   generalize V0.alloc (.cells #[.int .i64 0, .slice none 0 0] 41) = V1 at HB1 HX1 HY1 HG1 ⊢
   simp only [Act.put, List.setIfInBounds_toArray, List.set_cons_zero, List.set_cons_succ]
   refine wpAny_two 1 4 (by kernel_rfl) rfl rfl (by kernel_rfl) (by kernel_rfl) ?_ ?_
   refine wp_of_val (v := .int .i64 fmt) (ex_load 3 _ (.pointer (some ⟨g, 0, none⟩)) _ rfl (by kernel_rfl) (ldT_int (bx2 HX1.out).1)) ?_
   simp only [Act.put, List.setIfInBounds_toArray, List.set_cons_zero, List.set_cons_succ]
   refine wpAny_only 4 (by kernel_rfl) rfl (by kernel_rfl) ?_
   refine wp_of_call (ex_call1 (.tmp 138) _ (.slice (some ⟨b, o, none⟩) ps.length c) rfl (by kernel_rfl) (enters_of Tryz.func72 (by kernel_rfl) rfl _ _)) (CLO.out V1 HB1.out) ?_
   rintro e V2 ⟨v9, rfl, ho, hb⟩
   obtain ⟨A9, c9, rfl⟩ := own_shape ho
   have HB2 := Lib.hid (HB1.out.trans (hb.mono HB1.out.size))
   have HX2 := Lib.hid (heap_step HX1.out hb)
   have HY2 := Lib.hid (heap_step HY1.out hb)
   have HG2 := Lib.hid (heap_step HG1.out hb)
   have HO2 := Lib.hid (own_base ho HB1.out.size)
   clear ho hb
   refine ⟨.slice A9 ps.length c9, rfl, ?_⟩
   simp only [Act.put, List.setIfInBounds_toArray, List.set_cons_zero, List.set_cons_succ]
   refine zzA 5 (.agg #[.int .i64 fmt, .slice A9 ps.length c9]) (some 140) rfl (fun _ => ex_buildD (.tmp 136) (.tmp 139) fmt A9 ps.length c9 rfl (by kernel_rfl) (by kernel_rfl)) ?_
   simp only [Act.put, List.setIfInBounds_toArray, List.set_cons_zero, List.set_cons_succ]
   refine wpAny_only 7 (by kernel_rfl) rfl (by kernel_rfl) ?_
   refine wp_storeD (.tmp 23) (.tmp 140) rfl rfl g3 fmt A9 ps.length c9 (by kernel_rfl) (by kernel_rfl) HG2.out ?_
   have HB3 := Lib.hid ((HB2.out.setCell (p := ⟨g3, 0, none⟩) (Nat.le_trans hgw (Nat.le_of_lt hg3)) (.int .i64 fmt)).setCell (p := ⟨g3, 1, none⟩) (Nat.le_trans hgw (Nat.le_of_lt hg3)) (.slice A9 ps.length c9))
   have HX3 := Lib.hid ((storeD_out (u0 := .int .i64 fmt) (u1 := .slice A9 ps.length c9) (Nat.ne_of_lt hg3)).trans HX2.out)
   have HY3 := Lib.hid ((storeD_out (u0 := .int .i64 fmt) (u1 := .slice A9 ps.length c9) (Nat.ne_of_lt hg4)).trans HY2.out)
   have HG3 := Lib.hid (storeD_at (u0 := .int .i64 fmt) (u1 := .slice A9 ps.length c9) HG2.out)
   have HO3 := Lib.hid (own_same (w' := (V2.setCell ⟨g3, 0, none⟩ (.int .i64 fmt)).setCell ⟨g3, 1, none⟩ (.slice A9 ps.length c9)) HO2.out fun j hj => storeD_out (fun e => own_apart HO2.out HG2.out (by decide) j hj e))
   generalize (V2.setCell ⟨g3, 0, none⟩ (.int .i64 fmt)).setCell ⟨g3, 1, none⟩ (.slice A9 ps.length c9) = V3 at HB3 HX3 HY3 HG3 HO3 ⊢
   simp only [Act.put, List.setIfInBounds_toArray, List.set_cons_zero, List.set_cons_succ]
   refine wpAny_done (by kernel_rfl) ?_ _
   clear HB0 HX0 HY0 HB1 HX1 HY1 HB2 HX2 HY2
   rename Hid (Below w.heap.size w V3) => HBZ
   rename Hid (V3.heap[g]? = _) => HXZ
   rename Hid (V3.heap[g + 1]? = _) => HYZ
   rename Hid (V3.heap[g3]? = _) => HGZ
   rename Hid (OwnE _ _ _ V3 _ _ _) => HOZ
   generalize V3 = V at *
   rotate_left 1
   refine wp_of_call (ex_call1 (.tmp 138) _ (.slice (some ⟨b, o, none⟩) ps.length c) rfl (by kernel_rfl) (enters_of Tryz.func72 (by kernel_rfl) rfl _ _)) (CLO.out V1 HB1.out) ?_
   rintro e V2 ⟨v9, rfl, ho, hb⟩
   obtain ⟨A9, c9, rfl⟩ := own_shape ho
   have HB2 := Lib.hid (HB1.out.trans (hb.mono HB1.out.size))
   have HX2 := Lib.hid (heap_step HX1.out hb)
   have HY2 := Lib.hid (heap_step HY1.out hb)
   have HG2 := Lib.hid (heap_step HG1.out hb)
   have HO2 := Lib.hid (own_base ho HB1.out.size)
   clear ho hb
   refine ⟨.slice A9 ps.length c9, rfl, ?_⟩
   simp only [Act.put, List.setIfInBounds_toArray, List.set_cons_zero, List.set_cons_succ]
   refine wpAny_only 1 (by kernel_rfl) rfl (by kernel_rfl) ?_
   refine wp_of_val (v := .int .i64 fmt) (ex_load 3 _ (.pointer (some ⟨g, 0, none⟩)) _ rfl (by kernel_rfl) (ldT_int (bx2 HX2.out).1)) ?_
   simp only [Act.put, List.setIfInBounds_toArray, List.set_cons_zero, List.set_cons_succ]
   refine zzA 5 (.agg #[.int .i64 fmt, .slice A9 ps.length c9]) (some 140) rfl (fun _ => ex_buildD (.tmp 136) (.tmp 139) fmt A9 ps.length c9 rfl (by kernel_rfl) (by kernel_rfl)) ?_
   simp only [Act.put, List.setIfInBounds_toArray, List.set_cons_zero, List.set_cons_succ]
   refine wpAny_only 7 (by kernel_rfl) rfl (by kernel_rfl) ?_
   refine wp_storeD (.tmp 23) (.tmp 140) rfl rfl g3 fmt A9 ps.length c9 (by kernel_rfl) (by kernel_rfl) HG2.out ?_
   have HB3 := Lib.hid ((HB2.out.setCell (p := ⟨g3, 0, none⟩) (Nat.le_trans hgw (Nat.le_of_lt hg3)) (.int .i64 fmt)).setCell (p := ⟨g3, 1, none⟩) (Nat.le_trans hgw (Nat.le_of_lt hg3)) (.slice A9 ps.length c9))
   have HX3 := Lib.hid ((storeD_out (u0 := .int .i64 fmt) (u1 := .slice A9 ps.length c9) (Nat.ne_of_lt hg3)).trans HX2.out)
   have HY3 := Lib.hid ((storeD_out (u0 := .int .i64 fmt) (u1 := .slice A9 ps.length c9) (Nat.ne_of_lt hg4)).trans HY2.out)
   have HG3 := Lib.hid (storeD_at (u0 := .int .i64 fmt) (u1 := .slice A9 ps.length c9) HG2.out)
   have HO3 := Lib.hid (own_same (w' := (V2.setCell ⟨g3, 0, none⟩ (.int .i64 fmt)).setCell ⟨g3, 1, none⟩ (.slice A9 ps.length c9)) HO2.out fun j hj => storeD_out (fun e => own_apart HO2.out HG2.out (by decide) j hj e))
   generalize (V2.setCell ⟨g3, 0, none⟩ (.int .i64 fmt)).setCell ⟨g3, 1, none⟩ (.slice A9 ps.length c9) = V3 at HB3 HX3 HY3 HG3 HO3 ⊢
   simp only [Act.put, List.setIfInBounds_toArray, List.set_cons_zero, List.set_cons_succ]
   refine wpAny_done (by kernel_rfl) ?_ _
   clear HB0 HX0 HY0 HB1 HX1 HY1 HB2 HX2 HY2
   rename Hid (Below w.heap.size w V3) => HBZ
   rename Hid (V3.heap[g]? = _) => HXZ
   rename Hid (V3.heap[g + 1]? = _) => HYZ
   rename Hid (V3.heap[g3]? = _) => HGZ
   rename Hid (OwnE _ _ _ V3 _ _ _) => HOZ
   generalize V3 = V at *
   rotate_left 1
   refine wp_of_valw (ex_allocD rfl) ?_
   have hal := (Below.refl V0.heap.size V0).alloc (Nat.le_refl _) (.cells #[.int .i64 0, .slice none 0 0] 41)
   have HB1 := Lib.hid (HB0.out.trans (hal.mono HB0.out.size))
   have HX1 := Lib.hid (heap_step HX0.out hal)
   have HY1 := Lib.hid (heap_step HY0.out hal)
   have HG1 : Hid ((V0.alloc (.cells #[.int .i64 0, .slice none 0 0] 41)).heap[V0.heap.size]? = some (.cells #[.int .i64 0, .slice none 0 0] 41)) := heap_alloc_new V0 _
   have hg3 : g < V0.heap.size := heap_lt HX0.out
   have hg4 : g + 1 < V0.heap.size := heap_lt HY0.out
   clear hal
   generalize V0.heap.size = g3 at HG1 hg3 hg4 ⊢
   generalize V0.alloc (.cells #[.int .i64 0, .slice none 0 0] 41) = V1 at HB1 HX1 HY1 HG1 ⊢
   simp only [Act.put, List.setIfInBounds_toArray, List.set_cons_zero, List.set_cons_succ]
   refine wpAny_two 1 3 (by kernel_rfl) rfl rfl (by kernel_rfl) (by kernel_rfl) ?_ ?_
   refine wp_of_val (v := .int .i64 fmt) (ex_load 3 _ (.pointer (some ⟨g, 0, none⟩)) _ rfl (by kernel_rfl) (ldT_int (bx2 HX1.out).1)) ?_
   simp only [Act.put, List.setIfInBounds_toArray, List.set_cons_zero, List.set_cons_succ]
   refine wpAny_only 3 (by kernel_rfl) rfl (by kernel_rfl) ?_
   refine wp_of_val (v := .slice (some ⟨b, o, none⟩) ps.length c) (ex_load 39 _ (.pointer (some ⟨g, 1, none⟩)) _ rfl (by kernel_rfl) (ldT_parts (bx2 HX1.out).2.1)) ?_
   simp only [Act.put, List.setIfInBounds_toArray, List.set_cons_zero, List.set_cons_succ]
   refine wpAny_only 4 (by kernel_rfl) rfl (by kernel_rfl) ?_
   refine wp_of_call (ex_call1 (.tmp 138) _ (.slice (some ⟨b, o, none⟩) ps.length c) rfl (by kernel_rfl) (enters_of Tryz.func72 (by kernel_rfl) rfl _ _)) (CLO.out V1 HB1.out) ?_
   rintro e V2 ⟨v9, rfl, ho, hb⟩
   obtain ⟨A9, c9, rfl⟩ := own_shape ho
   have HB2 := Lib.hid (HB1.out.trans (hb.mono HB1.out.size))
   have HX2 := Lib.hid (heap_step HX1.out hb)
   have HY2 := Lib.hid (heap_step HY1.out hb)
   have HG2 := Lib.hid (heap_step HG1.out hb)
   have HO2 := Lib.hid (own_base ho HB1.out.size)
   clear ho hb
   refine ⟨.slice A9 ps.length c9, rfl, ?_⟩
   simp only [Act.put, List.setIfInBounds_toArray, List.set_cons_zero, List.set_cons_succ]
   refine zzA 5 (.agg #[.int .i64 fmt, .slice A9 ps.length c9]) (some 140) rfl (fun _ => ex_buildD (.tmp 136) (.tmp 139) fmt A9 ps.length c9 rfl (by kernel_rfl) (by kernel_rfl)) ?_
   simp only [Act.put, List.setIfInBounds_toArray, List.set_cons_zero, List.set_cons_succ]
   refine wpAny_only 7 (by kernel_rfl) rfl (by kernel_rfl) ?_
   refine wp_storeD (.tmp 23) (.tmp 140) rfl rfl g3 fmt A9 ps.length c9 (by kernel_rfl) (by kernel_rfl) HG2.out ?_
   have HB3 := Lib.hid ((HB2.out.setCell (p := ⟨g3, 0, none⟩) (Nat.le_trans hgw (Nat.le_of_lt hg3)) (.int .i64 fmt)).setCell (p := ⟨g3, 1, none⟩) (Nat.le_trans hgw (Nat.le_of_lt hg3)) (.slice A9 ps.length c9))
   have HX3 := Lib.hid ((storeD_out (u0 := .int .i64 fmt) (u1 := .slice A9 ps.length c9) (Nat.ne_of_lt hg3)).trans HX2.out)
   have HY3 := Lib.hid ((storeD_out (u0 := .int .i64 fmt) (u1 := .slice A9 ps.length c9) (Nat.ne_of_lt hg4)).trans HY2.out)
   have HG3 := Lib.hid (storeD_at (u0 := .int .i64 fmt) (u1 := .slice A9 ps.length c9) HG2.out)
   have HO3 := Lib.hid (own_same (w' := (V2.setCell ⟨g3, 0, none⟩ (.int .i64 fmt)).setCell ⟨g3, 1, none⟩ (.slice A9 ps.length c9)) HO2.out fun j hj => storeD_out (fun e => own_apart HO2.out HG2.out (by decide) j hj e))
   generalize (V2.setCell ⟨g3, 0, none⟩ (.int .i64 fmt)).setCell ⟨g3, 1, none⟩ (.slice A9 ps.length c9) = V3 at HB3 HX3 HY3 HG3 HO3 ⊢
   simp only [Act.put, List.setIfInBounds_toArray, List.set_cons_zero, List.set_cons_succ]
   refine wpAny_done (by kernel_rfl) ?_ _
   clear HB0 HX0 HY0 HB1 HX1 HY1 HB2 HX2 HY2
   rename Hid (Below w.heap.size w V3) => HBZ
   rename Hid (V3.heap[g]? = _) => HXZ
   rename Hid (V3.heap[g + 1]? = _) => HYZ
   rename Hid (V3.heap[g3]? = _) => HGZ
   rename Hid (OwnE _ _ _ V3 _ _ _) => HOZ
   generalize V3 = V at *
   rotate_left 1
   refine wp_of_val (v := .slice (some ⟨b, o, none⟩) ps.length c) (ex_load 39 _ (.pointer (some ⟨g, 1, none⟩)) _ rfl (by kernel_rfl) (ldT_parts (bx2 HX1.out).2.1)) ?_
   simp only [Act.put, List.setIfInBounds_toArray, List.set_cons_zero, List.set_cons_succ]
   refine wpAny_two 1 4 (by kernel_rfl) rfl rfl (by kernel_rfl) (by kernel_rfl) ?_ ?_
   refine wp_of_val (v := .int .i64 fmt) (ex_load 3 _ (.pointer (some ⟨g, 0, none⟩)) _ rfl (by kernel_rfl) (ldT_int (bx2 HX1.out).1)) ?_
   simp only [Act.put, List.setIfInBounds_toArray, List.set_cons_zero, List.set_cons_succ]
   refine wpAny_only 4 (by kernel_rfl) rfl (by kernel_rfl) ?_
   refine wp_of_call (ex_call1 (.tmp 138) _ (.slice (some ⟨b, o, none⟩) ps.length c) rfl (by kernel_rfl) (enters_of Tryz.func72 (by kernel_rfl) rfl _ _)) (CLO.out V1 HB1.out) ?_
   rintro e V2 ⟨v9, rfl, ho, hb⟩
   obtain ⟨A9, c9, rfl⟩ := own_shape ho
   have HB2 := Lib.hid (HB1.out.trans (hb.mono HB1.out.size))
   have HX2 := Lib.hid (heap_step HX1.out hb)
   have HY2 := Lib.hid (heap_step HY1.out hb)
   have HG2 := Lib.hid (heap_step HG1.out hb)
   have HO2 := Lib.hid (own_base ho HB1.out.size)
   clear ho hb
   refine ⟨.slice A9 ps.length c9, rfl, ?_⟩
   simp only [Act.put, List.setIfInBounds_toArray, List.set_cons_zero, List.set_cons_succ]
   refine zzA 5 (.agg #[.int .i64 fmt, .slice A9 ps.length c9]) (some 140) rfl (fun _ => ex_buildD (.tmp 136) (.tmp 139) fmt A9 ps.length c9 rfl (by kernel_rfl) (by kernel_rfl)) ?_
   simp only [Act.put, List.setIfInBounds_toArray, List.set_cons_zero, List.set_cons_succ]
   refine wpAny_only 7 (by kernel_rfl) rfl (by kernel_rfl) ?_
   refine wp_storeD (.tmp 23) (.tmp 140) rfl rfl g3 fmt A9 ps.length c9 (by kernel_rfl) (by kernel_rfl) HG2.out ?_
   have HB3 := Lib.hid ((HB2.out.setCell (p := ⟨g3, 0, none⟩) (Nat.le_trans hgw (Nat.le_of_lt hg3)) (.int .i64 fmt)).setCell (p := ⟨g3, 1, none⟩) (Nat.le_trans hgw (Nat.le_of_lt hg3)) (.slice A9 ps.length c9))
   have HX3 := Lib.hid ((storeD_out (u0 := .int .i64 fmt) (u1 := .slice A9 ps.length c9) (Nat.ne_of_lt hg3)).trans HX2.out)
   have HY3 := Lib.hid ((storeD_out (u0 := .int .i64 fmt) (u1 := .slice A9 ps.length c9) (Nat.ne_of_lt hg4)).trans HY2.out)
   have HG3 := Lib.hid (storeD_at (u0 := .int .i64 fmt) (u1 := .slice A9 ps.length c9) HG2.out)
   have HO3 := Lib.hid (own_same (w' := (V2.setCell ⟨g3, 0, none⟩ (.int .i64 fmt)).setCell ⟨g3, 1, none⟩ (.slice A9 ps.length c9)) HO2.out fun j hj => storeD_out (fun e => own_apart HO2.out HG2.out (by decide) j hj e))
   generalize (V2.setCell ⟨g3, 0, none⟩ (.int .i64 fmt)).setCell ⟨g3, 1, none⟩ (.slice A9 ps.length c9) = V3 at HB3 HX3 HY3 HG3 HO3 ⊢
   simp only [Act.put, List.setIfInBounds_toArray, List.set_cons_zero, List.set_cons_succ]
   refine wpAny_done (by kernel_rfl) ?_ _
   clear HB0 HX0 HY0 HB1 HX1 HY1 HB2 HX2 HY2
   rename Hid (Below w.heap.size w V3) => HBZ
   rename Hid (V3.heap[g]? = _) => HXZ
   rename Hid (V3.heap[g + 1]? = _) => HYZ
   rename Hid (V3.heap[g3]? = _) => HGZ
   rename Hid (OwnE _ _ _ V3 _ _ _) => HOZ
   generalize V3 = V at *
   rotate_left 1
   refine wp_of_call (ex_call1 (.tmp 138) _ (.slice (some ⟨b, o, none⟩) ps.length c) rfl (by kernel_rfl) (enters_of Tryz.func72 (by kernel_rfl) rfl _ _)) (CLO.out V1 HB1.out) ?_
   rintro e V2 ⟨v9, rfl, ho, hb⟩
   obtain ⟨A9, c9, rfl⟩ := own_shape ho
   have HB2 := Lib.hid (HB1.out.trans (hb.mono HB1.out.size))
   have HX2 := Lib.hid (heap_step HX1.out hb)
   have HY2 := Lib.hid (heap_step HY1.out hb)
   have HG2 := Lib.hid (heap_step HG1.out hb)
   have HO2 := Lib.hid (own_base ho HB1.out.size)
   clear ho hb
   refine ⟨.slice A9 ps.length c9, rfl, ?_⟩
   simp only [Act.put, List.setIfInBounds_toArray, List.set_cons_zero, List.set_cons_succ]
   refine wpAny_only 1 (by kernel_rfl) rfl (by kernel_rfl) ?_
   refine wp_of_val (v := .int .i64 fmt) (ex_load 3 _ (.pointer (some ⟨g, 0, none⟩)) _ rfl (by kernel_rfl) (ldT_int (bx2 HX2.out).1)) ?_
   simp only [Act.put, List.setIfInBounds_toArray, List.set_cons_zero, List.set_cons_succ]
   refine zzA 5 (.agg #[.int .i64 fmt, .slice A9 ps.length c9]) (some 140) rfl (fun _ => ex_buildD (.tmp 136) (.tmp 139) fmt A9 ps.length c9 rfl (by kernel_rfl) (by kernel_rfl)) ?_
   simp only [Act.put, List.setIfInBounds_toArray, List.set_cons_zero, List.set_cons_succ]
   refine wpAny_only 7 (by kernel_rfl) rfl (by kernel_rfl) ?_
   refine wp_storeD (.tmp 23) (.tmp 140) rfl rfl g3 fmt A9 ps.length c9 (by kernel_rfl) (by kernel_rfl) HG2.out ?_
   have HB3 := Lib.hid ((HB2.out.setCell (p := ⟨g3, 0, none⟩) (Nat.le_trans hgw (Nat.le_of_lt hg3)) (.int .i64 fmt)).setCell (p := ⟨g3, 1, none⟩) (Nat.le_trans hgw (Nat.le_of_lt hg3)) (.slice A9 ps.length c9))
   have HX3 := Lib.hid ((storeD_out (u0 := .int .i64 fmt) (u1 := .slice A9 ps.length c9) (Nat.ne_of_lt hg3)).trans HX2.out)
   have HY3 := Lib.hid ((storeD_out (u0 := .int .i64 fmt) (u1 := .slice A9 ps.length c9) (Nat.ne_of_lt hg4)).trans HY2.out)
   have HG3 := Lib.hid (storeD_at (u0 := .int .i64 fmt) (u1 := .slice A9 ps.length c9) HG2.out)
   have HO3 := Lib.hid (own_same (w' := (V2.setCell ⟨g3, 0, none⟩ (.int .i64 fmt)).setCell ⟨g3, 1, none⟩ (.slice A9 ps.length c9)) HO2.out fun j hj => storeD_out (fun e => own_apart HO2.out HG2.out (by decide) j hj e))
   generalize (V2.setCell ⟨g3, 0, none⟩ (.int .i64 fmt)).setCell ⟨g3, 1, none⟩ (.slice A9 ps.length c9) = V3 at HB3 HX3 HY3 HG3 HO3 ⊢
   simp only [Act.put, List.setIfInBounds_toArray, List.set_cons_zero, List.set_cons_succ]
   refine wpAny_done (by kernel_rfl) ?_ _
   clear HB0 HX0 HY0 HB1 HX1 HY1 HB2 HX2 HY2
   rename Hid (Below w.heap.size w V3) => HBZ
   rename Hid (V3.heap[g]? = _) => HXZ
   rename Hid (V3.heap[g + 1]? = _) => HYZ
   rename Hid (V3.heap[g3]? = _) => HGZ
   rename Hid (OwnE _ _ _ V3 _ _ _) => HOZ
   generalize V3 = V at *
   all_goals (
    obtain ⟨bk, rfl, hbk⟩ := own_someD HOZ.out (by omega)
    have r2 : V.cell? ⟨bk, k * 3 + 2, none⟩ = some (.string raw) := by
     rw [World.ownsRow.cellAt HOZ.out (k * 3 + 2) (by omega), flat_get ptC 3 ptC_three ps k 2 ps[k] (List.getElem?_eq_getElem hkl) (by decide)]
     show some (Value.string ps[k].raw) = _
     rw [HH.out.raw, hraw.out]
    have f2 := World.ownsRow.frozenAt HOZ.out (k * 3 + 2)
    have hst := (World.ownsRow.stored HOZ.out (k * 3 + 2) (.string nb)).1
    have HOS : Hid (OwnE 52 ptC 3 (V.setCell ⟨bk, k * 3 + 2, none⟩ (.string nb)) w.heap.size (.slice (some ⟨bk, 0, none⟩) ps.length c9) (ps.set k ⟨true, ps[k].key, nb⟩)) := by
     show OwnE _ _ _ _ _ _ _
     unfold OwnE
     rw [List.length_set, ← flat_set ps k hkl nb HH.out.un]
     exact hst
    have hgb : g3 ≠ bk := fun e => own_apart HOZ.out HGZ.out (by decide) bk rfl e.symm
    have hyb : g + 1 ≠ bk := fun e => own_apart HOZ.out HYZ.out (by decide) bk rfl e.symm
    have HGS : Hid ((V.setCell ⟨bk, k * 3 + 2, none⟩ (.string nb)).heap[g3]? = some (.cells #[.int .i64 fmt, .slice (some ⟨bk, 0, none⟩) ps.length c9] 41)) := (Below.heap_setCell _ _ _ _ hgb).trans HGZ.out
    have HYS : Hid ((V.setCell ⟨bk, k * 3 + 2, none⟩ (.string nb)).heap[g + 1]? = some (.cells #[.int .i64 0, .slice none 0 0] 41)) := (Below.heap_setCell _ _ _ _ hyb).trans HYZ.out
    have HBS := Lib.hid (HBZ.out.setCell (p := ⟨bk, k * 3 + 2, none⟩) hbk (.string nb))
    have hps2 : (ps.set k ⟨true, ps[k].key, nb⟩).length = ps.length := List.length_set
    have hnsz := HH.out.nsz
    rw [hNEW.out, hnb.out] at hnsz
    have CB := Lib.hid (fun (W : World) (hr : RdE ptC 3 W (.slice (some ⟨bk, 0, none⟩) ps.length c9) (ps.set k ⟨true, ps[k].key, nb⟩)) => bytes_any fmt (ps.set k ⟨true, ps[k].key, nb⟩) (some ⟨bk, 0, none⟩) c9 W (by rw [hps2]; exact hr) (by rw [hps2]; omega) (by omega))
    rw [hps2] at CB
    have hbz : (ofL (bytesP (ps.set k ⟨true, ps[k].key, nb⟩))).size ≤ 65536 := by rw [size_ofL]; exact hnsz
    generalize ofL (bytesP (ps.set k ⟨true, ps[k].key, nb⟩)) = bb at CB hbz
    obtain ⟨g0, g1, _⟩ := bx2 HGZ.out
    have HRD := Lib.hid (OwnE.rd ptC_three HOS.out)
    clear hst hnsz hps2
    go_upto_region 32 with fail
    generalize V.setCell ⟨bk, k * 3 + 2, none⟩ (.string nb) = V9 at HOS HGS HYS HBS HRD ⊢
    obtain ⟨h0, h1, _⟩ := bx2 HGS.out
    clear g0 g1 r2 f2 HGZ HYZ HOZ HBZ
    go_wp2_with (go_at_call 24; refine (CB.out _ (by exact HRD.out)).mono ?_; rintro e Vb ⟨rfl, hbb⟩; have HBb := Lib.hid (HBS.out.trans (hbb.mono HBS.out.size)); have HYb := Lib.hid (heap_step HYS.out hbb); have HOb := Lib.hid (own_step HOS.out hbb); obtain ⟨k0, k1, _⟩ := bx2 (heap_step HGS.out hbb); obtain ⟨l0, l1, m0, m1⟩ := bx2 (heap_step HYS.out hbb); clear hbb)
    refine bodyPost_ret (res_doc2 rfl _ _ (g + 1) fmt (some ⟨bk, 0, none⟩) ps.length c9 _ rfl rfl (by go_simp) (by go_simp)) rfl ?_
    rw [HRR.out]
    refine ⟨some ⟨bk, 0, none⟩, c9, rfl, ?_, (HBb.out.setCell (p := ⟨g + 1, 0, none⟩) (by show _ ≤ g + 1; omega) _).setCell (p := ⟨g + 1, 1, none⟩) (by show _ ≤ g + 1; omega) _⟩
    rw [hNEW.out, hnb.out]
    have := (own_same (w' := (Vb.setCell ⟨g + 1, 0, none⟩ (.int .i64 fmt)).setCell ⟨g + 1, 1, none⟩ (.slice (some ⟨bk, 0, none⟩) ps.length c9)) HOb.out fun j hj => storeD_out (fun e => own_apart HOb.out HYb.out (by decide) j hj e))
    unfold OwnE at this ⊢
    rw [List.length_set] at this ⊢
    exact this)
end Go.Proofs.YtfkojnofbpdjdaaGreatDoor

namespace Go.Proofs.YtfkojnofbpdjdaaGreatDoor
set_option maxRecDepth 100000
def wB : List UInt8 := [98]
def knTs : Els := [([83], some (chI 83)), ([97], some (chI 97)), ([118], some (chI 118)), ([101], some (chI 101)), ([46], some (chI 46)), ([32], some (chI 32)), ([60, 98, 62], some ⟨2, ofL wB, 1⟩), ([82], some (chI 82)), ([101], some (chI 101)), ([100], some (chI 100)), ([60, 47, 98, 62], some ⟨3, ofL wB, 1⟩), ([32], some (chI 32)), ([99], some (chI 99)), ([97], some (chI 97)), ([114], some (chI 114)), ([33], some (chI 33))]
theorem knTs_ok : RawOk 1 knTs := by
 refine ⟨fun e he => ?_, cont_some _ fun e he => ?_, ?_, by decide⟩
 ·simp only [knTs, List.mem_cons, List.not_mem_nil, or_false] at he
  rcases he with rfl | rfl | rfl | rfl | rfl | rfl | rfl | rfl | rfl | rfl | rfl | rfl | rfl | rfl | rfl | rfl
  all_goals first
   | exact ElOk.ch1 _ (by decide)
   | exact ElOk.opn wB 1 (by decide) (by decide)
   | exact ElOk.cls wB 1 (by decide) (by decide)
 ·simp only [knTs, List.mem_cons, List.not_mem_nil, or_false] at he
  rcases he with rfl | rfl | rfl | rfl | rfl | rfl | rfl | rfl | rfl | rfl | rfl | rfl | rfl | rfl | rfl | rfl
  all_goals exact fun h => by cases h
 ·show NumOk [chI 83, chI 97, chI 118, chI 101, chI 46, chI 32, ⟨2, ofL wB, 1⟩, chI 82, chI 101, chI 100, ⟨3, ofL wB, 1⟩, chI 32, chI 99, chI 97, chI 114, chI 33] 0 []
  simp [NumOk, chI]
  exact ⟨_, [], ⟨rfl, rfl⟩, rfl, rfl, rfl⟩
def knF : List Tk := [⟨1, ⟨#[83, 97, 118, 101, 46, 32]⟩, 0⟩, ⟨2, ofL wB, 1⟩, ⟨1, ⟨#[82, 101, 100]⟩, 0⟩, ⟨3, ofL wB, 1⟩, ⟨1, ⟨#[32, 99, 97, 114, 33]⟩, 0⟩]
theorem kn_items : itmE knTs = expF knF := rfl
theorem kn_normal : Normal knF := by
 have t : ∀ (b : ByteArray) (l : List Tk), b.size ≠ 0 → (∀ y, l.head? = some y → y.k ≠ 1) → Normal l → Normal (⟨1, b, 0⟩ :: l) := fun b l h1 h2 h3 => ⟨fun _ => ⟨h1, rfl, h2⟩, h3⟩
 have o : ∀ (x : Tk) (l : List Tk), x.k ≠ 1 → Normal l → Normal (x :: l) := fun x l h1 h3 => ⟨fun h => absurd h h1, h3⟩
 unfold knF
 refine t _ _ (by decide) (fun y hy => ?_) (o _ _ (by show (2 : Int) ≠ 1; decide) (t _ _ (by decide) (fun y hy => ?_) (o _ _ (by show (3 : Int) ≠ 1; decide) (t _ _ (by decide) (fun y hy => ?_) trivial))))
 ·injection hy with hy
  rw [← hy]
  show (2 : Int) ≠ 1
  decide
 ·injection hy with hy
  rw [← hy]
  show (3 : Int) ≠ 1
  decide
 ·cases hy
theorem kn_norm : normL (itmE knTs) = knF := by rw [kn_items, norm_of_exp _ kn_normal]
theorem kn_ranges : rangesF [sentR] knF = [(0, 5), (6, 16)] := by decide +kernel
def knG : List Tk := [⟨1, ⟨#[83, 105, 99, 104, 101, 114, 110, 46]⟩, 0⟩]
def knTs2 : Els := splE knTs 0 [(0, 5)] [tsF 1 knG]
theorem knG_plain : ∀ x ∈ knG, PlainOk x := fun x hx => Or.inl (by rw [List.mem_singleton.1 hx])
theorem knG_normal : Normal knG := ⟨fun _ => ⟨by decide, rfl, fun y hy => by cases hy⟩, trivial⟩
theorem knG_val : ValF knG := plain_val knG knG_normal knG_plain (by decide)
theorem knTs2_eq : knTs2 = [([83], some (chI 83)), ([105], some (chI 105)), ([99], some (chI 99)), ([104], some (chI 104)), ([101], some (chI 101)), ([114], some (chI 114)), ([110], some (chI 110)), ([46], some (chI 46)), ([32], some (chI 32)), ([60, 98, 62], some ⟨2, ofL wB, 1⟩), ([82], some (chI 82)), ([101], some (chI 101)), ([100], some (chI 100)), ([60, 47, 98, 62], some ⟨3, ofL wB, 1⟩), ([32], some (chI 32)), ([99], some (chI 99)), ([97], some (chI 97)), ([114], some (chI 114)), ([33], some (chI 33))] := rfl
theorem knTs2_ok : RawOk 1 knTs2 := by
 rw [knTs2_eq]
 refine ⟨fun e he => ?_, cont_some _ fun e he => ?_, ?_, by decide⟩
 ·simp only [List.mem_cons, List.not_mem_nil, or_false] at he
  rcases he with rfl | rfl | rfl | rfl | rfl | rfl | rfl | rfl | rfl | rfl | rfl | rfl | rfl | rfl | rfl | rfl | rfl | rfl | rfl
  all_goals first
   | exact ElOk.ch1 _ (by decide)
   | exact ElOk.opn wB 1 (by decide) (by decide)
   | exact ElOk.cls wB 1 (by decide) (by decide)
 ·simp only [List.mem_cons, List.not_mem_nil, or_false] at he
  rcases he with rfl | rfl | rfl | rfl | rfl | rfl | rfl | rfl | rfl | rfl | rfl | rfl | rfl | rfl | rfl | rfl | rfl | rfl | rfl
  all_goals exact fun h => by cases h
 ·show NumOk [chI 83, chI 105, chI 99, chI 104, chI 101, chI 114, chI 110, chI 46, chI 32, ⟨2, ofL wB, 1⟩, chI 82, chI 101, chI 100, ⟨3, ofL wB, 1⟩, chI 32, chI 99, chI 97, chI 114, chI 33] 0 []
  simp [NumOk, chI]
  exact ⟨_, [], ⟨rfl, rfl⟩, rfl, rfl, rfl⟩
theorem knTs_raw : rawE knTs = [83, 97, 118, 101, 46, 32, 60, 98, 62, 82, 101, 100, 60, 47, 98, 62, 32, 99, 97, 114, 33] := by decide
theorem knTs2_raw : rawE knTs2 = [83, 105, 99, 104, 101, 114, 110, 46, 32, 60, 98, 62, 82, 101, 100, 60, 47, 98, 62, 32, 99, 97, 114, 33] := by rw [knTs2_eq]; decide
end Go.Proofs.YtfkojnofbpdjdaaGreatDoor

namespace Go.Proofs.YtfkojnofbpdjdaaGreatDoor
set_option maxRecDepth 100000
open Go.RowKit
theorem norm_forall (P : Tk → Prop) (h1 : ∀ x : Tk, x.k = 1 → P x) (f : List Tk) (h : ∀ y ∈ f, P y) : ∀ y ∈ normL f, P y := by
 suffices hh : ∀ (g out : List Tk), (∀ y ∈ g, P y) → (∀ y ∈ out, P y) → ∀ y ∈ g.foldl normStep out, P y from hh f [] h (fun y hy => by simp at hy)
 intro g
 induction g with
 | nil => intro out _ h2; exact h2
 | cons x g ih =>
   intro out hg ho
   refine ih _ (fun y hy => hg y (by simp [hy])) ?_
   intro z hz
   by_cases hk : x.k = 1
   ·by_cases h2 : x.t.size = 0
    ·rw [step_empty out x hk h2] at hz; exact ho z hz
    ·rcases List.eq_nil_or_concat out with rfl | ⟨o, y, rfl⟩
     ·rw [step_first x hk h2] at hz
      rw [List.mem_singleton.1 hz]
      exact h1 _ rfl
     ·rw [List.concat_eq_append] at ho hz
      by_cases hy : y.k = 1
      ·rw [step_join o y x hk h2 hy] at hz
       rcases List.mem_append.1 hz with hz | hz
       ·exact ho z (List.mem_append.2 (.inl hz))
       ·rw [List.mem_singleton.1 hz]
        exact h1 _ rfl
      ·rw [step_new o y x hk h2 hy] at hz
       rcases List.mem_append.1 hz with hz | hz
       ·exact ho z hz
       ·rw [List.mem_singleton.1 hz]
        exact h1 _ rfl
   ·rw [step_other out x hk] at hz
    rcases List.mem_append.1 hz with hz | hz
    ·exact ho z hz
    ·rw [List.mem_singleton.1 hz]
     exact hg x (by simp)
def knMs : List MK := [.blk wP (Lib.decDigits 1) knTs]
def knPs : List Pt := ptsD (unsMK knMs).1 (unsMK knMs).2
def knPs2 : List Pt := knPs.set 1 ⟨true, ofL (Lib.decDigits 1), ofL (rawE knTs2)⟩
theorem knPs_len : knPs.length = 3 := rfl
theorem knPs_1 : knPs[1]'(by decide) = ⟨true, ofL (Lib.decDigits 1), ofL (rawE knTs)⟩ := rfl
theorem knMs_ok : ∀ x ∈ knMs, MKok x := by
 intro x hx
 rw [List.mem_singleton.1 hx]
 exact ⟨by decide, by decide, knTs_ok⟩
theorem knMs_key : KeyOk 0 knMs := ⟨rfl, by decide, trivial⟩
theorem bytes_pts (us : List Un) (tl : List UInt8) : bytesP (ptsD us tl) = dataD us tl := pts_bytes us tl
theorem kn_data : bytesP knPs = rawM knMs := by
 unfold knPs
 rw [bytes_pts, unsMK_data]
 rfl
theorem knM_raw : rawM knMs = [60, 112, 62, 83, 97, 118, 101, 46, 32, 60, 98, 62, 82, 101, 100, 60, 47, 98, 62, 32, 99, 97, 114, 33, 60, 47, 112, 62] := by decide
theorem kn_data2 : bytesP knPs2 = [60, 112, 62, 83, 105, 99, 104, 101, 114, 110, 46, 32, 60, 98, 62, 82, 101, 100, 60, 47, 98, 62, 32, 99, 97, 114, 33, 60, 47, 112, 62] := by
 show bytesP [⟨false, ofL [], ofL ([] ++ (60 :: wP ++ [62]))⟩, ⟨true, ofL (Lib.decDigits 1), ofL (rawE knTs2)⟩, ⟨false, ofL [], ofL (endT wP)⟩] = _
 rw [knTs2_raw]
 decide
end Go.Proofs.YtfkojnofbpdjdaaGreatDoor

namespace Go.Proofs.YtfkojnofbpdjdaaGreatDoor
set_option maxRecDepth 100000
open Go.RowKit
def knCs : List Int := csE knTs ++ [((rawE knTs).length : Int)]
theorem kn_cat : ∀ p, p < 17 → knCs[p]? = some ((rawE (takeE knTs p)).length : Int) := by decide
theorem kn_pos : (itmE knTs).length = 16 := by decide
theorem kn_asc : ascL 0 [(0, 5)] 16 := ⟨by decide, by decide, by decide, trivial⟩
theorem kn_rdb : Rdb 1 (ofL (rawE knTs)) knTs := ⟨by simp [ofL], knTs_ok.els, knTs_ok.len, by rw [size_ofL, knTs_raw]; decide⟩
theorem kn_rdb2 : Rdb 1 (ofL (rawE knTs2)) knTs2 := ⟨by simp [ofL], knTs2_ok.els, knTs2_ok.len, by rw [size_ofL, knTs2_raw]; decide⟩
theorem el_kind (fmt : Int) (r : List UInt8) (o : Option Tk) (h : ElOk fmt r o) : ∀ x, o = some x → (x.k = 1 ∨ x.k = 5) ∨ (x.k = 2 ∨ x.k = 3 ∨ x.k = 4) := by
 intro x hx
 cases h <;> first
  | (injection hx with hx; subst hx; simp [chI])
  | cases hx
theorem itm_kind (fmt : Int) : ∀ (ts : Els), (∀ e ∈ ts, ElOk fmt e.1 e.2) → ∀ x ∈ itmE ts, (x.k = 1 ∨ x.k = 5) ∨ (x.k = 2 ∨ x.k = 3 ∨ x.k = 4)
 | [], _, x, hx => by simp [itmE] at hx
 | (r, none) :: ts, h, x, hx => itm_kind fmt ts (fun e he => h e (by simp [he])) x hx
 | (r, some y) :: ts, h, x, hx => by
   rw [show itmE ((r, some y) :: ts) = y :: itmE ts from rfl] at hx
   rcases List.mem_cons.1 hx with rfl | hx
   ·exact el_kind fmt r _ (h (r, some x) (by simp)) x rfl
   ·exact itm_kind fmt ts (fun e he => h e (by simp [he])) x hx
theorem raw_num (fmt : Int) (ts : Els) (h : RawOk fmt ts) : ∃ n, numsG (normL (itmE ts)) [] = cnt1 n ∧ n ≤ 500 ∧ ∀ x ∈ normL (itmE ts), KindT n x := by
 obtain ⟨h1, h2, _⟩ := numOk_nums (itmE ts) 0 [] h.num (fun y hy => by simp at hy)
 refine ⟨(opnN (itmE ts) 0 []).1, by rw [numsG_norm]; exact h1, ?_, norm_forall _ (fun x hx => .inl (.inl hx)) _ fun y hy => ?_⟩
 ·have := numsG_len (itmE ts) []
  have h3 := h.len
  rw [show numsG (itmE ts) [] = cnt1 (opnN (itmE ts) 0 []).1 from h1, cnt1_len] at this
  simp at this
  omega
 ·rcases itm_kind fmt ts h.els y hy with hk | hk
  ·exact .inl hk
  ·exact .inr ⟨hk, h2 y hy hk⟩
theorem kn_ones (ts : Els) (h : RawOk 1 ts) : expF (itmE ts) = itmE ts := expF_id _ fun y hy => itm_one 1 ts h.els y hy
theorem kn_spl (m : Int) : SplOk m 1 (ofL (bytesP knPs)) knPs := fun w hm => by
 rw [kn_data]
 exact mkSplit_any _ knMs m w hm (by simp [ofL]) knMs_ok knMs_key (by rw [size_ofL, knM_raw]; decide)
theorem kn_rpl (m : Int) : ∃ n, RplOk m 1 knPs 1 knTs knCs [(0, 5)] [knG] n := by
 obtain ⟨n, kn_num, hn, kn_knd⟩ := raw_num 1 knTs2 knTs2_ok
 exact ⟨n, {
  fm := .inl rfl
  len := by decide
  size := by rw [kn_data, knM_raw]; decide
  spl := kn_spl m
  kl := by decide
  un := rfl
  raw := rfl
  rsz := by rw [knTs_raw]; decide
  dec := fun w hm => mkDecode_any _ knTs m w hm kn_rdb knTs_ok.num
  one := kn_ones knTs knTs_ok
  pos := by rw [kn_pos]; decide
  cut := fun w hm => mkCuts_any _ knTs m w hm kn_rdb knTs_ok.num
  csl := by decide
  cat := fun p hp => kn_cat p (by rw [kn_pos] at hp; omega)
  rtl := rfl
  rll := by decide
  asc := by rw [kn_pos]; exact kn_asc
  tgn := fun t ht => by rw [List.mem_singleton.1 ht]; exact knG_normal
  enc := fun t ht => by
   rw [List.mem_singleton.1 ht]
   exact fun A c w hm hr => mkEncode_any knG _ m w hm hr knG_val (plain_noblock knG knG_plain)
  new := fun w hm => mkDecode_any _ knTs2 m w hm kn_rdb2 knTs2_ok.num
  none_ := kn_ones knTs2 knTs2_ok
  npos := knTs2_ok.len
  nrsz := by show (rawE knTs2).length ≤ _; rw [knTs2_raw]; decide
  num := kn_num
  nle := by omega
  knd := kn_knd
  nsz := by
   show (bytesP knPs2).length ≤ _
   rw [kn_data2]; decide }⟩
end Go.Proofs.YtfkojnofbpdjdaaGreatDoor

namespace Go.Proofs.YtfkojnofbpdjdaaGreatDoor
set_option maxRecDepth 100000
open Go.RowKit
theorem kn_bytes : (⟨#[60, 112, 62, 83, 97, 118, 101, 46, 32, 60, 98, 62, 82, 101, 100, 60, 47, 98, 62, 32, 99, 97, 114, 33, 60, 47, 112, 62]⟩ : ByteArray) = ofL (bytesP knPs) := by rw [kn_data, knM_raw]; rfl
theorem kn_bytes2 : ofL (bytesP knPs2) = (⟨#[60, 112, 62, 83, 105, 99, 104, 101, 114, 110, 46, 32, 60, 98, 62, 82, 101, 100, 60, 47, 98, 62, 32, 99, 97, 114, 33, 60, 47, 112, 62]⟩ : ByteArray) := by rw [kn_data2]; rfl
theorem ex_buildK {a : Act} {w : World} {o : Oper} (t : ByteArray) (ho : o.op = .build 31 #[(0, .const (.int .i64 1)), (1, .const (.string t))]) : (execOp a.eval o).run Tryz.prog w = .ok (.value (.agg #[.int .i64 1, .string t, .int .i64 0])) w := by
 have h1 : a.eval (.const (.int .i64 1)) = .int .i64 1 := rfl
 have h2 : a.eval (.const (.string t)) = .string t := rfl
 generalize a.eval = ρ at h1 h2 ⊢
 unfold execOp
 simp only [ho]
 go_simp
theorem ex_box31 {a : Act} {w : World} {o : Oper} (x : Operand) (t : ByteArray) (ho : o.op = .buildSlice 24 1 #[(0, x)]) (hx : a.eval x = .agg #[.int .i64 1, .string t, .int .i64 0]) : (execOp a.eval o).run Tryz.prog w = .ok (.value (.slice (some ⟨w.heap.size, 0, none⟩) 1 1)) (w.alloc (.cells #[.int .i64 1, .string t, .int .i64 0] 31)) := by
 generalize a.eval = ρ at hx ⊢
 unfold execOp
 simp only [ho]
 go_simp
theorem ex_box24 {a : Act} {w : World} {o : Oper} (x : Operand) (A : Option Addr) (n c : Nat) (ho : o.op = .buildSlice 48 1 #[(0, x)]) (hx : a.eval x = .slice A n c) : (execOp a.eval o).run Tryz.prog w = .ok (.value (.slice (some ⟨w.heap.size, 0, none⟩) 1 1)) (w.alloc (.cells #[.slice A n c] 24)) := by
 generalize a.eval = ρ at hx ⊢
 unfold execOp
 simp only [ho]
 go_simp
theorem ex_callK4 {P : Program} {w : World} {a : Act} {o : Oper} {f : FuncId} {x y z u : Operand} (ts : Array TypeId) {vx vy vz vu : Value} (ho : o.op = .call { callee := .value (.func f), args := #[x, y, z, u], argTypes := ts }) (hx : a.eval x = vx) (hy : a.eval y = vy) (hz : a.eval z = vz) (hu : a.eval u = vu) (he : (callFunc f #[vx, vy, vz, vu]).run P w = .ok (.enter f #[vx, vy, vz, vu]) w) : (execOp a.eval o).run P w = .ok (.enter f #[vx, vy, vz, vu]) w := by
 have hf : a.eval (.func f) = .func (.func f) #[] #[] := rfl
 generalize a.eval = ρ at hx hy hz hu hf ⊢
 unfold execOp
 simp only [ho]
 go_simp
theorem rdTT_one (w : World) (gi : Nat) (f : List Tk) (hf : f.length = 1) (h : RdT w (.slice (some ⟨gi, 0, none⟩) 1 1) f) : RdTT (w.alloc (.cells #[.slice (some ⟨gi, 0, none⟩) 1 1] 24)) (.slice (some ⟨w.heap.size, 0, none⟩) 1 1) [f] := by
 refine ⟨_, 1, rfl, fun _ => ⟨_, _, rfl, by simp, fun i x hi => ?_⟩⟩
 have hbox : (w.alloc (.cells #[.slice (some ⟨gi, 0, none⟩) 1 1] 24)).heap[w.heap.size]? = some (.cells #[.slice (some ⟨gi, 0, none⟩) 1 1] 24) := Array.getElem?_push_size
 rcases i with _ | i
 ·simp at hi; subst hi
  exact ⟨some ⟨gi, 0, none⟩, 1, by rw [cell_of_row _ _ _ _ _ _ hbox, hf]; rfl, by rw [hf]; exact RdE.below h ((Below.refl w.heap.size w).alloc (Nat.le_refl _) _) (Nat.le_refl _)⟩
 ·simp at hi
theorem sent_smallT : RuSmall [sentR] := ⟨by decide, fun r hr => by rw [List.mem_singleton.1 hr]; exact ⟨by decide, by decide⟩⟩
theorem topKnown_any (m : Int) (w : World) (hm : w.cell? ⟨0, 0, none⟩ = some (.int .i64 m)) :
 Calls Tryz.prog 7 #[] w (fun e w' => e = .returned (.bool true) ∧ Below w.heap.size w w') := by
 have hspl : SplOk m 1 (⟨#[60, 112, 62, 83, 97, 118, 101, 46, 32, 60, 98, 62, 82, 101, 100, 60, 47, 98, 62, 32, 99, 97, 114, 33, 60, 47, 112, 62]⟩ : ByteArray) knPs := by rw [kn_bytes]; exact kn_spl m
 obtain ⟨n, hrpl⟩ := kn_rpl m
 have CP := Lib.hid (dparse_any m 1 (.inl rfl) _ knPs hspl w hm)
 have CC := Lib.hid (fun (A : Option Addr) (c : Nat) (W : World) (hW : Below w.heap.size w W) (hr : RdE ptC 3 W (.slice A knPs.length c) knPs) => content_any m 1 (.inl rfl) knPs knF 1 (by decide) rfl (by rw [knPs_1, ← kn_norm]; exact hrpl.dec) A c W (below_cell0 hm hW) hr (by decide))
 have CS := Lib.hid (fun W => sent_any W)
 have CR := Lib.hid (fun (vr v : Value) (W : World) (h1 : RdRu W vr [sentR]) (h2 : RdT W v knF) => ranges_any [sentR] vr knF v W h1 sent_smallT h2 (by decide) (by decide))
 rw [kn_ranges] at CR
 rw [knPs_len] at CC
 have CRP := Lib.hid (fun (A : Option Addr) (c b5 o5 c5 : Nat) (gt : Nat) (W : World) (hW : Below w.heap.size w W) (hp : RdE ptC 3 W (.slice A 3 c) knPs) (hs : RdE rangeC 2 W (.slice (some ⟨b5, o5, none⟩) 2 c5) [(0, 5), (6, 16)]) (ht : RdTT W (.slice (some ⟨gt, 0, none⟩) 1 1) [knG]) =>
  (replace_doc hrpl A (some ⟨b5, o5, none⟩) (some ⟨gt, 0, none⟩) c c5 1 W (below_cell0 hm hW) hp (RdE.take hs 1 (by decide)) ht : Calls Tryz.prog 32 #[.agg #[.int .i64 1, .slice A 3 c], .int .i64 1, .slice (some ⟨b5, o5, none⟩) 1 c5, .slice (some ⟨gt, 0, none⟩) 1 1] W (fun e w' => ∃ A' c', e = .returned (.tuple #[.agg #[.int .i64 1, .slice A' 3 c'], .int .i64 0]) ∧ OwnE 52 ptC 3 w' W.heap.size (.slice A' 3 c') knPs2 ∧ Below W.heap.size W w')))
 have CB := Lib.hid (fun (A : Option Addr) (c : Nat) (W : World) (h : RdE ptC 3 W (.slice A 3 c) knPs2) => bytes_any 1 knPs2 A c W h (by decide) (by rw [kn_data2]; decide))
 rw [kn_bytes2] at CB
 have HM := Lib.hid hm
 clear hm hspl
 go_enter Tryz.func7, Tryz.ntmps7
 go_wp2_with (first
  | (go_at_call 28; refine (CP.out).mono ?_; rintro e W1 ⟨A, c, rfl, ho1, hb1⟩; rw [knPs_len] at ho1 ⊢; have HP1 := Lib.hid (OwnE.rd ptC_three ho1); have HB1 := Lib.hid hb1; have HP2 := Lib.hid (RdE.below HP1.out ((Below.refl W1.heap.size W1).alloc (Nat.le_refl _) (.cells #[.int .i64 1, .slice A 3 c] 41)) (Nat.le_refl _)); have HB2 := Lib.hid (HB1.out.alloc HB1.out.size (.cells #[.int .i64 1, .slice A 3 c] 41)); have HX2 : Hid ((W1.alloc (.cells #[.int .i64 1, .slice A 3 c] 41)).heap[W1.heap.size]? = some (.cells #[.int .i64 1, .slice A 3 c] 41)) := heap_alloc_new W1 _; clear ho1 hb1)
  | (go_at_call 27; refine (CC.out A c _ (by exact HB2.out) (by exact HP2.out)).mono ?_; rintro e W3 ⟨v3, rfl, ho3, hb3⟩; obtain ⟨A3, c3, rfl⟩ := own_shape ho3; have HF3 := Lib.hid (OwnE.rd tkC_three ho3); have HP3 := Lib.hid (RdE.below HP2.out hb3 (Nat.le_refl _)); have HB3 := Lib.hid (HB2.out.trans (hb3.mono HB2.out.size)); have HX3 := Lib.hid (heap_step HX2.out hb3); clear ho3 hb3)
  | (go_at_call 19; refine (CS.out _).mono ?_; rintro e W4 ⟨v4, rfl, hr4, hb4⟩; have HR4 := Lib.hid hr4; have HF4 := Lib.hid (RdE.below HF3.out hb4 (Nat.le_refl _)); have HP4 := Lib.hid (RdE.below HP3.out hb4 (Nat.le_refl _)); have HB4 := Lib.hid (HB3.out.trans (hb4.mono HB3.out.size)); have HX4 := Lib.hid (heap_step HX3.out hb4); clear hr4 hb4)
  | (go_at_call 31; refine (CR.out _ _ _ (by exact HR4.out) (by exact HF4.out)).mono ?_; rintro e W5 ⟨v5, rfl, ho5, hb5⟩; obtain ⟨A5, c5, rfl⟩ := own_shape ho5; have HS5 := Lib.hid (OwnE.rd rangeC_two ho5); have HP5 := Lib.hid (RdE.below HP4.out hb5 (Nat.le_refl _)); have HB5 := Lib.hid (HB4.out.trans (hb5.mono HB4.out.size)); have HX5 := Lib.hid (heap_step HX4.out hb5); obtain ⟨b5, o5, rfl, _, q0, q1⟩ := rdR_at HS5.out 1 (by decide); clear ho5 hb5))
 refine wp_region_at 13 #[false, false, false, false, false, false, false, false, false, false, false, false, false] rfl rfl (by kernel_rfl) ?_
 have hc5 : 1 ≤ c5 := by
  obtain ⟨_, _, hv, hc, _⟩ := HS5.out
  injection hv with _ _ e
  subst e
  exact Nat.le_trans (by decide) hc
 have hc6 : ¬ ((c5 : Int) < 1) := by omega
 have HB0 : Hid (Below w.heap.size w W5.drew) := HB5.out.drew
 have HX0 : Hid (W5.drew.heap[W1.heap.size]? = some (.cells #[.int .i64 1, .slice A 3 c] 41)) := HX5.out
 have HP0 := Lib.hid (RdE.below HP5.out ((Below.refl W5.heap.size W5).drew) (Nat.le_refl _))
 have HS0 := Lib.hid (RdE.below HS5.out ((Below.refl W5.heap.size W5).drew) (Nat.le_refl _))
 generalize W1.heap.size = g at HX0 ⊢
 generalize W5.drew = V0 at HB0 HX0 HP0 HS0 ⊢
 replace CRP := Lib.hid (fun gt W => CRP.out A c b5 o5 c5 gt W)
 clear HB5 HX5 HP5 HS5 HB4 HX4 HP4 HF4 HB3 HX3 HP3 HF3 HB2 HX2 HP2 HB1 HP1 HR4 q0 q1
 refine zzM 1 (.slice (some ⟨b5, o5, none⟩) 2 c5) (some 40) rfl ?_
 refine zzA 2 (.slice (some ⟨b5, o5, none⟩) 1 c5) (some 41) rfl (fun _ => ex_slice 72 _ _ _ (.slice (some ⟨b5, o5, none⟩) 2 c5) _ none (some (.int .i64 1)) rfl (by kernel_rfl) (by kernel_rfl) (by kernel_rfl) (by go_simp)) ?_
 refine zzA 3 (.agg #[.int .i64 1, .string (⟨#[83, 105, 99, 104, 101, 114, 110, 46]⟩ : ByteArray), .int .i64 0]) (some 42) rfl (fun _ => ex_buildK (⟨#[83, 105, 99, 104, 101, 114, 110, 46]⟩ : ByteArray) rfl) ?_
 simp only [Act.put, List.setIfInBounds_toArray, List.set_cons_zero, List.set_cons_succ]
 refine wpAny_ops3 0 4 10 (by kernel_rfl) rfl rfl rfl (by kernel_rfl) (by kernel_rfl) (by kernel_rfl) ?_ ?_ ?_
 refine wp_of_val (v := .agg #[.int .i64 1, .slice A 3 c]) (ex_load 41 _ (.pointer (some ⟨g, 0, none⟩)) _ rfl (by kernel_rfl) (ldT_doc (bx2 HX0.out).1 (bx2 HX0.out).2.1)) ?_
 simp only [Act.put, List.setIfInBounds_toArray, List.set_cons_zero, List.set_cons_succ]
 refine wpAny_two 4 10 (by kernel_rfl) rfl rfl (by kernel_rfl) (by kernel_rfl) ?_ ?_
 refine wp_of_valw (ex_box31 (.tmp 42) (⟨#[83, 105, 99, 104, 101, 114, 110, 46]⟩ : ByteArray) rfl (by kernel_rfl)) ?_
 have hal := (Below.refl V0.heap.size V0).alloc (Nat.le_refl _) (.cells #[.int .i64 1, .string (⟨#[83, 105, 99, 104, 101, 114, 110, 46]⟩ : ByteArray), .int .i64 0] 31)
 have HB1 := Lib.hid (HB0.out.trans (hal.mono HB0.out.size))
 have HX1 := Lib.hid (heap_step HX0.out hal)
 have HP1 := Lib.hid (RdE.below HP0.out hal (Nat.le_refl _))
 have HS1 := Lib.hid (RdE.below HS0.out hal (Nat.le_refl _))
 have HI1 : Hid (RdT (V0.alloc (.cells #[.int .i64 1, .string (⟨#[83, 105, 99, 104, 101, 114, 110, 46]⟩ : ByteArray), .int .i64 0] 31)) (.slice (some ⟨V0.heap.size, 0, none⟩) 1 1) knG) := rdE_oneR tkC 3 tkC_three V0 _ rfl ⟨1, (⟨#[83, 105, 99, 104, 101, 114, 110, 46]⟩ : ByteArray), 0⟩ _
 clear hal
 generalize V0.heap.size = gi at HI1 ⊢
 generalize V0.alloc (.cells #[.int .i64 1, .string (⟨#[83, 105, 99, 104, 101, 114, 110, 46]⟩ : ByteArray), .int .i64 0] 31) = V1 at HI1 HB1 HX1 HP1 HS1 ⊢
 simp only [Act.put, List.setIfInBounds_toArray, List.set_cons_zero, List.set_cons_succ]
 refine wpAny_two 5 10 (by kernel_rfl) rfl rfl (by kernel_rfl) (by kernel_rfl) ?_ ?_
 refine wp_of_valw (ex_box24 (.tmp 43) (some ⟨gi, 0, none⟩) 1 1 rfl (by kernel_rfl)) ?_
 have hal := (Below.refl V1.heap.size V1).alloc (Nat.le_refl _) (.cells #[.slice (some ⟨gi, 0, none⟩) 1 1] 24)
 have HB2 := Lib.hid (HB1.out.trans (hal.mono HB1.out.size))
 have HX2 := Lib.hid (heap_step HX1.out hal)
 have HP2 := Lib.hid (RdE.below HP1.out hal (Nat.le_refl _))
 have HS2 := Lib.hid (RdE.below HS1.out hal (Nat.le_refl _))
 have HI2 := Lib.hid (RdE.below HI1.out hal (Nat.le_refl _))
 have HT2 : Hid (RdTT (V1.alloc (.cells #[.slice (some ⟨gi, 0, none⟩) 1 1] 24)) (.slice (some ⟨V1.heap.size, 0, none⟩) 1 1) [knG]) := rdTT_one V1 gi knG rfl HI1.out
 clear hal
 generalize V1.heap.size = gt at HT2 ⊢
 generalize V1.alloc (.cells #[.slice (some ⟨gi, 0, none⟩) 1 1] 24) = V2 at HT2 HB2 HX2 HP2 HS2 HI2 ⊢
 simp only [Act.put, List.setIfInBounds_toArray, List.set_cons_zero, List.set_cons_succ]
 refine wpAny_two 6 10 (by kernel_rfl) rfl rfl (by kernel_rfl) (by kernel_rfl) ?_ ?_
 refine wp_of_call (ex_callK4 _ rfl (by kernel_rfl) (by kernel_rfl) (by kernel_rfl) (by kernel_rfl) (enters_of Tryz.func32 (by kernel_rfl) rfl _ _)) (CRP.out gt V2 HB2.out HP2.out HS2.out HT2.out) ?_
 rintro e V3 ⟨A8, c8, rfl, ho, hb⟩
 have HB3 := Lib.hid (HB2.out.trans (hb.mono HB2.out.size))
 have HX3 := Lib.hid (heap_step HX2.out hb)
 have HP3 := Lib.hid (RdE.below HP2.out hb (Nat.le_refl _))
 have HS3 := Lib.hid (RdE.below HS2.out hb (Nat.le_refl _))
 have HI3 := Lib.hid (RdE.below HI2.out hb (Nat.le_refl _))
 have HT3 := Lib.hid (RdTT.below HT2.out hb (Nat.le_refl _))
 have HO3 := Lib.hid (own_base ho HB2.out.size)
 clear ho hb
 refine ⟨.tuple #[.agg #[.int .i64 1, .slice A8 3 c8], .int .i64 0], rfl, ?_⟩
 simp only [Act.put, List.setIfInBounds_toArray, List.set_cons_zero, List.set_cons_succ]
 refine zzM 7 (.tuple #[.agg #[.int .i64 1, .slice A8 3 c8], .int .i64 0]) (some 38) rfl ?_
 refine zzA 8 (.agg #[.int .i64 1, .slice A8 3 c8]) (some 46) rfl (fun _ => ex_extract _ 0 #[.agg #[.int .i64 1, .slice A8 3 c8], .int .i64 0] (.agg #[.int .i64 1, .slice A8 3 c8]) rfl (by kernel_rfl) rfl) ?_
 refine zzA 9 (.int .i64 0) (some 47) rfl (fun _ => ex_extract _ 1 #[.agg #[.int .i64 1, .slice A8 3 c8], .int .i64 0] (.int .i64 0) rfl (by kernel_rfl) rfl) ?_
 simp only [Act.put, List.setIfInBounds_toArray, List.set_cons_zero, List.set_cons_succ]
 refine wpAny_only 10 (by kernel_rfl) rfl (by kernel_rfl) ?_
 refine wp_of_valw (ex_allocD rfl) ?_
 have hal := (Below.refl V3.heap.size V3).alloc (Nat.le_refl _) (.cells #[.int .i64 0, .slice none 0 0] 41)
 have HB4 := Lib.hid (HB3.out.trans (hal.mono HB3.out.size))
 have HX4 := Lib.hid (heap_step HX3.out hal)
 have HP4 := Lib.hid (RdE.below HP3.out hal (Nat.le_refl _))
 have HS4 := Lib.hid (RdE.below HS3.out hal (Nat.le_refl _))
 have HI4 := Lib.hid (RdE.below HI3.out hal (Nat.le_refl _))
 have HT4 := Lib.hid (RdTT.below HT3.out hal (Nat.le_refl _))
 have HO4 := Lib.hid (own_step HO3.out hal)
 have HG4 : Hid ((V3.alloc (.cells #[.int .i64 0, .slice none 0 0] 41)).heap[V3.heap.size]? = some (.cells #[.int .i64 0, .slice none 0 0] 41)) := heap_alloc_new V3 _
 have hg7 : w.heap.size ≤ V3.heap.size := HB3.out.size
 clear hal
 generalize V3.heap.size = g7 at HG4 hg7 ⊢
 generalize V3.alloc (.cells #[.int .i64 0, .slice none 0 0] 41) = V4 at HG4 HB4 HX4 HP4 HS4 HI4 HT4 HO4 ⊢
 simp only [Act.put, List.setIfInBounds_toArray, List.set_cons_zero, List.set_cons_succ]
 refine wpAny_only 11 (by kernel_rfl) rfl (by kernel_rfl) ?_
 refine wp_storeD (.tmp 7) (.tmp 46) rfl rfl g7 1 A8 3 c8 (by kernel_rfl) (by kernel_rfl) HG4.out ?_
 have HBZ := Lib.hid ((HB4.out.setCell (p := ⟨g7, 0, none⟩) hg7 (.int .i64 1)).setCell (p := ⟨g7, 1, none⟩) hg7 (.slice A8 3 c8))
 have HGZ := Lib.hid (storeD_at (u0 := .int .i64 1) (u1 := .slice A8 3 c8) HG4.out)
 have HOZ := Lib.hid (own_same (w' := (V4.setCell ⟨g7, 0, none⟩ (.int .i64 1)).setCell ⟨g7, 1, none⟩ (.slice A8 3 c8)) HO4.out fun j hj => storeD_out (fun e => own_apart HO4.out HG4.out (by decide) j hj e))
 clear HB4 HX4 HP4 HS4 HI4 HT4 HG4 HO4
 generalize (V4.setCell ⟨g7, 0, none⟩ (.int .i64 1)).setCell ⟨g7, 1, none⟩ (.slice A8 3 c8) = V at HBZ HGZ HOZ ⊢
 simp only [Act.put, List.setIfInBounds_toArray, List.set_cons_zero, List.set_cons_succ]
 refine zzG 12 (.int .i64 0) (some 8) rfl ?_
 refine wpAny_done (by kernel_rfl) ?_ _
 simp only [Act.put, List.setIfInBounds_toArray, List.set_cons_zero, List.set_cons_succ]
 rotate_left 1
 refine wp_of_valw (ex_allocD rfl) ?_
 have hal := (Below.refl V2.heap.size V2).alloc (Nat.le_refl _) (.cells #[.int .i64 0, .slice none 0 0] 41)
 have HB3 := Lib.hid (HB2.out.trans (hal.mono HB2.out.size))
 have HX3 := Lib.hid (heap_step HX2.out hal)
 have HP3 := Lib.hid (RdE.below HP2.out hal (Nat.le_refl _))
 have HS3 := Lib.hid (RdE.below HS2.out hal (Nat.le_refl _))
 have HI3 := Lib.hid (RdE.below HI2.out hal (Nat.le_refl _))
 have HT3 := Lib.hid (RdTT.below HT2.out hal (Nat.le_refl _))
 have HG3 : Hid ((V2.alloc (.cells #[.int .i64 0, .slice none 0 0] 41)).heap[V2.heap.size]? = some (.cells #[.int .i64 0, .slice none 0 0] 41)) := heap_alloc_new V2 _
 have hg7 : w.heap.size ≤ V2.heap.size := HB2.out.size
 clear hal
 generalize V2.heap.size = g7 at HG3 hg7 ⊢
 generalize V2.alloc (.cells #[.int .i64 0, .slice none 0 0] 41) = V3 at HG3 HB3 HX3 HP3 HS3 HI3 HT3 ⊢
 simp only [Act.put, List.setIfInBounds_toArray, List.set_cons_zero, List.set_cons_succ]
 refine wpAny_only 6 (by kernel_rfl) rfl (by kernel_rfl) ?_
 refine wp_of_call (ex_callK4 _ rfl (by kernel_rfl) (by kernel_rfl) (by kernel_rfl) (by kernel_rfl) (enters_of Tryz.func32 (by kernel_rfl) rfl _ _)) (CRP.out gt V3 HB3.out HP3.out HS3.out HT3.out) ?_
 rintro e V4 ⟨A8, c8, rfl, ho, hb⟩
 have HB4 := Lib.hid (HB3.out.trans (hb.mono HB3.out.size))
 have HX4 := Lib.hid (heap_step HX3.out hb)
 have HP4 := Lib.hid (RdE.below HP3.out hb (Nat.le_refl _))
 have HS4 := Lib.hid (RdE.below HS3.out hb (Nat.le_refl _))
 have HI4 := Lib.hid (RdE.below HI3.out hb (Nat.le_refl _))
 have HT4 := Lib.hid (RdTT.below HT3.out hb (Nat.le_refl _))
 have HG4 := Lib.hid (heap_step HG3.out hb)
 have HO4 := Lib.hid (own_base ho HB3.out.size)
 clear ho hb
 refine ⟨.tuple #[.agg #[.int .i64 1, .slice A8 3 c8], .int .i64 0], rfl, ?_⟩
 simp only [Act.put, List.setIfInBounds_toArray, List.set_cons_zero, List.set_cons_succ]
 refine zzM 7 (.tuple #[.agg #[.int .i64 1, .slice A8 3 c8], .int .i64 0]) (some 38) rfl ?_
 refine zzA 8 (.agg #[.int .i64 1, .slice A8 3 c8]) (some 46) rfl (fun _ => ex_extract _ 0 #[.agg #[.int .i64 1, .slice A8 3 c8], .int .i64 0] (.agg #[.int .i64 1, .slice A8 3 c8]) rfl (by kernel_rfl) rfl) ?_
 refine zzA 9 (.int .i64 0) (some 47) rfl (fun _ => ex_extract _ 1 #[.agg #[.int .i64 1, .slice A8 3 c8], .int .i64 0] (.int .i64 0) rfl (by kernel_rfl) rfl) ?_
 simp only [Act.put, List.setIfInBounds_toArray, List.set_cons_zero, List.set_cons_succ]
 refine wpAny_only 11 (by kernel_rfl) rfl (by kernel_rfl) ?_
 refine wp_storeD (.tmp 7) (.tmp 46) rfl rfl g7 1 A8 3 c8 (by kernel_rfl) (by kernel_rfl) HG4.out ?_
 have HBZ := Lib.hid ((HB4.out.setCell (p := ⟨g7, 0, none⟩) hg7 (.int .i64 1)).setCell (p := ⟨g7, 1, none⟩) hg7 (.slice A8 3 c8))
 have HGZ := Lib.hid (storeD_at (u0 := .int .i64 1) (u1 := .slice A8 3 c8) HG4.out)
 have HOZ := Lib.hid (own_same (w' := (V4.setCell ⟨g7, 0, none⟩ (.int .i64 1)).setCell ⟨g7, 1, none⟩ (.slice A8 3 c8)) HO4.out fun j hj => storeD_out (fun e => own_apart HO4.out HG4.out (by decide) j hj e))
 clear HB4 HX4 HP4 HS4 HI4 HT4 HG4 HO4
 generalize (V4.setCell ⟨g7, 0, none⟩ (.int .i64 1)).setCell ⟨g7, 1, none⟩ (.slice A8 3 c8) = V at HBZ HGZ HOZ ⊢
 simp only [Act.put, List.setIfInBounds_toArray, List.set_cons_zero, List.set_cons_succ]
 refine zzG 12 (.int .i64 0) (some 8) rfl ?_
 refine wpAny_done (by kernel_rfl) ?_ _
 simp only [Act.put, List.setIfInBounds_toArray, List.set_cons_zero, List.set_cons_succ]
 rotate_left 1
 refine wp_of_valw (ex_allocD rfl) ?_
 have hal := (Below.refl V1.heap.size V1).alloc (Nat.le_refl _) (.cells #[.int .i64 0, .slice none 0 0] 41)
 have HB2 := Lib.hid (HB1.out.trans (hal.mono HB1.out.size))
 have HX2 := Lib.hid (heap_step HX1.out hal)
 have HP2 := Lib.hid (RdE.below HP1.out hal (Nat.le_refl _))
 have HS2 := Lib.hid (RdE.below HS1.out hal (Nat.le_refl _))
 have HI2 := Lib.hid (RdE.below HI1.out hal (Nat.le_refl _))
 have HG2 : Hid ((V1.alloc (.cells #[.int .i64 0, .slice none 0 0] 41)).heap[V1.heap.size]? = some (.cells #[.int .i64 0, .slice none 0 0] 41)) := heap_alloc_new V1 _
 have hg7 : w.heap.size ≤ V1.heap.size := HB1.out.size
 clear hal
 generalize V1.heap.size = g7 at HG2 hg7 ⊢
 generalize V1.alloc (.cells #[.int .i64 0, .slice none 0 0] 41) = V2 at HG2 HB2 HX2 HP2 HS2 HI2 ⊢
 simp only [Act.put, List.setIfInBounds_toArray, List.set_cons_zero, List.set_cons_succ]
 refine wpAny_only 5 (by kernel_rfl) rfl (by kernel_rfl) ?_
 refine wp_of_valw (ex_box24 (.tmp 43) (some ⟨gi, 0, none⟩) 1 1 rfl (by kernel_rfl)) ?_
 have hal := (Below.refl V2.heap.size V2).alloc (Nat.le_refl _) (.cells #[.slice (some ⟨gi, 0, none⟩) 1 1] 24)
 have HB3 := Lib.hid (HB2.out.trans (hal.mono HB2.out.size))
 have HX3 := Lib.hid (heap_step HX2.out hal)
 have HP3 := Lib.hid (RdE.below HP2.out hal (Nat.le_refl _))
 have HS3 := Lib.hid (RdE.below HS2.out hal (Nat.le_refl _))
 have HI3 := Lib.hid (RdE.below HI2.out hal (Nat.le_refl _))
 have HG3 := Lib.hid (heap_step HG2.out hal)
 have HT3 : Hid (RdTT (V2.alloc (.cells #[.slice (some ⟨gi, 0, none⟩) 1 1] 24)) (.slice (some ⟨V2.heap.size, 0, none⟩) 1 1) [knG]) := rdTT_one V2 gi knG rfl HI2.out
 clear hal
 generalize V2.heap.size = gt at HT3 ⊢
 generalize V2.alloc (.cells #[.slice (some ⟨gi, 0, none⟩) 1 1] 24) = V3 at HT3 HB3 HX3 HP3 HS3 HI3 HG3 ⊢
 simp only [Act.put, List.setIfInBounds_toArray, List.set_cons_zero, List.set_cons_succ]
 refine wpAny_only 6 (by kernel_rfl) rfl (by kernel_rfl) ?_
 refine wp_of_call (ex_callK4 _ rfl (by kernel_rfl) (by kernel_rfl) (by kernel_rfl) (by kernel_rfl) (enters_of Tryz.func32 (by kernel_rfl) rfl _ _)) (CRP.out gt V3 HB3.out HP3.out HS3.out HT3.out) ?_
 rintro e V4 ⟨A8, c8, rfl, ho, hb⟩
 have HB4 := Lib.hid (HB3.out.trans (hb.mono HB3.out.size))
 have HX4 := Lib.hid (heap_step HX3.out hb)
 have HP4 := Lib.hid (RdE.below HP3.out hb (Nat.le_refl _))
 have HS4 := Lib.hid (RdE.below HS3.out hb (Nat.le_refl _))
 have HI4 := Lib.hid (RdE.below HI3.out hb (Nat.le_refl _))
 have HT4 := Lib.hid (RdTT.below HT3.out hb (Nat.le_refl _))
 have HG4 := Lib.hid (heap_step HG3.out hb)
 have HO4 := Lib.hid (own_base ho HB3.out.size)
 clear ho hb
 refine ⟨.tuple #[.agg #[.int .i64 1, .slice A8 3 c8], .int .i64 0], rfl, ?_⟩
 simp only [Act.put, List.setIfInBounds_toArray, List.set_cons_zero, List.set_cons_succ]
 refine zzM 7 (.tuple #[.agg #[.int .i64 1, .slice A8 3 c8], .int .i64 0]) (some 38) rfl ?_
 refine zzA 8 (.agg #[.int .i64 1, .slice A8 3 c8]) (some 46) rfl (fun _ => ex_extract _ 0 #[.agg #[.int .i64 1, .slice A8 3 c8], .int .i64 0] (.agg #[.int .i64 1, .slice A8 3 c8]) rfl (by kernel_rfl) rfl) ?_
 refine zzA 9 (.int .i64 0) (some 47) rfl (fun _ => ex_extract _ 1 #[.agg #[.int .i64 1, .slice A8 3 c8], .int .i64 0] (.int .i64 0) rfl (by kernel_rfl) rfl) ?_
 simp only [Act.put, List.setIfInBounds_toArray, List.set_cons_zero, List.set_cons_succ]
 refine wpAny_only 11 (by kernel_rfl) rfl (by kernel_rfl) ?_
 refine wp_storeD (.tmp 7) (.tmp 46) rfl rfl g7 1 A8 3 c8 (by kernel_rfl) (by kernel_rfl) HG4.out ?_
 have HBZ := Lib.hid ((HB4.out.setCell (p := ⟨g7, 0, none⟩) hg7 (.int .i64 1)).setCell (p := ⟨g7, 1, none⟩) hg7 (.slice A8 3 c8))
 have HGZ := Lib.hid (storeD_at (u0 := .int .i64 1) (u1 := .slice A8 3 c8) HG4.out)
 have HOZ := Lib.hid (own_same (w' := (V4.setCell ⟨g7, 0, none⟩ (.int .i64 1)).setCell ⟨g7, 1, none⟩ (.slice A8 3 c8)) HO4.out fun j hj => storeD_out (fun e => own_apart HO4.out HG4.out (by decide) j hj e))
 clear HB4 HX4 HP4 HS4 HI4 HT4 HG4 HO4
 generalize (V4.setCell ⟨g7, 0, none⟩ (.int .i64 1)).setCell ⟨g7, 1, none⟩ (.slice A8 3 c8) = V at HBZ HGZ HOZ ⊢
 simp only [Act.put, List.setIfInBounds_toArray, List.set_cons_zero, List.set_cons_succ]
 refine zzG 12 (.int .i64 0) (some 8) rfl ?_
 refine wpAny_done (by kernel_rfl) ?_ _
 simp only [Act.put, List.setIfInBounds_toArray, List.set_cons_zero, List.set_cons_succ]
 rotate_left 1
 refine wp_of_valw (ex_allocD rfl) ?_
 have hal := (Below.refl V0.heap.size V0).alloc (Nat.le_refl _) (.cells #[.int .i64 0, .slice none 0 0] 41)
 have HB1 := Lib.hid (HB0.out.trans (hal.mono HB0.out.size))
 have HX1 := Lib.hid (heap_step HX0.out hal)
 have HP1 := Lib.hid (RdE.below HP0.out hal (Nat.le_refl _))
 have HS1 := Lib.hid (RdE.below HS0.out hal (Nat.le_refl _))
 have HG1 : Hid ((V0.alloc (.cells #[.int .i64 0, .slice none 0 0] 41)).heap[V0.heap.size]? = some (.cells #[.int .i64 0, .slice none 0 0] 41)) := heap_alloc_new V0 _
 have hg7 : w.heap.size ≤ V0.heap.size := HB0.out.size
 clear hal
 generalize V0.heap.size = g7 at HG1 hg7 ⊢
 generalize V0.alloc (.cells #[.int .i64 0, .slice none 0 0] 41) = V1 at HG1 HB1 HX1 HP1 HS1 ⊢
 simp only [Act.put, List.setIfInBounds_toArray, List.set_cons_zero, List.set_cons_succ]
 refine wpAny_only 4 (by kernel_rfl) rfl (by kernel_rfl) ?_
 refine wp_of_valw (ex_box31 (.tmp 42) (⟨#[83, 105, 99, 104, 101, 114, 110, 46]⟩ : ByteArray) rfl (by kernel_rfl)) ?_
 have hal := (Below.refl V1.heap.size V1).alloc (Nat.le_refl _) (.cells #[.int .i64 1, .string (⟨#[83, 105, 99, 104, 101, 114, 110, 46]⟩ : ByteArray), .int .i64 0] 31)
 have HB2 := Lib.hid (HB1.out.trans (hal.mono HB1.out.size))
 have HX2 := Lib.hid (heap_step HX1.out hal)
 have HP2 := Lib.hid (RdE.below HP1.out hal (Nat.le_refl _))
 have HS2 := Lib.hid (RdE.below HS1.out hal (Nat.le_refl _))
 have HG2 := Lib.hid (heap_step HG1.out hal)
 have HI2 : Hid (RdT (V1.alloc (.cells #[.int .i64 1, .string (⟨#[83, 105, 99, 104, 101, 114, 110, 46]⟩ : ByteArray), .int .i64 0] 31)) (.slice (some ⟨V1.heap.size, 0, none⟩) 1 1) knG) := rdE_oneR tkC 3 tkC_three V1 _ rfl ⟨1, (⟨#[83, 105, 99, 104, 101, 114, 110, 46]⟩ : ByteArray), 0⟩ _
 clear hal
 generalize V1.heap.size = gi at HI2 ⊢
 generalize V1.alloc (.cells #[.int .i64 1, .string (⟨#[83, 105, 99, 104, 101, 114, 110, 46]⟩ : ByteArray), .int .i64 0] 31) = V2 at HI2 HB2 HX2 HP2 HS2 HG2 ⊢
 simp only [Act.put, List.setIfInBounds_toArray, List.set_cons_zero, List.set_cons_succ]
 refine wpAny_only 5 (by kernel_rfl) rfl (by kernel_rfl) ?_
 refine wp_of_valw (ex_box24 (.tmp 43) (some ⟨gi, 0, none⟩) 1 1 rfl (by kernel_rfl)) ?_
 have hal := (Below.refl V2.heap.size V2).alloc (Nat.le_refl _) (.cells #[.slice (some ⟨gi, 0, none⟩) 1 1] 24)
 have HB3 := Lib.hid (HB2.out.trans (hal.mono HB2.out.size))
 have HX3 := Lib.hid (heap_step HX2.out hal)
 have HP3 := Lib.hid (RdE.below HP2.out hal (Nat.le_refl _))
 have HS3 := Lib.hid (RdE.below HS2.out hal (Nat.le_refl _))
 have HI3 := Lib.hid (RdE.below HI2.out hal (Nat.le_refl _))
 have HG3 := Lib.hid (heap_step HG2.out hal)
 have HT3 : Hid (RdTT (V2.alloc (.cells #[.slice (some ⟨gi, 0, none⟩) 1 1] 24)) (.slice (some ⟨V2.heap.size, 0, none⟩) 1 1) [knG]) := rdTT_one V2 gi knG rfl HI2.out
 clear hal
 generalize V2.heap.size = gt at HT3 ⊢
 generalize V2.alloc (.cells #[.slice (some ⟨gi, 0, none⟩) 1 1] 24) = V3 at HT3 HB3 HX3 HP3 HS3 HI3 HG3 ⊢
 simp only [Act.put, List.setIfInBounds_toArray, List.set_cons_zero, List.set_cons_succ]
 refine wpAny_only 6 (by kernel_rfl) rfl (by kernel_rfl) ?_
 refine wp_of_call (ex_callK4 _ rfl (by kernel_rfl) (by kernel_rfl) (by kernel_rfl) (by kernel_rfl) (enters_of Tryz.func32 (by kernel_rfl) rfl _ _)) (CRP.out gt V3 HB3.out HP3.out HS3.out HT3.out) ?_
 rintro e V4 ⟨A8, c8, rfl, ho, hb⟩
 have HB4 := Lib.hid (HB3.out.trans (hb.mono HB3.out.size))
 have HX4 := Lib.hid (heap_step HX3.out hb)
 have HP4 := Lib.hid (RdE.below HP3.out hb (Nat.le_refl _))
 have HS4 := Lib.hid (RdE.below HS3.out hb (Nat.le_refl _))
 have HI4 := Lib.hid (RdE.below HI3.out hb (Nat.le_refl _))
 have HT4 := Lib.hid (RdTT.below HT3.out hb (Nat.le_refl _))
 have HG4 := Lib.hid (heap_step HG3.out hb)
 have HO4 := Lib.hid (own_base ho HB3.out.size)
 clear ho hb
 refine ⟨.tuple #[.agg #[.int .i64 1, .slice A8 3 c8], .int .i64 0], rfl, ?_⟩
 simp only [Act.put, List.setIfInBounds_toArray, List.set_cons_zero, List.set_cons_succ]
 refine zzM 7 (.tuple #[.agg #[.int .i64 1, .slice A8 3 c8], .int .i64 0]) (some 38) rfl ?_
 refine zzA 8 (.agg #[.int .i64 1, .slice A8 3 c8]) (some 46) rfl (fun _ => ex_extract _ 0 #[.agg #[.int .i64 1, .slice A8 3 c8], .int .i64 0] (.agg #[.int .i64 1, .slice A8 3 c8]) rfl (by kernel_rfl) rfl) ?_
 refine zzA 9 (.int .i64 0) (some 47) rfl (fun _ => ex_extract _ 1 #[.agg #[.int .i64 1, .slice A8 3 c8], .int .i64 0] (.int .i64 0) rfl (by kernel_rfl) rfl) ?_
 simp only [Act.put, List.setIfInBounds_toArray, List.set_cons_zero, List.set_cons_succ]
 refine wpAny_only 11 (by kernel_rfl) rfl (by kernel_rfl) ?_
 refine wp_storeD (.tmp 7) (.tmp 46) rfl rfl g7 1 A8 3 c8 (by kernel_rfl) (by kernel_rfl) HG4.out ?_
 have HBZ := Lib.hid ((HB4.out.setCell (p := ⟨g7, 0, none⟩) hg7 (.int .i64 1)).setCell (p := ⟨g7, 1, none⟩) hg7 (.slice A8 3 c8))
 have HGZ := Lib.hid (storeD_at (u0 := .int .i64 1) (u1 := .slice A8 3 c8) HG4.out)
 have HOZ := Lib.hid (own_same (w' := (V4.setCell ⟨g7, 0, none⟩ (.int .i64 1)).setCell ⟨g7, 1, none⟩ (.slice A8 3 c8)) HO4.out fun j hj => storeD_out (fun e => own_apart HO4.out HG4.out (by decide) j hj e))
 clear HB4 HX4 HP4 HS4 HI4 HT4 HG4 HO4
 generalize (V4.setCell ⟨g7, 0, none⟩ (.int .i64 1)).setCell ⟨g7, 1, none⟩ (.slice A8 3 c8) = V at HBZ HGZ HOZ ⊢
 simp only [Act.put, List.setIfInBounds_toArray, List.set_cons_zero, List.set_cons_succ]
 refine zzG 12 (.int .i64 0) (some 8) rfl ?_
 refine wpAny_done (by kernel_rfl) ?_ _
 simp only [Act.put, List.setIfInBounds_toArray, List.set_cons_zero, List.set_cons_succ]
 rotate_left 1
 refine wp_of_valw (ex_box31 (.tmp 42) (⟨#[83, 105, 99, 104, 101, 114, 110, 46]⟩ : ByteArray) rfl (by kernel_rfl)) ?_
 have hal := (Below.refl V0.heap.size V0).alloc (Nat.le_refl _) (.cells #[.int .i64 1, .string (⟨#[83, 105, 99, 104, 101, 114, 110, 46]⟩ : ByteArray), .int .i64 0] 31)
 have HB1 := Lib.hid (HB0.out.trans (hal.mono HB0.out.size))
 have HX1 := Lib.hid (heap_step HX0.out hal)
 have HP1 := Lib.hid (RdE.below HP0.out hal (Nat.le_refl _))
 have HS1 := Lib.hid (RdE.below HS0.out hal (Nat.le_refl _))
 have HI1 : Hid (RdT (V0.alloc (.cells #[.int .i64 1, .string (⟨#[83, 105, 99, 104, 101, 114, 110, 46]⟩ : ByteArray), .int .i64 0] 31)) (.slice (some ⟨V0.heap.size, 0, none⟩) 1 1) knG) := rdE_oneR tkC 3 tkC_three V0 _ rfl ⟨1, (⟨#[83, 105, 99, 104, 101, 114, 110, 46]⟩ : ByteArray), 0⟩ _
 clear hal
 generalize V0.heap.size = gi at HI1 ⊢
 generalize V0.alloc (.cells #[.int .i64 1, .string (⟨#[83, 105, 99, 104, 101, 114, 110, 46]⟩ : ByteArray), .int .i64 0] 31) = V1 at HI1 HB1 HX1 HP1 HS1 ⊢
 simp only [Act.put, List.setIfInBounds_toArray, List.set_cons_zero, List.set_cons_succ]
 refine wpAny_ops3 0 5 10 (by kernel_rfl) rfl rfl rfl (by kernel_rfl) (by kernel_rfl) (by kernel_rfl) ?_ ?_ ?_
 refine wp_of_val (v := .agg #[.int .i64 1, .slice A 3 c]) (ex_load 41 _ (.pointer (some ⟨g, 0, none⟩)) _ rfl (by kernel_rfl) (ldT_doc (bx2 HX1.out).1 (bx2 HX1.out).2.1)) ?_
 simp only [Act.put, List.setIfInBounds_toArray, List.set_cons_zero, List.set_cons_succ]
 refine wpAny_two 5 10 (by kernel_rfl) rfl rfl (by kernel_rfl) (by kernel_rfl) ?_ ?_
 refine wp_of_valw (ex_box24 (.tmp 43) (some ⟨gi, 0, none⟩) 1 1 rfl (by kernel_rfl)) ?_
 have hal := (Below.refl V1.heap.size V1).alloc (Nat.le_refl _) (.cells #[.slice (some ⟨gi, 0, none⟩) 1 1] 24)
 have HB2 := Lib.hid (HB1.out.trans (hal.mono HB1.out.size))
 have HX2 := Lib.hid (heap_step HX1.out hal)
 have HP2 := Lib.hid (RdE.below HP1.out hal (Nat.le_refl _))
 have HS2 := Lib.hid (RdE.below HS1.out hal (Nat.le_refl _))
 have HI2 := Lib.hid (RdE.below HI1.out hal (Nat.le_refl _))
 have HT2 : Hid (RdTT (V1.alloc (.cells #[.slice (some ⟨gi, 0, none⟩) 1 1] 24)) (.slice (some ⟨V1.heap.size, 0, none⟩) 1 1) [knG]) := rdTT_one V1 gi knG rfl HI1.out
 clear hal
 generalize V1.heap.size = gt at HT2 ⊢
 generalize V1.alloc (.cells #[.slice (some ⟨gi, 0, none⟩) 1 1] 24) = V2 at HT2 HB2 HX2 HP2 HS2 HI2 ⊢
 simp only [Act.put, List.setIfInBounds_toArray, List.set_cons_zero, List.set_cons_succ]
 refine wpAny_two 6 10 (by kernel_rfl) rfl rfl (by kernel_rfl) (by kernel_rfl) ?_ ?_
 refine wp_of_call (ex_callK4 _ rfl (by kernel_rfl) (by kernel_rfl) (by kernel_rfl) (by kernel_rfl) (enters_of Tryz.func32 (by kernel_rfl) rfl _ _)) (CRP.out gt V2 HB2.out HP2.out HS2.out HT2.out) ?_
 rintro e V3 ⟨A8, c8, rfl, ho, hb⟩
 have HB3 := Lib.hid (HB2.out.trans (hb.mono HB2.out.size))
 have HX3 := Lib.hid (heap_step HX2.out hb)
 have HP3 := Lib.hid (RdE.below HP2.out hb (Nat.le_refl _))
 have HS3 := Lib.hid (RdE.below HS2.out hb (Nat.le_refl _))
 have HI3 := Lib.hid (RdE.below HI2.out hb (Nat.le_refl _))
 have HT3 := Lib.hid (RdTT.below HT2.out hb (Nat.le_refl _))
 have HO3 := Lib.hid (own_base ho HB2.out.size)
 clear ho hb
 refine ⟨.tuple #[.agg #[.int .i64 1, .slice A8 3 c8], .int .i64 0], rfl, ?_⟩
 simp only [Act.put, List.setIfInBounds_toArray, List.set_cons_zero, List.set_cons_succ]
 refine zzM 7 (.tuple #[.agg #[.int .i64 1, .slice A8 3 c8], .int .i64 0]) (some 38) rfl ?_
 refine zzA 8 (.agg #[.int .i64 1, .slice A8 3 c8]) (some 46) rfl (fun _ => ex_extract _ 0 #[.agg #[.int .i64 1, .slice A8 3 c8], .int .i64 0] (.agg #[.int .i64 1, .slice A8 3 c8]) rfl (by kernel_rfl) rfl) ?_
 refine zzA 9 (.int .i64 0) (some 47) rfl (fun _ => ex_extract _ 1 #[.agg #[.int .i64 1, .slice A8 3 c8], .int .i64 0] (.int .i64 0) rfl (by kernel_rfl) rfl) ?_
 simp only [Act.put, List.setIfInBounds_toArray, List.set_cons_zero, List.set_cons_succ]
 refine wpAny_only 10 (by kernel_rfl) rfl (by kernel_rfl) ?_
 refine wp_of_valw (ex_allocD rfl) ?_
 have hal := (Below.refl V3.heap.size V3).alloc (Nat.le_refl _) (.cells #[.int .i64 0, .slice none 0 0] 41)
 have HB4 := Lib.hid (HB3.out.trans (hal.mono HB3.out.size))
 have HX4 := Lib.hid (heap_step HX3.out hal)
 have HP4 := Lib.hid (RdE.below HP3.out hal (Nat.le_refl _))
 have HS4 := Lib.hid (RdE.below HS3.out hal (Nat.le_refl _))
 have HI4 := Lib.hid (RdE.below HI3.out hal (Nat.le_refl _))
 have HT4 := Lib.hid (RdTT.below HT3.out hal (Nat.le_refl _))
 have HO4 := Lib.hid (own_step HO3.out hal)
 have HG4 : Hid ((V3.alloc (.cells #[.int .i64 0, .slice none 0 0] 41)).heap[V3.heap.size]? = some (.cells #[.int .i64 0, .slice none 0 0] 41)) := heap_alloc_new V3 _
 have hg7 : w.heap.size ≤ V3.heap.size := HB3.out.size
 clear hal
 generalize V3.heap.size = g7 at HG4 hg7 ⊢
 generalize V3.alloc (.cells #[.int .i64 0, .slice none 0 0] 41) = V4 at HG4 HB4 HX4 HP4 HS4 HI4 HT4 HO4 ⊢
 simp only [Act.put, List.setIfInBounds_toArray, List.set_cons_zero, List.set_cons_succ]
 refine wpAny_only 11 (by kernel_rfl) rfl (by kernel_rfl) ?_
 refine wp_storeD (.tmp 7) (.tmp 46) rfl rfl g7 1 A8 3 c8 (by kernel_rfl) (by kernel_rfl) HG4.out ?_
 have HBZ := Lib.hid ((HB4.out.setCell (p := ⟨g7, 0, none⟩) hg7 (.int .i64 1)).setCell (p := ⟨g7, 1, none⟩) hg7 (.slice A8 3 c8))
 have HGZ := Lib.hid (storeD_at (u0 := .int .i64 1) (u1 := .slice A8 3 c8) HG4.out)
 have HOZ := Lib.hid (own_same (w' := (V4.setCell ⟨g7, 0, none⟩ (.int .i64 1)).setCell ⟨g7, 1, none⟩ (.slice A8 3 c8)) HO4.out fun j hj => storeD_out (fun e => own_apart HO4.out HG4.out (by decide) j hj e))
 clear HB4 HX4 HP4 HS4 HI4 HT4 HG4 HO4
 generalize (V4.setCell ⟨g7, 0, none⟩ (.int .i64 1)).setCell ⟨g7, 1, none⟩ (.slice A8 3 c8) = V at HBZ HGZ HOZ ⊢
 simp only [Act.put, List.setIfInBounds_toArray, List.set_cons_zero, List.set_cons_succ]
 refine zzG 12 (.int .i64 0) (some 8) rfl ?_
 refine wpAny_done (by kernel_rfl) ?_ _
 simp only [Act.put, List.setIfInBounds_toArray, List.set_cons_zero, List.set_cons_succ]
 rotate_left 1
 refine wp_of_valw (ex_allocD rfl) ?_
 have hal := (Below.refl V2.heap.size V2).alloc (Nat.le_refl _) (.cells #[.int .i64 0, .slice none 0 0] 41)
 have HB3 := Lib.hid (HB2.out.trans (hal.mono HB2.out.size))
 have HX3 := Lib.hid (heap_step HX2.out hal)
 have HP3 := Lib.hid (RdE.below HP2.out hal (Nat.le_refl _))
 have HS3 := Lib.hid (RdE.below HS2.out hal (Nat.le_refl _))
 have HI3 := Lib.hid (RdE.below HI2.out hal (Nat.le_refl _))
 have HT3 := Lib.hid (RdTT.below HT2.out hal (Nat.le_refl _))
 have HG3 : Hid ((V2.alloc (.cells #[.int .i64 0, .slice none 0 0] 41)).heap[V2.heap.size]? = some (.cells #[.int .i64 0, .slice none 0 0] 41)) := heap_alloc_new V2 _
 have hg7 : w.heap.size ≤ V2.heap.size := HB2.out.size
 clear hal
 generalize V2.heap.size = g7 at HG3 hg7 ⊢
 generalize V2.alloc (.cells #[.int .i64 0, .slice none 0 0] 41) = V3 at HG3 HB3 HX3 HP3 HS3 HI3 HT3 ⊢
 simp only [Act.put, List.setIfInBounds_toArray, List.set_cons_zero, List.set_cons_succ]
 refine wpAny_only 6 (by kernel_rfl) rfl (by kernel_rfl) ?_
 refine wp_of_call (ex_callK4 _ rfl (by kernel_rfl) (by kernel_rfl) (by kernel_rfl) (by kernel_rfl) (enters_of Tryz.func32 (by kernel_rfl) rfl _ _)) (CRP.out gt V3 HB3.out HP3.out HS3.out HT3.out) ?_
 rintro e V4 ⟨A8, c8, rfl, ho, hb⟩
 have HB4 := Lib.hid (HB3.out.trans (hb.mono HB3.out.size))
 have HX4 := Lib.hid (heap_step HX3.out hb)
 have HP4 := Lib.hid (RdE.below HP3.out hb (Nat.le_refl _))
 have HS4 := Lib.hid (RdE.below HS3.out hb (Nat.le_refl _))
 have HI4 := Lib.hid (RdE.below HI3.out hb (Nat.le_refl _))
 have HT4 := Lib.hid (RdTT.below HT3.out hb (Nat.le_refl _))
 have HG4 := Lib.hid (heap_step HG3.out hb)
 have HO4 := Lib.hid (own_base ho HB3.out.size)
 clear ho hb
 refine ⟨.tuple #[.agg #[.int .i64 1, .slice A8 3 c8], .int .i64 0], rfl, ?_⟩
 simp only [Act.put, List.setIfInBounds_toArray, List.set_cons_zero, List.set_cons_succ]
 refine zzM 7 (.tuple #[.agg #[.int .i64 1, .slice A8 3 c8], .int .i64 0]) (some 38) rfl ?_
 refine zzA 8 (.agg #[.int .i64 1, .slice A8 3 c8]) (some 46) rfl (fun _ => ex_extract _ 0 #[.agg #[.int .i64 1, .slice A8 3 c8], .int .i64 0] (.agg #[.int .i64 1, .slice A8 3 c8]) rfl (by kernel_rfl) rfl) ?_
 refine zzA 9 (.int .i64 0) (some 47) rfl (fun _ => ex_extract _ 1 #[.agg #[.int .i64 1, .slice A8 3 c8], .int .i64 0] (.int .i64 0) rfl (by kernel_rfl) rfl) ?_
 simp only [Act.put, List.setIfInBounds_toArray, List.set_cons_zero, List.set_cons_succ]
 refine wpAny_only 11 (by kernel_rfl) rfl (by kernel_rfl) ?_
 refine wp_storeD (.tmp 7) (.tmp 46) rfl rfl g7 1 A8 3 c8 (by kernel_rfl) (by kernel_rfl) HG4.out ?_
 have HBZ := Lib.hid ((HB4.out.setCell (p := ⟨g7, 0, none⟩) hg7 (.int .i64 1)).setCell (p := ⟨g7, 1, none⟩) hg7 (.slice A8 3 c8))
 have HGZ := Lib.hid (storeD_at (u0 := .int .i64 1) (u1 := .slice A8 3 c8) HG4.out)
 have HOZ := Lib.hid (own_same (w' := (V4.setCell ⟨g7, 0, none⟩ (.int .i64 1)).setCell ⟨g7, 1, none⟩ (.slice A8 3 c8)) HO4.out fun j hj => storeD_out (fun e => own_apart HO4.out HG4.out (by decide) j hj e))
 clear HB4 HX4 HP4 HS4 HI4 HT4 HG4 HO4
 generalize (V4.setCell ⟨g7, 0, none⟩ (.int .i64 1)).setCell ⟨g7, 1, none⟩ (.slice A8 3 c8) = V at HBZ HGZ HOZ ⊢
 simp only [Act.put, List.setIfInBounds_toArray, List.set_cons_zero, List.set_cons_succ]
 refine zzG 12 (.int .i64 0) (some 8) rfl ?_
 refine wpAny_done (by kernel_rfl) ?_ _
 simp only [Act.put, List.setIfInBounds_toArray, List.set_cons_zero, List.set_cons_succ]
 rotate_left 1
 refine wp_of_valw (ex_allocD rfl) ?_
 have hal := (Below.refl V1.heap.size V1).alloc (Nat.le_refl _) (.cells #[.int .i64 0, .slice none 0 0] 41)
 have HB2 := Lib.hid (HB1.out.trans (hal.mono HB1.out.size))
 have HX2 := Lib.hid (heap_step HX1.out hal)
 have HP2 := Lib.hid (RdE.below HP1.out hal (Nat.le_refl _))
 have HS2 := Lib.hid (RdE.below HS1.out hal (Nat.le_refl _))
 have HI2 := Lib.hid (RdE.below HI1.out hal (Nat.le_refl _))
 have HG2 : Hid ((V1.alloc (.cells #[.int .i64 0, .slice none 0 0] 41)).heap[V1.heap.size]? = some (.cells #[.int .i64 0, .slice none 0 0] 41)) := heap_alloc_new V1 _
 have hg7 : w.heap.size ≤ V1.heap.size := HB1.out.size
 clear hal
 generalize V1.heap.size = g7 at HG2 hg7 ⊢
 generalize V1.alloc (.cells #[.int .i64 0, .slice none 0 0] 41) = V2 at HG2 HB2 HX2 HP2 HS2 HI2 ⊢
 simp only [Act.put, List.setIfInBounds_toArray, List.set_cons_zero, List.set_cons_succ]
 refine wpAny_only 5 (by kernel_rfl) rfl (by kernel_rfl) ?_
 refine wp_of_valw (ex_box24 (.tmp 43) (some ⟨gi, 0, none⟩) 1 1 rfl (by kernel_rfl)) ?_
 have hal := (Below.refl V2.heap.size V2).alloc (Nat.le_refl _) (.cells #[.slice (some ⟨gi, 0, none⟩) 1 1] 24)
 have HB3 := Lib.hid (HB2.out.trans (hal.mono HB2.out.size))
 have HX3 := Lib.hid (heap_step HX2.out hal)
 have HP3 := Lib.hid (RdE.below HP2.out hal (Nat.le_refl _))
 have HS3 := Lib.hid (RdE.below HS2.out hal (Nat.le_refl _))
 have HI3 := Lib.hid (RdE.below HI2.out hal (Nat.le_refl _))
 have HG3 := Lib.hid (heap_step HG2.out hal)
 have HT3 : Hid (RdTT (V2.alloc (.cells #[.slice (some ⟨gi, 0, none⟩) 1 1] 24)) (.slice (some ⟨V2.heap.size, 0, none⟩) 1 1) [knG]) := rdTT_one V2 gi knG rfl HI2.out
 clear hal
 generalize V2.heap.size = gt at HT3 ⊢
 generalize V2.alloc (.cells #[.slice (some ⟨gi, 0, none⟩) 1 1] 24) = V3 at HT3 HB3 HX3 HP3 HS3 HI3 HG3 ⊢
 simp only [Act.put, List.setIfInBounds_toArray, List.set_cons_zero, List.set_cons_succ]
 refine wpAny_only 6 (by kernel_rfl) rfl (by kernel_rfl) ?_
 refine wp_of_call (ex_callK4 _ rfl (by kernel_rfl) (by kernel_rfl) (by kernel_rfl) (by kernel_rfl) (enters_of Tryz.func32 (by kernel_rfl) rfl _ _)) (CRP.out gt V3 HB3.out HP3.out HS3.out HT3.out) ?_
 rintro e V4 ⟨A8, c8, rfl, ho, hb⟩
 have HB4 := Lib.hid (HB3.out.trans (hb.mono HB3.out.size))
 have HX4 := Lib.hid (heap_step HX3.out hb)
 have HP4 := Lib.hid (RdE.below HP3.out hb (Nat.le_refl _))
 have HS4 := Lib.hid (RdE.below HS3.out hb (Nat.le_refl _))
 have HI4 := Lib.hid (RdE.below HI3.out hb (Nat.le_refl _))
 have HT4 := Lib.hid (RdTT.below HT3.out hb (Nat.le_refl _))
 have HG4 := Lib.hid (heap_step HG3.out hb)
 have HO4 := Lib.hid (own_base ho HB3.out.size)
 clear ho hb
 refine ⟨.tuple #[.agg #[.int .i64 1, .slice A8 3 c8], .int .i64 0], rfl, ?_⟩
 simp only [Act.put, List.setIfInBounds_toArray, List.set_cons_zero, List.set_cons_succ]
 refine zzM 7 (.tuple #[.agg #[.int .i64 1, .slice A8 3 c8], .int .i64 0]) (some 38) rfl ?_
 refine zzA 8 (.agg #[.int .i64 1, .slice A8 3 c8]) (some 46) rfl (fun _ => ex_extract _ 0 #[.agg #[.int .i64 1, .slice A8 3 c8], .int .i64 0] (.agg #[.int .i64 1, .slice A8 3 c8]) rfl (by kernel_rfl) rfl) ?_
 refine zzA 9 (.int .i64 0) (some 47) rfl (fun _ => ex_extract _ 1 #[.agg #[.int .i64 1, .slice A8 3 c8], .int .i64 0] (.int .i64 0) rfl (by kernel_rfl) rfl) ?_
 simp only [Act.put, List.setIfInBounds_toArray, List.set_cons_zero, List.set_cons_succ]
 refine wpAny_only 11 (by kernel_rfl) rfl (by kernel_rfl) ?_
 refine wp_storeD (.tmp 7) (.tmp 46) rfl rfl g7 1 A8 3 c8 (by kernel_rfl) (by kernel_rfl) HG4.out ?_
 have HBZ := Lib.hid ((HB4.out.setCell (p := ⟨g7, 0, none⟩) hg7 (.int .i64 1)).setCell (p := ⟨g7, 1, none⟩) hg7 (.slice A8 3 c8))
 have HGZ := Lib.hid (storeD_at (u0 := .int .i64 1) (u1 := .slice A8 3 c8) HG4.out)
 have HOZ := Lib.hid (own_same (w' := (V4.setCell ⟨g7, 0, none⟩ (.int .i64 1)).setCell ⟨g7, 1, none⟩ (.slice A8 3 c8)) HO4.out fun j hj => storeD_out (fun e => own_apart HO4.out HG4.out (by decide) j hj e))
 clear HB4 HX4 HP4 HS4 HI4 HT4 HG4 HO4
 generalize (V4.setCell ⟨g7, 0, none⟩ (.int .i64 1)).setCell ⟨g7, 1, none⟩ (.slice A8 3 c8) = V at HBZ HGZ HOZ ⊢
 simp only [Act.put, List.setIfInBounds_toArray, List.set_cons_zero, List.set_cons_succ]
 refine zzG 12 (.int .i64 0) (some 8) rfl ?_
 refine wpAny_done (by kernel_rfl) ?_ _
 simp only [Act.put, List.setIfInBounds_toArray, List.set_cons_zero, List.set_cons_succ]
 rotate_left 1
 refine wp_of_valw (ex_box24 (.tmp 43) (some ⟨gi, 0, none⟩) 1 1 rfl (by kernel_rfl)) ?_
 have hal := (Below.refl V1.heap.size V1).alloc (Nat.le_refl _) (.cells #[.slice (some ⟨gi, 0, none⟩) 1 1] 24)
 have HB2 := Lib.hid (HB1.out.trans (hal.mono HB1.out.size))
 have HX2 := Lib.hid (heap_step HX1.out hal)
 have HP2 := Lib.hid (RdE.below HP1.out hal (Nat.le_refl _))
 have HS2 := Lib.hid (RdE.below HS1.out hal (Nat.le_refl _))
 have HI2 := Lib.hid (RdE.below HI1.out hal (Nat.le_refl _))
 have HT2 : Hid (RdTT (V1.alloc (.cells #[.slice (some ⟨gi, 0, none⟩) 1 1] 24)) (.slice (some ⟨V1.heap.size, 0, none⟩) 1 1) [knG]) := rdTT_one V1 gi knG rfl HI1.out
 clear hal
 generalize V1.heap.size = gt at HT2 ⊢
 generalize V1.alloc (.cells #[.slice (some ⟨gi, 0, none⟩) 1 1] 24) = V2 at HT2 HB2 HX2 HP2 HS2 HI2 ⊢
 simp only [Act.put, List.setIfInBounds_toArray, List.set_cons_zero, List.set_cons_succ]
 refine wpAny_two 0 10 (by kernel_rfl) rfl rfl (by kernel_rfl) (by kernel_rfl) ?_ ?_
 refine wp_of_val (v := .agg #[.int .i64 1, .slice A 3 c]) (ex_load 41 _ (.pointer (some ⟨g, 0, none⟩)) _ rfl (by kernel_rfl) (ldT_doc (bx2 HX2.out).1 (bx2 HX2.out).2.1)) ?_
 simp only [Act.put, List.setIfInBounds_toArray, List.set_cons_zero, List.set_cons_succ]
 refine wpAny_two 6 10 (by kernel_rfl) rfl rfl (by kernel_rfl) (by kernel_rfl) ?_ ?_
 refine wp_of_call (ex_callK4 _ rfl (by kernel_rfl) (by kernel_rfl) (by kernel_rfl) (by kernel_rfl) (enters_of Tryz.func32 (by kernel_rfl) rfl _ _)) (CRP.out gt V2 HB2.out HP2.out HS2.out HT2.out) ?_
 rintro e V3 ⟨A8, c8, rfl, ho, hb⟩
 have HB3 := Lib.hid (HB2.out.trans (hb.mono HB2.out.size))
 have HX3 := Lib.hid (heap_step HX2.out hb)
 have HP3 := Lib.hid (RdE.below HP2.out hb (Nat.le_refl _))
 have HS3 := Lib.hid (RdE.below HS2.out hb (Nat.le_refl _))
 have HI3 := Lib.hid (RdE.below HI2.out hb (Nat.le_refl _))
 have HT3 := Lib.hid (RdTT.below HT2.out hb (Nat.le_refl _))
 have HO3 := Lib.hid (own_base ho HB2.out.size)
 clear ho hb
 refine ⟨.tuple #[.agg #[.int .i64 1, .slice A8 3 c8], .int .i64 0], rfl, ?_⟩
 simp only [Act.put, List.setIfInBounds_toArray, List.set_cons_zero, List.set_cons_succ]
 refine zzM 7 (.tuple #[.agg #[.int .i64 1, .slice A8 3 c8], .int .i64 0]) (some 38) rfl ?_
 refine zzA 8 (.agg #[.int .i64 1, .slice A8 3 c8]) (some 46) rfl (fun _ => ex_extract _ 0 #[.agg #[.int .i64 1, .slice A8 3 c8], .int .i64 0] (.agg #[.int .i64 1, .slice A8 3 c8]) rfl (by kernel_rfl) rfl) ?_
 refine zzA 9 (.int .i64 0) (some 47) rfl (fun _ => ex_extract _ 1 #[.agg #[.int .i64 1, .slice A8 3 c8], .int .i64 0] (.int .i64 0) rfl (by kernel_rfl) rfl) ?_
 simp only [Act.put, List.setIfInBounds_toArray, List.set_cons_zero, List.set_cons_succ]
 refine wpAny_only 10 (by kernel_rfl) rfl (by kernel_rfl) ?_
 refine wp_of_valw (ex_allocD rfl) ?_
 have hal := (Below.refl V3.heap.size V3).alloc (Nat.le_refl _) (.cells #[.int .i64 0, .slice none 0 0] 41)
 have HB4 := Lib.hid (HB3.out.trans (hal.mono HB3.out.size))
 have HX4 := Lib.hid (heap_step HX3.out hal)
 have HP4 := Lib.hid (RdE.below HP3.out hal (Nat.le_refl _))
 have HS4 := Lib.hid (RdE.below HS3.out hal (Nat.le_refl _))
 have HI4 := Lib.hid (RdE.below HI3.out hal (Nat.le_refl _))
 have HT4 := Lib.hid (RdTT.below HT3.out hal (Nat.le_refl _))
 have HO4 := Lib.hid (own_step HO3.out hal)
 have HG4 : Hid ((V3.alloc (.cells #[.int .i64 0, .slice none 0 0] 41)).heap[V3.heap.size]? = some (.cells #[.int .i64 0, .slice none 0 0] 41)) := heap_alloc_new V3 _
 have hg7 : w.heap.size ≤ V3.heap.size := HB3.out.size
 clear hal
 generalize V3.heap.size = g7 at HG4 hg7 ⊢
 generalize V3.alloc (.cells #[.int .i64 0, .slice none 0 0] 41) = V4 at HG4 HB4 HX4 HP4 HS4 HI4 HT4 HO4 ⊢
 simp only [Act.put, List.setIfInBounds_toArray, List.set_cons_zero, List.set_cons_succ]
 refine wpAny_only 11 (by kernel_rfl) rfl (by kernel_rfl) ?_
 refine wp_storeD (.tmp 7) (.tmp 46) rfl rfl g7 1 A8 3 c8 (by kernel_rfl) (by kernel_rfl) HG4.out ?_
 have HBZ := Lib.hid ((HB4.out.setCell (p := ⟨g7, 0, none⟩) hg7 (.int .i64 1)).setCell (p := ⟨g7, 1, none⟩) hg7 (.slice A8 3 c8))
 have HGZ := Lib.hid (storeD_at (u0 := .int .i64 1) (u1 := .slice A8 3 c8) HG4.out)
 have HOZ := Lib.hid (own_same (w' := (V4.setCell ⟨g7, 0, none⟩ (.int .i64 1)).setCell ⟨g7, 1, none⟩ (.slice A8 3 c8)) HO4.out fun j hj => storeD_out (fun e => own_apart HO4.out HG4.out (by decide) j hj e))
 clear HB4 HX4 HP4 HS4 HI4 HT4 HG4 HO4
 generalize (V4.setCell ⟨g7, 0, none⟩ (.int .i64 1)).setCell ⟨g7, 1, none⟩ (.slice A8 3 c8) = V at HBZ HGZ HOZ ⊢
 simp only [Act.put, List.setIfInBounds_toArray, List.set_cons_zero, List.set_cons_succ]
 refine zzG 12 (.int .i64 0) (some 8) rfl ?_
 refine wpAny_done (by kernel_rfl) ?_ _
 simp only [Act.put, List.setIfInBounds_toArray, List.set_cons_zero, List.set_cons_succ]
 rotate_left 1
 refine wp_of_valw (ex_allocD rfl) ?_
 have hal := (Below.refl V2.heap.size V2).alloc (Nat.le_refl _) (.cells #[.int .i64 0, .slice none 0 0] 41)
 have HB3 := Lib.hid (HB2.out.trans (hal.mono HB2.out.size))
 have HX3 := Lib.hid (heap_step HX2.out hal)
 have HP3 := Lib.hid (RdE.below HP2.out hal (Nat.le_refl _))
 have HS3 := Lib.hid (RdE.below HS2.out hal (Nat.le_refl _))
 have HI3 := Lib.hid (RdE.below HI2.out hal (Nat.le_refl _))
 have HT3 := Lib.hid (RdTT.below HT2.out hal (Nat.le_refl _))
 have HG3 : Hid ((V2.alloc (.cells #[.int .i64 0, .slice none 0 0] 41)).heap[V2.heap.size]? = some (.cells #[.int .i64 0, .slice none 0 0] 41)) := heap_alloc_new V2 _
 have hg7 : w.heap.size ≤ V2.heap.size := HB2.out.size
 clear hal
 generalize V2.heap.size = g7 at HG3 hg7 ⊢
 generalize V2.alloc (.cells #[.int .i64 0, .slice none 0 0] 41) = V3 at HG3 HB3 HX3 HP3 HS3 HI3 HT3 ⊢
 simp only [Act.put, List.setIfInBounds_toArray, List.set_cons_zero, List.set_cons_succ]
 refine wpAny_only 6 (by kernel_rfl) rfl (by kernel_rfl) ?_
 refine wp_of_call (ex_callK4 _ rfl (by kernel_rfl) (by kernel_rfl) (by kernel_rfl) (by kernel_rfl) (enters_of Tryz.func32 (by kernel_rfl) rfl _ _)) (CRP.out gt V3 HB3.out HP3.out HS3.out HT3.out) ?_
 rintro e V4 ⟨A8, c8, rfl, ho, hb⟩
 have HB4 := Lib.hid (HB3.out.trans (hb.mono HB3.out.size))
 have HX4 := Lib.hid (heap_step HX3.out hb)
 have HP4 := Lib.hid (RdE.below HP3.out hb (Nat.le_refl _))
 have HS4 := Lib.hid (RdE.below HS3.out hb (Nat.le_refl _))
 have HI4 := Lib.hid (RdE.below HI3.out hb (Nat.le_refl _))
 have HT4 := Lib.hid (RdTT.below HT3.out hb (Nat.le_refl _))
 have HG4 := Lib.hid (heap_step HG3.out hb)
 have HO4 := Lib.hid (own_base ho HB3.out.size)
 clear ho hb
 refine ⟨.tuple #[.agg #[.int .i64 1, .slice A8 3 c8], .int .i64 0], rfl, ?_⟩
 simp only [Act.put, List.setIfInBounds_toArray, List.set_cons_zero, List.set_cons_succ]
 refine zzM 7 (.tuple #[.agg #[.int .i64 1, .slice A8 3 c8], .int .i64 0]) (some 38) rfl ?_
 refine zzA 8 (.agg #[.int .i64 1, .slice A8 3 c8]) (some 46) rfl (fun _ => ex_extract _ 0 #[.agg #[.int .i64 1, .slice A8 3 c8], .int .i64 0] (.agg #[.int .i64 1, .slice A8 3 c8]) rfl (by kernel_rfl) rfl) ?_
 refine zzA 9 (.int .i64 0) (some 47) rfl (fun _ => ex_extract _ 1 #[.agg #[.int .i64 1, .slice A8 3 c8], .int .i64 0] (.int .i64 0) rfl (by kernel_rfl) rfl) ?_
 simp only [Act.put, List.setIfInBounds_toArray, List.set_cons_zero, List.set_cons_succ]
 refine wpAny_only 11 (by kernel_rfl) rfl (by kernel_rfl) ?_
 refine wp_storeD (.tmp 7) (.tmp 46) rfl rfl g7 1 A8 3 c8 (by kernel_rfl) (by kernel_rfl) HG4.out ?_
 have HBZ := Lib.hid ((HB4.out.setCell (p := ⟨g7, 0, none⟩) hg7 (.int .i64 1)).setCell (p := ⟨g7, 1, none⟩) hg7 (.slice A8 3 c8))
 have HGZ := Lib.hid (storeD_at (u0 := .int .i64 1) (u1 := .slice A8 3 c8) HG4.out)
 have HOZ := Lib.hid (own_same (w' := (V4.setCell ⟨g7, 0, none⟩ (.int .i64 1)).setCell ⟨g7, 1, none⟩ (.slice A8 3 c8)) HO4.out fun j hj => storeD_out (fun e => own_apart HO4.out HG4.out (by decide) j hj e))
 clear HB4 HX4 HP4 HS4 HI4 HT4 HG4 HO4
 generalize (V4.setCell ⟨g7, 0, none⟩ (.int .i64 1)).setCell ⟨g7, 1, none⟩ (.slice A8 3 c8) = V at HBZ HGZ HOZ ⊢
 simp only [Act.put, List.setIfInBounds_toArray, List.set_cons_zero, List.set_cons_succ]
 refine zzG 12 (.int .i64 0) (some 8) rfl ?_
 refine wpAny_done (by kernel_rfl) ?_ _
 simp only [Act.put, List.setIfInBounds_toArray, List.set_cons_zero, List.set_cons_succ]
 rotate_left 1
 refine wp_of_valw (ex_allocD rfl) ?_
 have hal := (Below.refl V2.heap.size V2).alloc (Nat.le_refl _) (.cells #[.int .i64 0, .slice none 0 0] 41)
 have HB3 := Lib.hid (HB2.out.trans (hal.mono HB2.out.size))
 have HX3 := Lib.hid (heap_step HX2.out hal)
 have HP3 := Lib.hid (RdE.below HP2.out hal (Nat.le_refl _))
 have HS3 := Lib.hid (RdE.below HS2.out hal (Nat.le_refl _))
 have HI3 := Lib.hid (RdE.below HI2.out hal (Nat.le_refl _))
 have HT3 := Lib.hid (RdTT.below HT2.out hal (Nat.le_refl _))
 have HG3 : Hid ((V2.alloc (.cells #[.int .i64 0, .slice none 0 0] 41)).heap[V2.heap.size]? = some (.cells #[.int .i64 0, .slice none 0 0] 41)) := heap_alloc_new V2 _
 have hg7 : w.heap.size ≤ V2.heap.size := HB2.out.size
 clear hal
 generalize V2.heap.size = g7 at HG3 hg7 ⊢
 generalize V2.alloc (.cells #[.int .i64 0, .slice none 0 0] 41) = V3 at HG3 HB3 HX3 HP3 HS3 HI3 HT3 ⊢
 simp only [Act.put, List.setIfInBounds_toArray, List.set_cons_zero, List.set_cons_succ]
 refine wpAny_only 0 (by kernel_rfl) rfl (by kernel_rfl) ?_
 refine wp_of_val (v := .agg #[.int .i64 1, .slice A 3 c]) (ex_load 41 _ (.pointer (some ⟨g, 0, none⟩)) _ rfl (by kernel_rfl) (ldT_doc (bx2 HX3.out).1 (bx2 HX3.out).2.1)) ?_
 simp only [Act.put, List.setIfInBounds_toArray, List.set_cons_zero, List.set_cons_succ]
 refine wpAny_only 6 (by kernel_rfl) rfl (by kernel_rfl) ?_
 refine wp_of_call (ex_callK4 _ rfl (by kernel_rfl) (by kernel_rfl) (by kernel_rfl) (by kernel_rfl) (enters_of Tryz.func32 (by kernel_rfl) rfl _ _)) (CRP.out gt V3 HB3.out HP3.out HS3.out HT3.out) ?_
 rintro e V4 ⟨A8, c8, rfl, ho, hb⟩
 have HB4 := Lib.hid (HB3.out.trans (hb.mono HB3.out.size))
 have HX4 := Lib.hid (heap_step HX3.out hb)
 have HP4 := Lib.hid (RdE.below HP3.out hb (Nat.le_refl _))
 have HS4 := Lib.hid (RdE.below HS3.out hb (Nat.le_refl _))
 have HI4 := Lib.hid (RdE.below HI3.out hb (Nat.le_refl _))
 have HT4 := Lib.hid (RdTT.below HT3.out hb (Nat.le_refl _))
 have HG4 := Lib.hid (heap_step HG3.out hb)
 have HO4 := Lib.hid (own_base ho HB3.out.size)
 clear ho hb
 refine ⟨.tuple #[.agg #[.int .i64 1, .slice A8 3 c8], .int .i64 0], rfl, ?_⟩
 simp only [Act.put, List.setIfInBounds_toArray, List.set_cons_zero, List.set_cons_succ]
 refine zzM 7 (.tuple #[.agg #[.int .i64 1, .slice A8 3 c8], .int .i64 0]) (some 38) rfl ?_
 refine zzA 8 (.agg #[.int .i64 1, .slice A8 3 c8]) (some 46) rfl (fun _ => ex_extract _ 0 #[.agg #[.int .i64 1, .slice A8 3 c8], .int .i64 0] (.agg #[.int .i64 1, .slice A8 3 c8]) rfl (by kernel_rfl) rfl) ?_
 refine zzA 9 (.int .i64 0) (some 47) rfl (fun _ => ex_extract _ 1 #[.agg #[.int .i64 1, .slice A8 3 c8], .int .i64 0] (.int .i64 0) rfl (by kernel_rfl) rfl) ?_
 simp only [Act.put, List.setIfInBounds_toArray, List.set_cons_zero, List.set_cons_succ]
 refine wpAny_only 11 (by kernel_rfl) rfl (by kernel_rfl) ?_
 refine wp_storeD (.tmp 7) (.tmp 46) rfl rfl g7 1 A8 3 c8 (by kernel_rfl) (by kernel_rfl) HG4.out ?_
 have HBZ := Lib.hid ((HB4.out.setCell (p := ⟨g7, 0, none⟩) hg7 (.int .i64 1)).setCell (p := ⟨g7, 1, none⟩) hg7 (.slice A8 3 c8))
 have HGZ := Lib.hid (storeD_at (u0 := .int .i64 1) (u1 := .slice A8 3 c8) HG4.out)
 have HOZ := Lib.hid (own_same (w' := (V4.setCell ⟨g7, 0, none⟩ (.int .i64 1)).setCell ⟨g7, 1, none⟩ (.slice A8 3 c8)) HO4.out fun j hj => storeD_out (fun e => own_apart HO4.out HG4.out (by decide) j hj e))
 clear HB4 HX4 HP4 HS4 HI4 HT4 HG4 HO4
 generalize (V4.setCell ⟨g7, 0, none⟩ (.int .i64 1)).setCell ⟨g7, 1, none⟩ (.slice A8 3 c8) = V at HBZ HGZ HOZ ⊢
 simp only [Act.put, List.setIfInBounds_toArray, List.set_cons_zero, List.set_cons_succ]
 refine zzG 12 (.int .i64 0) (some 8) rfl ?_
 refine wpAny_done (by kernel_rfl) ?_ _
 simp only [Act.put, List.setIfInBounds_toArray, List.set_cons_zero, List.set_cons_succ]
 rotate_left 1
 refine wp_of_valw (ex_allocD rfl) ?_
 have hal := (Below.refl V1.heap.size V1).alloc (Nat.le_refl _) (.cells #[.int .i64 0, .slice none 0 0] 41)
 have HB2 := Lib.hid (HB1.out.trans (hal.mono HB1.out.size))
 have HX2 := Lib.hid (heap_step HX1.out hal)
 have HP2 := Lib.hid (RdE.below HP1.out hal (Nat.le_refl _))
 have HS2 := Lib.hid (RdE.below HS1.out hal (Nat.le_refl _))
 have HI2 := Lib.hid (RdE.below HI1.out hal (Nat.le_refl _))
 have HG2 : Hid ((V1.alloc (.cells #[.int .i64 0, .slice none 0 0] 41)).heap[V1.heap.size]? = some (.cells #[.int .i64 0, .slice none 0 0] 41)) := heap_alloc_new V1 _
 have hg7 : w.heap.size ≤ V1.heap.size := HB1.out.size
 clear hal
 generalize V1.heap.size = g7 at HG2 hg7 ⊢
 generalize V1.alloc (.cells #[.int .i64 0, .slice none 0 0] 41) = V2 at HG2 HB2 HX2 HP2 HS2 HI2 ⊢
 simp only [Act.put, List.setIfInBounds_toArray, List.set_cons_zero, List.set_cons_succ]
 refine wpAny_two 0 5 (by kernel_rfl) rfl rfl (by kernel_rfl) (by kernel_rfl) ?_ ?_
 refine wp_of_val (v := .agg #[.int .i64 1, .slice A 3 c]) (ex_load 41 _ (.pointer (some ⟨g, 0, none⟩)) _ rfl (by kernel_rfl) (ldT_doc (bx2 HX2.out).1 (bx2 HX2.out).2.1)) ?_
 simp only [Act.put, List.setIfInBounds_toArray, List.set_cons_zero, List.set_cons_succ]
 refine wpAny_only 5 (by kernel_rfl) rfl (by kernel_rfl) ?_
 refine wp_of_valw (ex_box24 (.tmp 43) (some ⟨gi, 0, none⟩) 1 1 rfl (by kernel_rfl)) ?_
 have hal := (Below.refl V2.heap.size V2).alloc (Nat.le_refl _) (.cells #[.slice (some ⟨gi, 0, none⟩) 1 1] 24)
 have HB3 := Lib.hid (HB2.out.trans (hal.mono HB2.out.size))
 have HX3 := Lib.hid (heap_step HX2.out hal)
 have HP3 := Lib.hid (RdE.below HP2.out hal (Nat.le_refl _))
 have HS3 := Lib.hid (RdE.below HS2.out hal (Nat.le_refl _))
 have HI3 := Lib.hid (RdE.below HI2.out hal (Nat.le_refl _))
 have HG3 := Lib.hid (heap_step HG2.out hal)
 have HT3 : Hid (RdTT (V2.alloc (.cells #[.slice (some ⟨gi, 0, none⟩) 1 1] 24)) (.slice (some ⟨V2.heap.size, 0, none⟩) 1 1) [knG]) := rdTT_one V2 gi knG rfl HI2.out
 clear hal
 generalize V2.heap.size = gt at HT3 ⊢
 generalize V2.alloc (.cells #[.slice (some ⟨gi, 0, none⟩) 1 1] 24) = V3 at HT3 HB3 HX3 HP3 HS3 HI3 HG3 ⊢
 simp only [Act.put, List.setIfInBounds_toArray, List.set_cons_zero, List.set_cons_succ]
 refine wpAny_only 6 (by kernel_rfl) rfl (by kernel_rfl) ?_
 refine wp_of_call (ex_callK4 _ rfl (by kernel_rfl) (by kernel_rfl) (by kernel_rfl) (by kernel_rfl) (enters_of Tryz.func32 (by kernel_rfl) rfl _ _)) (CRP.out gt V3 HB3.out HP3.out HS3.out HT3.out) ?_
 rintro e V4 ⟨A8, c8, rfl, ho, hb⟩
 have HB4 := Lib.hid (HB3.out.trans (hb.mono HB3.out.size))
 have HX4 := Lib.hid (heap_step HX3.out hb)
 have HP4 := Lib.hid (RdE.below HP3.out hb (Nat.le_refl _))
 have HS4 := Lib.hid (RdE.below HS3.out hb (Nat.le_refl _))
 have HI4 := Lib.hid (RdE.below HI3.out hb (Nat.le_refl _))
 have HT4 := Lib.hid (RdTT.below HT3.out hb (Nat.le_refl _))
 have HG4 := Lib.hid (heap_step HG3.out hb)
 have HO4 := Lib.hid (own_base ho HB3.out.size)
 clear ho hb
 refine ⟨.tuple #[.agg #[.int .i64 1, .slice A8 3 c8], .int .i64 0], rfl, ?_⟩
 simp only [Act.put, List.setIfInBounds_toArray, List.set_cons_zero, List.set_cons_succ]
 refine zzM 7 (.tuple #[.agg #[.int .i64 1, .slice A8 3 c8], .int .i64 0]) (some 38) rfl ?_
 refine zzA 8 (.agg #[.int .i64 1, .slice A8 3 c8]) (some 46) rfl (fun _ => ex_extract _ 0 #[.agg #[.int .i64 1, .slice A8 3 c8], .int .i64 0] (.agg #[.int .i64 1, .slice A8 3 c8]) rfl (by kernel_rfl) rfl) ?_
 refine zzA 9 (.int .i64 0) (some 47) rfl (fun _ => ex_extract _ 1 #[.agg #[.int .i64 1, .slice A8 3 c8], .int .i64 0] (.int .i64 0) rfl (by kernel_rfl) rfl) ?_
 simp only [Act.put, List.setIfInBounds_toArray, List.set_cons_zero, List.set_cons_succ]
 refine wpAny_only 11 (by kernel_rfl) rfl (by kernel_rfl) ?_
 refine wp_storeD (.tmp 7) (.tmp 46) rfl rfl g7 1 A8 3 c8 (by kernel_rfl) (by kernel_rfl) HG4.out ?_
 have HBZ := Lib.hid ((HB4.out.setCell (p := ⟨g7, 0, none⟩) hg7 (.int .i64 1)).setCell (p := ⟨g7, 1, none⟩) hg7 (.slice A8 3 c8))
 have HGZ := Lib.hid (storeD_at (u0 := .int .i64 1) (u1 := .slice A8 3 c8) HG4.out)
 have HOZ := Lib.hid (own_same (w' := (V4.setCell ⟨g7, 0, none⟩ (.int .i64 1)).setCell ⟨g7, 1, none⟩ (.slice A8 3 c8)) HO4.out fun j hj => storeD_out (fun e => own_apart HO4.out HG4.out (by decide) j hj e))
 clear HB4 HX4 HP4 HS4 HI4 HT4 HG4 HO4
 generalize (V4.setCell ⟨g7, 0, none⟩ (.int .i64 1)).setCell ⟨g7, 1, none⟩ (.slice A8 3 c8) = V at HBZ HGZ HOZ ⊢
 simp only [Act.put, List.setIfInBounds_toArray, List.set_cons_zero, List.set_cons_succ]
 refine zzG 12 (.int .i64 0) (some 8) rfl ?_
 refine wpAny_done (by kernel_rfl) ?_ _
 simp only [Act.put, List.setIfInBounds_toArray, List.set_cons_zero, List.set_cons_succ]
 rotate_left 1
 refine wp_of_valw (ex_box24 (.tmp 43) (some ⟨gi, 0, none⟩) 1 1 rfl (by kernel_rfl)) ?_
 have hal := (Below.refl V2.heap.size V2).alloc (Nat.le_refl _) (.cells #[.slice (some ⟨gi, 0, none⟩) 1 1] 24)
 have HB3 := Lib.hid (HB2.out.trans (hal.mono HB2.out.size))
 have HX3 := Lib.hid (heap_step HX2.out hal)
 have HP3 := Lib.hid (RdE.below HP2.out hal (Nat.le_refl _))
 have HS3 := Lib.hid (RdE.below HS2.out hal (Nat.le_refl _))
 have HI3 := Lib.hid (RdE.below HI2.out hal (Nat.le_refl _))
 have HG3 := Lib.hid (heap_step HG2.out hal)
 have HT3 : Hid (RdTT (V2.alloc (.cells #[.slice (some ⟨gi, 0, none⟩) 1 1] 24)) (.slice (some ⟨V2.heap.size, 0, none⟩) 1 1) [knG]) := rdTT_one V2 gi knG rfl HI2.out
 clear hal
 generalize V2.heap.size = gt at HT3 ⊢
 generalize V2.alloc (.cells #[.slice (some ⟨gi, 0, none⟩) 1 1] 24) = V3 at HT3 HB3 HX3 HP3 HS3 HI3 HG3 ⊢
 simp only [Act.put, List.setIfInBounds_toArray, List.set_cons_zero, List.set_cons_succ]
 refine wpAny_only 0 (by kernel_rfl) rfl (by kernel_rfl) ?_
 refine wp_of_val (v := .agg #[.int .i64 1, .slice A 3 c]) (ex_load 41 _ (.pointer (some ⟨g, 0, none⟩)) _ rfl (by kernel_rfl) (ldT_doc (bx2 HX3.out).1 (bx2 HX3.out).2.1)) ?_
 simp only [Act.put, List.setIfInBounds_toArray, List.set_cons_zero, List.set_cons_succ]
 refine wpAny_only 6 (by kernel_rfl) rfl (by kernel_rfl) ?_
 refine wp_of_call (ex_callK4 _ rfl (by kernel_rfl) (by kernel_rfl) (by kernel_rfl) (by kernel_rfl) (enters_of Tryz.func32 (by kernel_rfl) rfl _ _)) (CRP.out gt V3 HB3.out HP3.out HS3.out HT3.out) ?_
 rintro e V4 ⟨A8, c8, rfl, ho, hb⟩
 have HB4 := Lib.hid (HB3.out.trans (hb.mono HB3.out.size))
 have HX4 := Lib.hid (heap_step HX3.out hb)
 have HP4 := Lib.hid (RdE.below HP3.out hb (Nat.le_refl _))
 have HS4 := Lib.hid (RdE.below HS3.out hb (Nat.le_refl _))
 have HI4 := Lib.hid (RdE.below HI3.out hb (Nat.le_refl _))
 have HT4 := Lib.hid (RdTT.below HT3.out hb (Nat.le_refl _))
 have HG4 := Lib.hid (heap_step HG3.out hb)
 have HO4 := Lib.hid (own_base ho HB3.out.size)
 clear ho hb
 refine ⟨.tuple #[.agg #[.int .i64 1, .slice A8 3 c8], .int .i64 0], rfl, ?_⟩
 simp only [Act.put, List.setIfInBounds_toArray, List.set_cons_zero, List.set_cons_succ]
 refine zzM 7 (.tuple #[.agg #[.int .i64 1, .slice A8 3 c8], .int .i64 0]) (some 38) rfl ?_
 refine zzA 8 (.agg #[.int .i64 1, .slice A8 3 c8]) (some 46) rfl (fun _ => ex_extract _ 0 #[.agg #[.int .i64 1, .slice A8 3 c8], .int .i64 0] (.agg #[.int .i64 1, .slice A8 3 c8]) rfl (by kernel_rfl) rfl) ?_
 refine zzA 9 (.int .i64 0) (some 47) rfl (fun _ => ex_extract _ 1 #[.agg #[.int .i64 1, .slice A8 3 c8], .int .i64 0] (.int .i64 0) rfl (by kernel_rfl) rfl) ?_
 simp only [Act.put, List.setIfInBounds_toArray, List.set_cons_zero, List.set_cons_succ]
 refine wpAny_only 11 (by kernel_rfl) rfl (by kernel_rfl) ?_
 refine wp_storeD (.tmp 7) (.tmp 46) rfl rfl g7 1 A8 3 c8 (by kernel_rfl) (by kernel_rfl) HG4.out ?_
 have HBZ := Lib.hid ((HB4.out.setCell (p := ⟨g7, 0, none⟩) hg7 (.int .i64 1)).setCell (p := ⟨g7, 1, none⟩) hg7 (.slice A8 3 c8))
 have HGZ := Lib.hid (storeD_at (u0 := .int .i64 1) (u1 := .slice A8 3 c8) HG4.out)
 have HOZ := Lib.hid (own_same (w' := (V4.setCell ⟨g7, 0, none⟩ (.int .i64 1)).setCell ⟨g7, 1, none⟩ (.slice A8 3 c8)) HO4.out fun j hj => storeD_out (fun e => own_apart HO4.out HG4.out (by decide) j hj e))
 clear HB4 HX4 HP4 HS4 HI4 HT4 HG4 HO4
 generalize (V4.setCell ⟨g7, 0, none⟩ (.int .i64 1)).setCell ⟨g7, 1, none⟩ (.slice A8 3 c8) = V at HBZ HGZ HOZ ⊢
 simp only [Act.put, List.setIfInBounds_toArray, List.set_cons_zero, List.set_cons_succ]
 refine zzG 12 (.int .i64 0) (some 8) rfl ?_
 refine wpAny_done (by kernel_rfl) ?_ _
 simp only [Act.put, List.setIfInBounds_toArray, List.set_cons_zero, List.set_cons_succ]
 rotate_left 1
 refine wp_of_valw (ex_allocD rfl) ?_
 have hal := (Below.refl V0.heap.size V0).alloc (Nat.le_refl _) (.cells #[.int .i64 0, .slice none 0 0] 41)
 have HB1 := Lib.hid (HB0.out.trans (hal.mono HB0.out.size))
 have HX1 := Lib.hid (heap_step HX0.out hal)
 have HP1 := Lib.hid (RdE.below HP0.out hal (Nat.le_refl _))
 have HS1 := Lib.hid (RdE.below HS0.out hal (Nat.le_refl _))
 have HG1 : Hid ((V0.alloc (.cells #[.int .i64 0, .slice none 0 0] 41)).heap[V0.heap.size]? = some (.cells #[.int .i64 0, .slice none 0 0] 41)) := heap_alloc_new V0 _
 have hg7 : w.heap.size ≤ V0.heap.size := HB0.out.size
 clear hal
 generalize V0.heap.size = g7 at HG1 hg7 ⊢
 generalize V0.alloc (.cells #[.int .i64 0, .slice none 0 0] 41) = V1 at HG1 HB1 HX1 HP1 HS1 ⊢
 simp only [Act.put, List.setIfInBounds_toArray, List.set_cons_zero, List.set_cons_succ]
 refine wpAny_two 0 4 (by kernel_rfl) rfl rfl (by kernel_rfl) (by kernel_rfl) ?_ ?_
 refine wp_of_val (v := .agg #[.int .i64 1, .slice A 3 c]) (ex_load 41 _ (.pointer (some ⟨g, 0, none⟩)) _ rfl (by kernel_rfl) (ldT_doc (bx2 HX1.out).1 (bx2 HX1.out).2.1)) ?_
 simp only [Act.put, List.setIfInBounds_toArray, List.set_cons_zero, List.set_cons_succ]
 refine wpAny_only 4 (by kernel_rfl) rfl (by kernel_rfl) ?_
 refine wp_of_valw (ex_box31 (.tmp 42) (⟨#[83, 105, 99, 104, 101, 114, 110, 46]⟩ : ByteArray) rfl (by kernel_rfl)) ?_
 have hal := (Below.refl V1.heap.size V1).alloc (Nat.le_refl _) (.cells #[.int .i64 1, .string (⟨#[83, 105, 99, 104, 101, 114, 110, 46]⟩ : ByteArray), .int .i64 0] 31)
 have HB2 := Lib.hid (HB1.out.trans (hal.mono HB1.out.size))
 have HX2 := Lib.hid (heap_step HX1.out hal)
 have HP2 := Lib.hid (RdE.below HP1.out hal (Nat.le_refl _))
 have HS2 := Lib.hid (RdE.below HS1.out hal (Nat.le_refl _))
 have HG2 := Lib.hid (heap_step HG1.out hal)
 have HI2 : Hid (RdT (V1.alloc (.cells #[.int .i64 1, .string (⟨#[83, 105, 99, 104, 101, 114, 110, 46]⟩ : ByteArray), .int .i64 0] 31)) (.slice (some ⟨V1.heap.size, 0, none⟩) 1 1) knG) := rdE_oneR tkC 3 tkC_three V1 _ rfl ⟨1, (⟨#[83, 105, 99, 104, 101, 114, 110, 46]⟩ : ByteArray), 0⟩ _
 clear hal
 generalize V1.heap.size = gi at HI2 ⊢
 generalize V1.alloc (.cells #[.int .i64 1, .string (⟨#[83, 105, 99, 104, 101, 114, 110, 46]⟩ : ByteArray), .int .i64 0] 31) = V2 at HI2 HB2 HX2 HP2 HS2 HG2 ⊢
 simp only [Act.put, List.setIfInBounds_toArray, List.set_cons_zero, List.set_cons_succ]
 refine wpAny_only 5 (by kernel_rfl) rfl (by kernel_rfl) ?_
 refine wp_of_valw (ex_box24 (.tmp 43) (some ⟨gi, 0, none⟩) 1 1 rfl (by kernel_rfl)) ?_
 have hal := (Below.refl V2.heap.size V2).alloc (Nat.le_refl _) (.cells #[.slice (some ⟨gi, 0, none⟩) 1 1] 24)
 have HB3 := Lib.hid (HB2.out.trans (hal.mono HB2.out.size))
 have HX3 := Lib.hid (heap_step HX2.out hal)
 have HP3 := Lib.hid (RdE.below HP2.out hal (Nat.le_refl _))
 have HS3 := Lib.hid (RdE.below HS2.out hal (Nat.le_refl _))
 have HI3 := Lib.hid (RdE.below HI2.out hal (Nat.le_refl _))
 have HG3 := Lib.hid (heap_step HG2.out hal)
 have HT3 : Hid (RdTT (V2.alloc (.cells #[.slice (some ⟨gi, 0, none⟩) 1 1] 24)) (.slice (some ⟨V2.heap.size, 0, none⟩) 1 1) [knG]) := rdTT_one V2 gi knG rfl HI2.out
 clear hal
 generalize V2.heap.size = gt at HT3 ⊢
 generalize V2.alloc (.cells #[.slice (some ⟨gi, 0, none⟩) 1 1] 24) = V3 at HT3 HB3 HX3 HP3 HS3 HI3 HG3 ⊢
 simp only [Act.put, List.setIfInBounds_toArray, List.set_cons_zero, List.set_cons_succ]
 refine wpAny_only 6 (by kernel_rfl) rfl (by kernel_rfl) ?_
 refine wp_of_call (ex_callK4 _ rfl (by kernel_rfl) (by kernel_rfl) (by kernel_rfl) (by kernel_rfl) (enters_of Tryz.func32 (by kernel_rfl) rfl _ _)) (CRP.out gt V3 HB3.out HP3.out HS3.out HT3.out) ?_
 rintro e V4 ⟨A8, c8, rfl, ho, hb⟩
 have HB4 := Lib.hid (HB3.out.trans (hb.mono HB3.out.size))
 have HX4 := Lib.hid (heap_step HX3.out hb)
 have HP4 := Lib.hid (RdE.below HP3.out hb (Nat.le_refl _))
 have HS4 := Lib.hid (RdE.below HS3.out hb (Nat.le_refl _))
 have HI4 := Lib.hid (RdE.below HI3.out hb (Nat.le_refl _))
 have HT4 := Lib.hid (RdTT.below HT3.out hb (Nat.le_refl _))
 have HG4 := Lib.hid (heap_step HG3.out hb)
 have HO4 := Lib.hid (own_base ho HB3.out.size)
 clear ho hb
 refine ⟨.tuple #[.agg #[.int .i64 1, .slice A8 3 c8], .int .i64 0], rfl, ?_⟩
 simp only [Act.put, List.setIfInBounds_toArray, List.set_cons_zero, List.set_cons_succ]
 refine zzM 7 (.tuple #[.agg #[.int .i64 1, .slice A8 3 c8], .int .i64 0]) (some 38) rfl ?_
 refine zzA 8 (.agg #[.int .i64 1, .slice A8 3 c8]) (some 46) rfl (fun _ => ex_extract _ 0 #[.agg #[.int .i64 1, .slice A8 3 c8], .int .i64 0] (.agg #[.int .i64 1, .slice A8 3 c8]) rfl (by kernel_rfl) rfl) ?_
 refine zzA 9 (.int .i64 0) (some 47) rfl (fun _ => ex_extract _ 1 #[.agg #[.int .i64 1, .slice A8 3 c8], .int .i64 0] (.int .i64 0) rfl (by kernel_rfl) rfl) ?_
 simp only [Act.put, List.setIfInBounds_toArray, List.set_cons_zero, List.set_cons_succ]
 refine wpAny_only 11 (by kernel_rfl) rfl (by kernel_rfl) ?_
 refine wp_storeD (.tmp 7) (.tmp 46) rfl rfl g7 1 A8 3 c8 (by kernel_rfl) (by kernel_rfl) HG4.out ?_
 have HBZ := Lib.hid ((HB4.out.setCell (p := ⟨g7, 0, none⟩) hg7 (.int .i64 1)).setCell (p := ⟨g7, 1, none⟩) hg7 (.slice A8 3 c8))
 have HGZ := Lib.hid (storeD_at (u0 := .int .i64 1) (u1 := .slice A8 3 c8) HG4.out)
 have HOZ := Lib.hid (own_same (w' := (V4.setCell ⟨g7, 0, none⟩ (.int .i64 1)).setCell ⟨g7, 1, none⟩ (.slice A8 3 c8)) HO4.out fun j hj => storeD_out (fun e => own_apart HO4.out HG4.out (by decide) j hj e))
 clear HB4 HX4 HP4 HS4 HI4 HT4 HG4 HO4
 generalize (V4.setCell ⟨g7, 0, none⟩ (.int .i64 1)).setCell ⟨g7, 1, none⟩ (.slice A8 3 c8) = V at HBZ HGZ HOZ ⊢
 simp only [Act.put, List.setIfInBounds_toArray, List.set_cons_zero, List.set_cons_succ]
 refine zzG 12 (.int .i64 0) (some 8) rfl ?_
 refine wpAny_done (by kernel_rfl) ?_ _
 simp only [Act.put, List.setIfInBounds_toArray, List.set_cons_zero, List.set_cons_succ]
 rotate_left 1
 refine wp_of_valw (ex_box31 (.tmp 42) (⟨#[83, 105, 99, 104, 101, 114, 110, 46]⟩ : ByteArray) rfl (by kernel_rfl)) ?_
 have hal := (Below.refl V1.heap.size V1).alloc (Nat.le_refl _) (.cells #[.int .i64 1, .string (⟨#[83, 105, 99, 104, 101, 114, 110, 46]⟩ : ByteArray), .int .i64 0] 31)
 have HB2 := Lib.hid (HB1.out.trans (hal.mono HB1.out.size))
 have HX2 := Lib.hid (heap_step HX1.out hal)
 have HP2 := Lib.hid (RdE.below HP1.out hal (Nat.le_refl _))
 have HS2 := Lib.hid (RdE.below HS1.out hal (Nat.le_refl _))
 have HG2 := Lib.hid (heap_step HG1.out hal)
 have HI2 : Hid (RdT (V1.alloc (.cells #[.int .i64 1, .string (⟨#[83, 105, 99, 104, 101, 114, 110, 46]⟩ : ByteArray), .int .i64 0] 31)) (.slice (some ⟨V1.heap.size, 0, none⟩) 1 1) knG) := rdE_oneR tkC 3 tkC_three V1 _ rfl ⟨1, (⟨#[83, 105, 99, 104, 101, 114, 110, 46]⟩ : ByteArray), 0⟩ _
 clear hal
 generalize V1.heap.size = gi at HI2 ⊢
 generalize V1.alloc (.cells #[.int .i64 1, .string (⟨#[83, 105, 99, 104, 101, 114, 110, 46]⟩ : ByteArray), .int .i64 0] 31) = V2 at HI2 HB2 HX2 HP2 HS2 HG2 ⊢
 simp only [Act.put, List.setIfInBounds_toArray, List.set_cons_zero, List.set_cons_succ]
 refine wpAny_two 0 5 (by kernel_rfl) rfl rfl (by kernel_rfl) (by kernel_rfl) ?_ ?_
 refine wp_of_val (v := .agg #[.int .i64 1, .slice A 3 c]) (ex_load 41 _ (.pointer (some ⟨g, 0, none⟩)) _ rfl (by kernel_rfl) (ldT_doc (bx2 HX2.out).1 (bx2 HX2.out).2.1)) ?_
 simp only [Act.put, List.setIfInBounds_toArray, List.set_cons_zero, List.set_cons_succ]
 refine wpAny_only 5 (by kernel_rfl) rfl (by kernel_rfl) ?_
 refine wp_of_valw (ex_box24 (.tmp 43) (some ⟨gi, 0, none⟩) 1 1 rfl (by kernel_rfl)) ?_
 have hal := (Below.refl V2.heap.size V2).alloc (Nat.le_refl _) (.cells #[.slice (some ⟨gi, 0, none⟩) 1 1] 24)
 have HB3 := Lib.hid (HB2.out.trans (hal.mono HB2.out.size))
 have HX3 := Lib.hid (heap_step HX2.out hal)
 have HP3 := Lib.hid (RdE.below HP2.out hal (Nat.le_refl _))
 have HS3 := Lib.hid (RdE.below HS2.out hal (Nat.le_refl _))
 have HI3 := Lib.hid (RdE.below HI2.out hal (Nat.le_refl _))
 have HG3 := Lib.hid (heap_step HG2.out hal)
 have HT3 : Hid (RdTT (V2.alloc (.cells #[.slice (some ⟨gi, 0, none⟩) 1 1] 24)) (.slice (some ⟨V2.heap.size, 0, none⟩) 1 1) [knG]) := rdTT_one V2 gi knG rfl HI2.out
 clear hal
 generalize V2.heap.size = gt at HT3 ⊢
 generalize V2.alloc (.cells #[.slice (some ⟨gi, 0, none⟩) 1 1] 24) = V3 at HT3 HB3 HX3 HP3 HS3 HI3 HG3 ⊢
 simp only [Act.put, List.setIfInBounds_toArray, List.set_cons_zero, List.set_cons_succ]
 refine wpAny_only 6 (by kernel_rfl) rfl (by kernel_rfl) ?_
 refine wp_of_call (ex_callK4 _ rfl (by kernel_rfl) (by kernel_rfl) (by kernel_rfl) (by kernel_rfl) (enters_of Tryz.func32 (by kernel_rfl) rfl _ _)) (CRP.out gt V3 HB3.out HP3.out HS3.out HT3.out) ?_
 rintro e V4 ⟨A8, c8, rfl, ho, hb⟩
 have HB4 := Lib.hid (HB3.out.trans (hb.mono HB3.out.size))
 have HX4 := Lib.hid (heap_step HX3.out hb)
 have HP4 := Lib.hid (RdE.below HP3.out hb (Nat.le_refl _))
 have HS4 := Lib.hid (RdE.below HS3.out hb (Nat.le_refl _))
 have HI4 := Lib.hid (RdE.below HI3.out hb (Nat.le_refl _))
 have HT4 := Lib.hid (RdTT.below HT3.out hb (Nat.le_refl _))
 have HG4 := Lib.hid (heap_step HG3.out hb)
 have HO4 := Lib.hid (own_base ho HB3.out.size)
 clear ho hb
 refine ⟨.tuple #[.agg #[.int .i64 1, .slice A8 3 c8], .int .i64 0], rfl, ?_⟩
 simp only [Act.put, List.setIfInBounds_toArray, List.set_cons_zero, List.set_cons_succ]
 refine zzM 7 (.tuple #[.agg #[.int .i64 1, .slice A8 3 c8], .int .i64 0]) (some 38) rfl ?_
 refine zzA 8 (.agg #[.int .i64 1, .slice A8 3 c8]) (some 46) rfl (fun _ => ex_extract _ 0 #[.agg #[.int .i64 1, .slice A8 3 c8], .int .i64 0] (.agg #[.int .i64 1, .slice A8 3 c8]) rfl (by kernel_rfl) rfl) ?_
 refine zzA 9 (.int .i64 0) (some 47) rfl (fun _ => ex_extract _ 1 #[.agg #[.int .i64 1, .slice A8 3 c8], .int .i64 0] (.int .i64 0) rfl (by kernel_rfl) rfl) ?_
 simp only [Act.put, List.setIfInBounds_toArray, List.set_cons_zero, List.set_cons_succ]
 refine wpAny_only 11 (by kernel_rfl) rfl (by kernel_rfl) ?_
 refine wp_storeD (.tmp 7) (.tmp 46) rfl rfl g7 1 A8 3 c8 (by kernel_rfl) (by kernel_rfl) HG4.out ?_
 have HBZ := Lib.hid ((HB4.out.setCell (p := ⟨g7, 0, none⟩) hg7 (.int .i64 1)).setCell (p := ⟨g7, 1, none⟩) hg7 (.slice A8 3 c8))
 have HGZ := Lib.hid (storeD_at (u0 := .int .i64 1) (u1 := .slice A8 3 c8) HG4.out)
 have HOZ := Lib.hid (own_same (w' := (V4.setCell ⟨g7, 0, none⟩ (.int .i64 1)).setCell ⟨g7, 1, none⟩ (.slice A8 3 c8)) HO4.out fun j hj => storeD_out (fun e => own_apart HO4.out HG4.out (by decide) j hj e))
 clear HB4 HX4 HP4 HS4 HI4 HT4 HG4 HO4
 generalize (V4.setCell ⟨g7, 0, none⟩ (.int .i64 1)).setCell ⟨g7, 1, none⟩ (.slice A8 3 c8) = V at HBZ HGZ HOZ ⊢
 simp only [Act.put, List.setIfInBounds_toArray, List.set_cons_zero, List.set_cons_succ]
 refine zzG 12 (.int .i64 0) (some 8) rfl ?_
 refine wpAny_done (by kernel_rfl) ?_ _
 simp only [Act.put, List.setIfInBounds_toArray, List.set_cons_zero, List.set_cons_succ]
 rotate_left 1
 refine wp_of_valw (ex_box24 (.tmp 43) (some ⟨gi, 0, none⟩) 1 1 rfl (by kernel_rfl)) ?_
 have hal := (Below.refl V2.heap.size V2).alloc (Nat.le_refl _) (.cells #[.slice (some ⟨gi, 0, none⟩) 1 1] 24)
 have HB3 := Lib.hid (HB2.out.trans (hal.mono HB2.out.size))
 have HX3 := Lib.hid (heap_step HX2.out hal)
 have HP3 := Lib.hid (RdE.below HP2.out hal (Nat.le_refl _))
 have HS3 := Lib.hid (RdE.below HS2.out hal (Nat.le_refl _))
 have HI3 := Lib.hid (RdE.below HI2.out hal (Nat.le_refl _))
 have HG3 := Lib.hid (heap_step HG2.out hal)
 have HT3 : Hid (RdTT (V2.alloc (.cells #[.slice (some ⟨gi, 0, none⟩) 1 1] 24)) (.slice (some ⟨V2.heap.size, 0, none⟩) 1 1) [knG]) := rdTT_one V2 gi knG rfl HI2.out
 clear hal
 generalize V2.heap.size = gt at HT3 ⊢
 generalize V2.alloc (.cells #[.slice (some ⟨gi, 0, none⟩) 1 1] 24) = V3 at HT3 HB3 HX3 HP3 HS3 HI3 HG3 ⊢
 simp only [Act.put, List.setIfInBounds_toArray, List.set_cons_zero, List.set_cons_succ]
 refine wpAny_only 0 (by kernel_rfl) rfl (by kernel_rfl) ?_
 refine wp_of_val (v := .agg #[.int .i64 1, .slice A 3 c]) (ex_load 41 _ (.pointer (some ⟨g, 0, none⟩)) _ rfl (by kernel_rfl) (ldT_doc (bx2 HX3.out).1 (bx2 HX3.out).2.1)) ?_
 simp only [Act.put, List.setIfInBounds_toArray, List.set_cons_zero, List.set_cons_succ]
 refine wpAny_only 6 (by kernel_rfl) rfl (by kernel_rfl) ?_
 refine wp_of_call (ex_callK4 _ rfl (by kernel_rfl) (by kernel_rfl) (by kernel_rfl) (by kernel_rfl) (enters_of Tryz.func32 (by kernel_rfl) rfl _ _)) (CRP.out gt V3 HB3.out HP3.out HS3.out HT3.out) ?_
 rintro e V4 ⟨A8, c8, rfl, ho, hb⟩
 have HB4 := Lib.hid (HB3.out.trans (hb.mono HB3.out.size))
 have HX4 := Lib.hid (heap_step HX3.out hb)
 have HP4 := Lib.hid (RdE.below HP3.out hb (Nat.le_refl _))
 have HS4 := Lib.hid (RdE.below HS3.out hb (Nat.le_refl _))
 have HI4 := Lib.hid (RdE.below HI3.out hb (Nat.le_refl _))
 have HT4 := Lib.hid (RdTT.below HT3.out hb (Nat.le_refl _))
 have HG4 := Lib.hid (heap_step HG3.out hb)
 have HO4 := Lib.hid (own_base ho HB3.out.size)
 clear ho hb
 refine ⟨.tuple #[.agg #[.int .i64 1, .slice A8 3 c8], .int .i64 0], rfl, ?_⟩
 simp only [Act.put, List.setIfInBounds_toArray, List.set_cons_zero, List.set_cons_succ]
 refine zzM 7 (.tuple #[.agg #[.int .i64 1, .slice A8 3 c8], .int .i64 0]) (some 38) rfl ?_
 refine zzA 8 (.agg #[.int .i64 1, .slice A8 3 c8]) (some 46) rfl (fun _ => ex_extract _ 0 #[.agg #[.int .i64 1, .slice A8 3 c8], .int .i64 0] (.agg #[.int .i64 1, .slice A8 3 c8]) rfl (by kernel_rfl) rfl) ?_
 refine zzA 9 (.int .i64 0) (some 47) rfl (fun _ => ex_extract _ 1 #[.agg #[.int .i64 1, .slice A8 3 c8], .int .i64 0] (.int .i64 0) rfl (by kernel_rfl) rfl) ?_
 simp only [Act.put, List.setIfInBounds_toArray, List.set_cons_zero, List.set_cons_succ]
 refine wpAny_only 11 (by kernel_rfl) rfl (by kernel_rfl) ?_
 refine wp_storeD (.tmp 7) (.tmp 46) rfl rfl g7 1 A8 3 c8 (by kernel_rfl) (by kernel_rfl) HG4.out ?_
 have HBZ := Lib.hid ((HB4.out.setCell (p := ⟨g7, 0, none⟩) hg7 (.int .i64 1)).setCell (p := ⟨g7, 1, none⟩) hg7 (.slice A8 3 c8))
 have HGZ := Lib.hid (storeD_at (u0 := .int .i64 1) (u1 := .slice A8 3 c8) HG4.out)
 have HOZ := Lib.hid (own_same (w' := (V4.setCell ⟨g7, 0, none⟩ (.int .i64 1)).setCell ⟨g7, 1, none⟩ (.slice A8 3 c8)) HO4.out fun j hj => storeD_out (fun e => own_apart HO4.out HG4.out (by decide) j hj e))
 clear HB4 HX4 HP4 HS4 HI4 HT4 HG4 HO4
 generalize (V4.setCell ⟨g7, 0, none⟩ (.int .i64 1)).setCell ⟨g7, 1, none⟩ (.slice A8 3 c8) = V at HBZ HGZ HOZ ⊢
 simp only [Act.put, List.setIfInBounds_toArray, List.set_cons_zero, List.set_cons_succ]
 refine zzG 12 (.int .i64 0) (some 8) rfl ?_
 refine wpAny_done (by kernel_rfl) ?_ _
 simp only [Act.put, List.setIfInBounds_toArray, List.set_cons_zero, List.set_cons_succ]
 all_goals (
  obtain ⟨z0, z1, _⟩ := bx2 HGZ.out
  have HRZ := Lib.hid (OwnE.rd ptC_three HOZ.out)
  go_wp2_with (go_at_call 24; refine (CB.out _ _ _ (by exact HRZ.out)).mono ?_; rintro e V9 ⟨rfl, hb9⟩; have HB9 := Lib.hid (HBZ.out.trans (hb9.mono HBZ.out.size)); clear hb9)
  go_ret
  exact ⟨rfl, HB9.out⟩)
end Go.Proofs.YtfkojnofbpdjdaaGreatDoor

namespace Go.Proofs.YtfkojnofbpdjdaaGreatDoor
set_option maxRecDepth 100000
open Go.RowKit
theorem PcO.other {B : Nat} {w w' : World} {v : Value} {ps : List Pc} {ys : List Pv} (h : PcO B w v ps ys) (hg : w.grownBy w' v.ownBlock) {α : Type} {e : TypeId} {f : α → List Value} {m B' : Nat} {u : Value} {l : List α} (ho : OwnE e f m w B' u l) (hne : 56 ≠ e) : OwnE e f m w' B' u l :=
 own_same ho fun k hk => hg.block k (ho.lt k hk).2 (fun e => by
  obtain ⟨cur, hc⟩ := own_row_at h.own e.symm
  exact own_apart ho hc hne k hk rfl)
theorem box2D {w : World} {g : Nat} {v0 v1 : Value} {t : TypeId} (h : w.heap[g]? = some (.cells #[v0, v1] t)) : w.cell? ⟨g, 0, none⟩ = some v0 ∧ w.cell? ⟨g, 1, none⟩ = some v1 := by
 constructor
 ·rw [cell_of_row _ _ _ _ _ _ h]; rfl
 ·rw [cell_of_row _ _ _ _ _ _ h]; rfl
theorem pcs_take (ks : List (Nat × List Tk)) (k : Nat) (h : k < ks.length) : pcsL (ks.take (k + 1)) = pcsL (ks.take k) ++ pcsU ks[k].1 ks[k].2 := by
 unfold pcsL
 rw [List.take_succ_eq_append_getElem h, List.flatMap_append]
 simp
theorem map_takeP (p : Nat) (f : List Tk) (rl : List (Nat × Nat)) (k : Nat) (h : k < rl.length) : (rl.take (k + 1)).map (pcU p f) = (rl.take k).map (pcU p f) ++ [pcU p f rl[k]] := by
 rw [List.take_succ_eq_append_getElem h, List.map_append]
 rfl
theorem pieces_any (m fmt : Int) (ps : List Pt) (ks : List (Nat × List Tk)) (h : UnOk m fmt ps ks) (A : Option Addr) (c : Nat) (vr : Value) (w : World) (hm : w.cell? ⟨0, 0, none⟩ = some (.int .i64 m)) (hp : RdE ptC 3 w (.slice A ps.length c) ps) (hr : RdRu w vr [sentR]) :
 Calls Tryz.prog 18 #[.agg #[.int .i64 fmt, .slice A ps.length c], vr] w (fun e w' => ∃ v, e = .returned (.tuple #[v, .bool true]) ∧ (∃ ys, PcO w.heap.size w' v (pcsL ks) ys) ∧ Below w.heap.size w w') := by
 obtain ⟨R, HRR⟩ : ∃ R : Ending → World → Prop, Hid (R = fun e w' => ∃ v, e = .returned (.tuple #[v, .bool true]) ∧ (∃ ys, PcO w.heap.size w' v (pcsL ks) ys) ∧ Below w.heap.size w w') := ⟨_, rfl⟩
 rw [← HRR.out]
 have HU := Lib.hid h
 have hpl := h.len
 have hkl := unks_len h
 have HTL := Lib.hid (pcs_take_len h)
 have CU := Lib.hid (fun W (hW : Below w.heap.size w W) => units_any fmt ps A c W (hp.below hW (Nat.le_refl _)) (by omega))
 rw [h.idx] at CU
 have CC := Lib.hid (fun (x : Nat × List Tk) (hx : x ∈ ks) (W : World) (hW : Below w.heap.size w W) => by
  obtain ⟨h1, h2, h3, _⟩ := h.each x hx
  exact content_any m fmt h.ok ps x.2 x.1 h1 h2 h3 A c W (below_cell0 hm hW) (hp.below hW (Nat.le_refl _)) (by omega))
 obtain ⟨Ar, cr, rfl⟩ : ∃ Ar cr, vr = .slice Ar 1 cr := by
  obtain ⟨xs, h1, h2, _⟩ := hr
  obtain ⟨Ar, cr, h3, _⟩ := h1.shape
  rw [h2] at h3
  exact ⟨Ar, cr, h3⟩
 have HR := Lib.hid hr
 have HB0 := Lib.hid ((Below.refl w.heap.size w).alloc (Nat.le_refl _) (.cells #[.int .i64 fmt, .slice A ps.length c] 41))
 have HX0 : Hid ((w.alloc (.cells #[.int .i64 fmt, .slice A ps.length c] 41)).heap[w.heap.size]? = some (.cells #[.int .i64 fmt, .slice A ps.length c] 41)) := heap_alloc_new w _
 clear h hp hr hm
 go_enter Tryz.func18, Tryz.ntmps18
 go_upto_region 2 with fail
 generalize w.alloc (.cells #[.int .i64 fmt, .slice A ps.length c] 41) = w1 at HB0 HX0 ⊢
 obtain ⟨g, hg⟩ : ∃ g, Hid (g = w.heap.size) := ⟨_, rfl⟩
 rw [← hg.out] at HX0 ⊢
 have hgl : g < w1.heap.size := (Array.getElem?_eq_some_iff.1 HX0.out).1
 obtain ⟨d0, d1⟩ := box2D HX0.out
 go_upto_region 3 with (go_at_call 26; refine (CU.out _ (by exact HB0.out)).mono ?_; rintro e w2 ⟨vu, rfl, hou, hbu⟩; have HOU := Lib.hid (OwnE.rd intC_one hou); have HBU := Lib.hid hbu; obtain ⟨Au, cu, hvu⟩ := own_shape hou; rw [List.length_map] at hvu; subst hvu; clear hou hbu)
 have HX2 := Lib.hid ((HBU.out.block g hgl).trans HX0.out)
 have hg2 : g < w2.heap.size := Nat.lt_of_lt_of_le hgl HBU.out.size
 have HB2 := Lib.hid (HB0.out.trans (HBU.out.mono HB0.out.size))
 clear d0 d1
 go_loopg [6, 18] ks.length (fun gk ov iv wr => ∃ k : Nat, iv = .int .i64 k ∧ k ≤ ks.length ∧ Hid (∃ ys, PcO w2.heap.size wr ov (pcsL (ks.take k)) ys) ∧ Hid (Below w2.heap.size w2 wr) ∧ ks.length - k ≤ gk)
 case atStart => exact ⟨0, rfl, Nat.zero_le _, ⟨[], PcO.nil⟩, Below.refl _ _, Nat.le_refl _⟩
 case round =>
  obtain ⟨k, rfl, hk, HO, HB, hgk⟩ := hrel
  by_cases hlt : k < ks.length
  ·have hx : ks[k] ∈ ks := List.getElem_mem hlt
   have hrd := HOU.out.below HB.out (Nat.le_refl _)
   obtain ⟨b, o, hAu, hb, c0⟩ := rdInt_at hrd k (by rw [List.length_map]; exact hlt)
   subst hAu
   rw [List.getElem_map] at c0
   obtain ⟨_, _, _, hl1, hl2⟩ := HU.out.each _ hx
   have HTK := Lib.hid (pcs_take ks k hlt)
   have htl := HTL.out k
   have htl2 := HTL.out (k + 1)
   have CCx := Lib.hid (CC.out _ hx)
   generalize ks[k] = x at *
   obtain ⟨kx, fx⟩ := x
   simp only at c0 hl1 hl2 HTK CCx
   have hrb := (ranges_bd [sentR] fx).1
   have HRB := Lib.hid (ranges_bd [sentR] fx).2
   have CR := Lib.hid (fun (v vr : Value) (W : World) (h1 : RdRu W vr [sentR]) (h2 : RdT W v fx) => ranges_any [sentR] vr fx v W h1 sent_smallT h2 (by omega) (by omega))
   have CSl := Lib.hid (fun (p q : Nat) (v : Value) (W : World) (h1 : p ≤ q) (h2 : q ≤ lenI fx) (h : RdT W v fx) => islice_any fx v p q W h (by omega) (by omega) h1 h2)
   unfold pcsU at HTK
   generalize rangesF [sentR] fx = rl at *
   have hrl : rl.length ≤ 1000 := by omega
   rw [HTK.out] at htl2
   generalize pcsL (ks.take k) = P0 at *
   have HXr := Lib.hid ((HB.out.block g hg2).trans HX2.out)
   obtain ⟨d0, d1⟩ := box2D HXr.out
   have HBr := Lib.hid (HB2.out.trans (HB.out.mono HB2.out.size))
   clear hrd hl2
   go_upto_region 6 with (go_at_call 27; refine (CCx.out _ (by exact HBr.out)).mono ?_; rintro e w3 ⟨v, rfl, ho, hb3⟩; obtain ⟨Af, cf, rfl⟩ := own_shape ho; have HF3 := Lib.hid ho; have HB3 := Lib.hid hb3; clear ho hb3)
   have HBw3 := Lib.hid (HBr.out.trans (HB3.out.mono HBr.out.size))
   go_upto_region 9 with (go_at_call 31; refine (CR.out _ _ _ (by exact RdRu.below HR.out HBw3.out (Nat.le_refl _)) (by exact HF3.out.rd tkC_three)).mono ?_; rintro e w4 ⟨v, rfl, ho, hb4⟩; obtain ⟨Arl, crl, rfl⟩ := own_shape ho; have HRL4 := Lib.hid ho; have HB4 := Lib.hid hb4; clear ho hb4)
   have HB34 := Lib.hid (HB3.out.trans (HB4.out.mono HB3.out.size))
   have HB24 := Lib.hid (HB.out.trans (HB34.out.mono HB.out.size))
   obtain ⟨ys4, hys4⟩ := HO.out
   have HO4 := Lib.hid (hys4.below HB34.out)
   have HF4 := Lib.hid (own_base (own_same HF3.out fun k hk => HB4.out.block k (HF3.out.lt k hk).2) HB.out.size)
   have HRL4b := Lib.hid (own_base HRL4.out (Nat.le_trans HB.out.size HB3.out.size))
   clear hys4 HO HF3 HRL4 d0 d1 HXr c0 hb HB3 HB4 HB34 HBw3
   have hB24 := HB24.out.size
   go_loopg [6, 34] rl.length (fun gk2 ov iv wz => ∃ j : Nat, iv = .int .i64 j ∧ j ≤ rl.length ∧ Hid (∃ ys, PcO w2.heap.size wz ov (P0 ++ (rl.take j).map (pcU kx fx)) ys) ∧ Hid (OwnE 31 tkC 3 wz w2.heap.size (.slice Af fx.length cf) fx) ∧ Hid (OwnE 54 rangeC 2 wz w2.heap.size (.slice Arl rl.length crl) rl) ∧ Hid (Below w2.heap.size w2 wz) ∧ rl.length - j ≤ gk2)
   case atStart => exact ⟨0, rfl, Nat.zero_le _, ⟨ys4, by rw [List.take_zero, List.map_nil, List.append_nil]; exact HO4.out⟩, HF4.out, HRL4b.out, HB24.out, Nat.le_refl _⟩
   case round =>
    clear HO4 HF4 HRL4b HB24 hB24
    obtain ⟨j, rfl, hj, HO2, HF, HRL, HBz, hgk2⟩ := hrel
    by_cases hlj : j < rl.length
    ·obtain ⟨b2, o2, hArl, hb2, r0, r1⟩ := rdR_at (HRL.out.rd rangeC_two) j hlj
     subst hArl
     have hrj := HRB.out _ (List.getElem_mem hlj)
     have HTJ := Lib.hid (map_takeP kx fx rl j hlj)
     have hP0 : (P0 ++ (rl.take j).map (pcU kx fx)).length ≤ 2000000 := by rw [List.length_append, List.length_map]; have := List.length_take_le j rl; omega
     generalize rl[j] = r at *
     obtain ⟨p, q⟩ := r
     simp only at r0 r1 hrj
     obtain ⟨ys, hys⟩ := HO2.out
     obtain ⟨Ao, co, hov⟩ := own_shape hys.own
     have hyl : ys.length ≤ 2000000 := by rw [hys.len]; exact hP0
     clear hP0
     subst hov
     have hz := HBz.out.size
     have HYS5 := Lib.hid (hys.below ((Below.refl wr.heap.size wr).alloc (Nat.le_refl _) (.cells #[.int .i64 p, .int .i64 q] 54)))
     have HF5 := Lib.hid (World.ownsRow.alloc HF.out (.cells #[.int .i64 p, .int .i64 q] 54))
     have HRL5 := Lib.hid (World.ownsRow.alloc HRL.out (.cells #[.int .i64 p, .int .i64 q] 54))
     have HB5 := Lib.hid (HBz.out.alloc hz (.cells #[.int .i64 p, .int .i64 q] 54))
     have HX5 : Hid ((wr.alloc (.cells #[.int .i64 p, .int .i64 q] 54)).heap[wr.heap.size]? = some (.cells #[.int .i64 p, .int .i64 q] 54)) := heap_alloc_new wr _
     clear hys HO2
     go_upto_region 11 with fail
     generalize wr.alloc (.cells #[.int .i64 p, .int .i64 q] 54) = w5 at HYS5 HF5 HRL5 HB5 HX5 ⊢
     obtain ⟨gq, hgq⟩ : ∃ gq, Hid (gq = wr.heap.size) := ⟨_, rfl⟩
     rw [← hgq.out] at HX5 ⊢
     have hgl5 : gq < w5.heap.size := (Array.getElem?_eq_some_iff.1 HX5.out).1
     obtain ⟨e0, e1⟩ := box2D HX5.out
     have hpq : p ≤ q := by omega
     have hql : q ≤ lenI fx := hrj.2
     have hz5 := HB5.out.size
     clear r0 r1
     go_upto_region 12 with (go_at_call 47; go_loud (refine (CSl.out p q _ _ hpq hql (by exact OwnE.rd tkC_three HF5.out)).mono ?_); rintro e w6 ⟨v, rfl, ho, hb6⟩; obtain ⟨As, cs, rfl⟩ := own_shape ho; have HS6 := Lib.hid ho; have HB6 := Lib.hid hb6; clear ho hb6)
     have HYS6 := Lib.hid (HYS5.out.below HB6.out)
     have HF6 := Lib.hid (own_same HF5.out fun k hk => HB6.out.block k (HF5.out.lt k hk).2)
     have HRL6 := Lib.hid (own_same HRL5.out fun k hk => HB6.out.block k (HRL5.out.lt k hk).2)
     have HSb := Lib.hid (own_base HS6.out hz5)
     have HBw6 := Lib.hid (HB5.out.trans (HB6.out.mono hz5))
     obtain ⟨f0, f1⟩ := box2D ((HB6.out.block gq hgl5).trans HX5.out)
     clear e0 e1 HYS5 HF5 HRL5 HB5 HX5 HS6 HB6 hz5
     have hz6 := HBw6.out.size
     have HYS7 := Lib.hid (HYS6.out.below ((Below.refl w6.heap.size w6).alloc (Nat.le_refl _) (.cells #[.int .i64 kx, .int .i64 p, .int .i64 q, .slice As (slI fx 0 p q).length cs] 56)))
     have HF7 := Lib.hid (World.ownsRow.alloc HF6.out (.cells #[.int .i64 kx, .int .i64 p, .int .i64 q, .slice As (slI fx 0 p q).length cs] 56))
     have HRL7 := Lib.hid (World.ownsRow.alloc HRL6.out (.cells #[.int .i64 kx, .int .i64 p, .int .i64 q, .slice As (slI fx 0 p q).length cs] 56))
     have HS7 := Lib.hid (World.ownsRow.alloc HSb.out (.cells #[.int .i64 kx, .int .i64 p, .int .i64 q, .slice As (slI fx 0 p q).length cs] 56))
     have HB7 := Lib.hid (HBw6.out.alloc hz6 (.cells #[.int .i64 kx, .int .i64 p, .int .i64 q, .slice As (slI fx 0 p q).length cs] 56))
     clear HYS6 HF6 HRL6 HSb HBw6
     go_upto_region 15 with (at_builtin; go_loud (refine wpList_appE rfl (.tmp 49) (.tmp 54) 43 56 rfl Tryz.underlying43 _ pvC 4 48 pv_info rfl (by decide) pvC_len pvC_one w2.heap.size _ ys rfl (by exact HYS7.out.own) _ [⟨⟨kx, p, q, slI fx 0 p q⟩, As, cs⟩] rfl (by exact rdE_oneR pvC 4 pvC_len _ _ (by simp) ⟨⟨kx, p, q, slI fx 0 p q⟩, As, cs⟩ _) (by simp; omega) (by decide) HB7.out.size ?_); intro v8 w8 hown8 hbel8 hgr8; have HYS8 := Lib.hid (HYS7.out.push ⟨⟨kx, p, q, slI fx 0 p q⟩, As, cs⟩ HS7.out hown8 hgr8); have HF8 := Lib.hid (HYS7.out.other hgr8 HF7.out (by decide)); have HRL8 := Lib.hid (HYS7.out.other hgr8 HRL7.out (by decide)); have HB8 := Lib.hid (hbel8 w2.heap.size w2 (Nat.le_refl _) HB7.out); clear hown8 hbel8 hgr8)
     go_wp2_with fail
     go_roundg (rl.length - (j + 1))
     case measure => omega
     case rel =>
      have hfin : Hid (∃ ys, PcO w2.heap.size w8 v8 (P0 ++ (rl.take (j + 1)).map (pcU kx fx)) ys) := by
       refine ⟨ys ++ [⟨⟨kx, p, q, slI fx 0 p q⟩, As, cs⟩], ?_⟩
       rw [HTJ.out, ← List.append_assoc]
       exact HYS8.out
      exact ⟨j + 1, rfl, hlj, hfin, HF8.out, HRL8.out, HB8.out, Nat.le_refl _⟩
    ·obtain rfl : j = rl.length := by omega
     rw [List.take_length, ← HTK.out] at HO2
     go_wp2_with fail
     go_roundg (ks.length - (k + 1))
     case measure => omega
     case rel => exact ⟨k + 1, rfl, hlt, HO2.out, HBz.out, Nat.le_refl _⟩
  ·obtain rfl : k = ks.length := by omega
   rw [List.take_length] at HO
   obtain ⟨ys, hys⟩ := HO.out
   obtain ⟨A2, c2, hov⟩ := own_shape hys.own
   have HB3 := Lib.hid (HB2.out.trans (HB.out.mono HB2.out.size))
   have HYS := Lib.hid hys
   subst hov
   clear hys
   go_wp2_with fail
   first | go_ret2 | skip
   rw [HRR.out]
   exact ⟨_, rfl, ⟨ys, own_base HYS.out.own HB2.out.size, HYS.out.eq, fun y hy => own_base (HYS.out.each y hy) HB2.out.size⟩, HB3.out⟩
end Go.Proofs.YtfkojnofbpdjdaaGreatDoor

namespace Go.Proofs.YtfkojnofbpdjdaaGreatDoor
set_option maxRecDepth 100000
def itemG (tags : Bool) (L : List Int) (c : Int) (t : ByteArray) (op : List Tk) (id M : Nat) : Tk × List Tk × Nat × Nat :=
 if c = 0 ∨ c = 1 then (⟨5, slotW.getD (nextN L M 3).toNat ⟨#[]⟩, 0⟩, op, id, M + 1)
 else if c = 2 ∧ tags = true then (⟨4, emptyW.getD (nextN L M 2).toNat ⟨#[]⟩, (id + 1 : Nat)⟩, op, id + 1, M + 1)
 else if (c = 3 ∨ c = 4) ∧ tags = true then (⟨2, openW.getD (nextN L M 3).toNat ⟨#[]⟩, (id + 1 : Nat)⟩, op ++ [⟨2, openW.getD (nextN L M 3).toNat ⟨#[]⟩, (id + 1 : Nat)⟩], id + 1, M + 1)
 else if (c = 5 ∨ c = 6) ∧ 0 < op.length then (⟨3, nameB (op.getLastD ⟨0, ⟨#[]⟩, 0⟩).t, (op.getLastD ⟨0, ⟨#[]⟩, 0⟩).d⟩, op.dropLast, id, M)
 else (⟨1, t, 0⟩, op, id, M)
def fragGStep (tags : Bool) (L : List Int) (s : FS) : FS :=
 let ln := lineL L s.N 3
 let x := itemG tags L (nextN L ln.2 8) ln.1 s.op s.id (ln.2 + 1)
 ⟨normL (s.f ++ [x.1]), x.2.1, x.2.2.1, x.2.2.2⟩
def fragGGo (tags : Bool) (L : List Int) : Nat → FS → FS
 | 0, s => s
 | i + 1, s => fragGGo tags L i (fragGStep tags L s)
def closeG (op : List Tk) : List Tk := op.reverse.map fun y => ⟨3, nameB y.t, y.d⟩
def fragG (tags : Bool) (L : List Int) (N : Nat) (n : Int) : List Tk × Nat :=
 let s := fragGGo tags L (nextN L N (n + 1)).toNat ⟨[], [], 0, N + 1⟩
 (s.f ++ closeG s.op, s.N)
structure FGK (tags : Bool) (s : FS) (r : Nat) : Prop where
 len : s.f.length ≤ r
 bytes : bytesOf s.f ≤ 18 * r
 oplen : s.op.length ≤ r
 opsz : ∀ x ∈ s.op, x.t.size ≤ 5
 id : s.id ≤ r
 normal : Normal s.f
 plain : tags = false → (∀ x ∈ s.f, PlainOk x) ∧ s.op = []
theorem slotW_ok (k : Nat) (h : k < 3) : nameL (slotW.getD k ⟨#[]⟩).data.toList = true := by
 rcases (show k = 0 ∨ k = 1 ∨ k = 2 by omega) with rfl | rfl | rfl <;> decide
theorem itemG_ok (tags : Bool) (L : List Int) (c : Int) (t : ByteArray) (op : List Tk) (id M r : Nat) (ht : t.size ≤ 18) (h1 : op.length ≤ r) (h2 : ∀ x ∈ op, x.t.size ≤ 5) (h3 : id ≤ r) (hp : tags = false → op = []) :
 ∀ x op' id' M', itemG tags L c t op id M = (x, op', id', M') → x.t.size ≤ 18 ∧ op'.length ≤ r + 1 ∧ (∀ x ∈ op', x.t.size ≤ 5) ∧ id' ≤ r + 1 ∧ M' ≤ M + 1 ∧ (tags = false → PlainOk x ∧ op' = []) := by
 intro x op' id' M' h
 unfold itemG at h
 have hs := getD_size slotW (nextN L M 3).toNat (by decide)
 have he := getD_size emptyW (nextN L M 2).toNat (by decide)
 have ho := getD_size openW (nextN L M 3).toNat (by decide)
 have hb := nextN_bd L M 3 (by decide)
 split at h
 ·cases h; exact ⟨Nat.le_trans hs (by decide), by omega, h2, by omega, by omega, fun hf => ⟨Or.inr ⟨rfl, slotW_ok _ (by omega), rfl⟩, hp hf⟩⟩
 split at h
 ·rename_i hc
  cases h; exact ⟨Nat.le_trans he (by decide), by omega, h2, by omega, by omega, fun hf => by rw [hf] at hc; cases hc.2⟩
 split at h
 ·rename_i hc
  cases h
  refine ⟨Nat.le_trans ho (by decide), by simp; omega, fun y hy => ?_, by omega, by omega, fun hf => by rw [hf] at hc; cases hc.2⟩
  rcases List.mem_append.1 hy with hy | hy
  ·exact h2 y hy
  ·rw [List.mem_singleton.1 hy]; exact ho
 split at h
 ·rename_i hc
  cases h
  refine ⟨?_, by rw [List.length_dropLast]; omega, fun y hy => h2 y (List.dropLast_subset _ hy), by omega, by omega, fun hf => by have := hp hf; rw [this] at hc; simp at hc⟩
  refine Nat.le_trans (nameB_size _) ?_
  cases hl : op.getLast? with
  | none => rw [List.getLastD_eq_getLast?, hl]; decide
  | some y =>
    rw [List.getLastD_eq_getLast?, hl, Option.getD_some]
    exact Nat.le_trans (h2 y (List.mem_of_getLast? hl)) (by decide)
 ·cases h; exact ⟨ht, by omega, h2, by omega, by omega, fun hf => ⟨Or.inl rfl, hp hf⟩⟩
theorem FGK.step (tags : Bool) (L : List Int) (s : FS) (r : Nat) (h : FGK tags s r) : FGK tags (fragGStep tags L s) (r + 1) ∧ (fragGStep tags L s).N ≤ s.N + 9 := by
 obtain ⟨f, op, id, N⟩ := s
 obtain ⟨h1, h2, h3, h4, h5, h8, h9⟩ := h
 simp only at h1 h2 h3 h4 h5 h8 h9
 have hl := lineL_bd L N 3 (by decide)
 unfold fragGStep
 simp only
 generalize hln : lineL L N 3 = ln at hl
 obtain ⟨t, M⟩ := ln
 simp only at hl ⊢
 generalize hx : itemG tags L (nextN L M 8) t op id (M + 1) = x
 obtain ⟨x, op', id', M'⟩ := x
 have ht : t.size ≤ 18 := hl.1
 have hM : M ≤ N + 7 := hl.2
 obtain ⟨q1, q3, q4, q5, q6, q7⟩ := itemG_ok tags L _ t op id (M + 1) r ht h3 h4 h5 (fun hf => (h9 hf).2) x op' id' M' hx
 refine ⟨⟨?_, ?_, q3, q4, q5, normL_normal _, fun hf => ⟨?_, (q7 hf).2⟩⟩, ?_⟩
 ·have := normL_length (f ++ [x])
  rw [List.length_append, List.length_singleton] at this
  show (normL (f ++ [x])).length ≤ r + 1
  omega
 ·show bytesOf (normL (f ++ [x])) ≤ 18 * (r + 1)
  rw [normL_bytes, bytesOf_append, bytesOf_one]
  omega
 ·refine plain_norm _ fun y hy => ?_
  rcases List.mem_append.1 hy with hy | hy
  ·exact (h9 hf).1 y hy
  ·rw [List.mem_singleton.1 hy]; exact (q7 hf).1
 ·show M' ≤ N + 9
  omega
theorem fragGGo_ok (tags : Bool) (L : List Int) : ∀ i s r, FGK tags s r → FGK tags (fragGGo tags L i s) (r + i) ∧ (fragGGo tags L i s).N ≤ s.N + 9 * i
 | 0, _, _, h => ⟨h, Nat.le_refl _⟩
 | i + 1, s, r, h => by
   obtain ⟨g1, g2⟩ := FGK.step tags L s r h
   obtain ⟨g3, g4⟩ := fragGGo_ok tags L i _ (r + 1) g1
   refine ⟨?_, ?_⟩
   ·rw [show r + 1 + i = r + (i + 1) by omega] at g3
    exact g3
   ·show (fragGGo tags L i (fragGStep tags L s)).N ≤ _
    omega
theorem fgk_start (tags : Bool) (N : Nat) : FGK tags ⟨[], [], 0, N⟩ 0 :=
 ⟨by simp, by simp [bytesOf], by simp, by simp, by simp, trivial, fun _ => ⟨fun x hx => by simp at hx, rfl⟩⟩
theorem wdI_bytes : ∀ f : List Tk, lenI f ≤ bytesOf f + f.length
 | [] => Nat.le_refl _
 | x :: f => by
   have h2 := wdI_bytes f
   have e : bytesOf (x :: f) = x.t.size + bytesOf f := by
    have := bytesOf_append [x] f
    rw [bytesOf_one] at this
    exact this
   rw [lenI, List.length_cons, e]
   have h3 : wdI x ≤ x.t.size + 1 := by
    unfold wdI
    split <;> omega
   omega
theorem fragG_plain (L : List Int) (N n : Nat) (hn : n ≤ 8) : Normal (fragG false L N n).1 ∧ (∀ x ∈ (fragG false L N n).1, PlainOk x) ∧ (fragG false L N n).1.length ≤ 8 ∧ lenI (fragG false L N n).1 ≤ 152 := by
 have hb := nextN_bd L N ((n : Int) + 1) (by omega)
 obtain ⟨h, _⟩ := fragGGo_ok false L (nextN L N ((n : Int) + 1)).toNat ⟨[], [], 0, N + 1⟩ 0 (fgk_start false (N + 1))
 have hp := h.plain rfl
 have hl := h.len
 have hby := h.bytes
 have hnm := h.normal
 have e : (fragG false L N n).1 = (fragGGo false L (nextN L N ((n : Int) + 1)).toNat ⟨[], [], 0, N + 1⟩).f := by
  show _ ++ closeG _ = _
  rw [hp.2]
  exact List.append_nil _
 rw [e]
 have := wdI_bytes (fragGGo false L (nextN L N ((n : Int) + 1)).toNat ⟨[], [], 0, N + 1⟩).f
 exact ⟨hnm, hp.1, by omega, by omega⟩
end Go.Proofs.YtfkojnofbpdjdaaGreatDoor

namespace Go.Proofs.YtfkojnofbpdjdaaGreatDoor
set_option maxRecDepth 100000
def endR : List UInt8 → Nat
 | [] => 0
 | [c] => if c = 10 then 0 else if c = 92 then 2 else 1
 | c :: d :: l => if c = 10 then 0 else if c = 92 then 2 + endR l else 1 + endR (d :: l)
theorem endR_stop (l : List UInt8) : endR (10 :: l) = 0 := by
 cases l with
 | nil => rfl
 | cons d l => rw [endR, if_pos rfl]
theorem endR_one (c : UInt8) (l : List UInt8) (h1 : c ≠ 10) (h2 : c ≠ 92) : endR (c :: l) = 1 + endR l := by
 cases l with
 | nil =>
   show (if c = 10 then 0 else if c = 92 then 2 else 1) = 1
   rw [if_neg h1, if_neg h2]
 | cons d l => rw [endR, if_neg h1, if_neg h2]
theorem endR_two (d : UInt8) (l : List UInt8) : endR (92 :: d :: l) = 2 + endR l := by rw [endR, if_neg (by decide), if_pos rfl]
theorem endR_all : ∀ (r l : List UInt8), (∀ c ∈ r, c ≠ 10 ∧ c ≠ 92) → endR (r ++ l) = r.length + endR l
 | [], l, _ => by simp
 | c :: r, l, h => by
   rw [List.cons_append, endR_one c _ (h c (by simp)).1 (h c (by simp)).2, endR_all r l (fun b hb => h b (by simp [hb])), List.length_cons]
   omega
theorem name_ne (l : List UInt8) (h : nameL l = true) (c : UInt8) (hc : c = 10 ∨ c = 92 ∨ c = 34) : ∀ b ∈ l, b ≠ c := by
 intro b hb e
 have hh := name_bytes l h b hb
 rw [e] at hh
 rcases hc with rfl | rfl | rfl <;> revert hh <;> decide
theorem endR_el (r : List UInt8) (x : Option Tk) (l : List UInt8) (h : ElOk 2 r x) : endR (r ++ l) = r.length + endR l := by
 generalize hf : (2 : Int) = fmt at h
 cases h with
 | slot _ n hn =>
   refine endR_all _ l fun b hb => ?_
   rw [List.mem_append, List.mem_cons] at hb
   rcases hb with (rfl | hb) | hb
   ·decide
   ·exact ⟨name_ne n hn 10 (by simp) b hb, name_ne n hn 92 (by simp) b hb⟩
   ·rw [List.mem_singleton.1 hb]; decide
 | ch2 c hc => exact endR_all [c] l fun b hb => by rw [List.mem_singleton.1 hb]; exact ⟨hc.1, hc.2.1⟩
 | esc e c he => exact endR_two e l
 | cont b hb =>
   show endR (92 :: 10 :: (b ++ l)) = _
   rw [endR_two, endR_all b l (fun c hc => by rcases hb c hc with rfl | rfl <;> decide), List.length_cons, List.length_cons]
   omega
 | ch1 c hc => cases hf
 | ref r c hr => cases hf
 | opn t d ht hb => cases hf
 | cls t d ht hb => cases hf
 | emp t d ht hb => cases hf
 | ch3 c hc => cases hf
 | two c hc => cases hf
theorem endR_raw (l : List UInt8) : ∀ (ts : Els), (∀ e ∈ ts, ElOk 2 e.1 e.2) → endR (rawE ts ++ 10 :: l) = (rawE ts).length
 | [], _ => endR_stop l
 | (r, x) :: ts, h => by
   rw [show rawE ((r, x) :: ts) = r ++ rawE ts from rfl, List.append_assoc, endR_el r x _ (h (r, x) (by simp)), endR_raw l ts (fun e he => h e (by simp [he])), List.length_append]
def endQ : List UInt8 → Nat
 | [] => 0
 | [c] => if c = 34 then 0 else 1
 | c :: d :: l => if c = 34 then (if d = 34 then 2 + endQ l else 0) else 1 + endQ (d :: l)
theorem endQ_one (c : UInt8) (l : List UInt8) (h : c ≠ 34) : endQ (c :: l) = 1 + endQ l := by
 cases l with
 | nil =>
   show (if c = 34 then 0 else 1) = 1
   rw [if_neg h]
 | cons d l => rw [endQ, if_neg h]
theorem endQ_two (l : List UInt8) : endQ (34 :: 34 :: l) = 2 + endQ l := by rw [endQ, if_pos rfl, if_pos rfl]
theorem endQ_stop (l : List UInt8) (h : l.head? ≠ some 34) : endQ (34 :: l) = 0 := by
 cases l with
 | nil => rfl
 | cons d l => rw [endQ, if_pos rfl, if_neg (fun e => h (by rw [e]; rfl))]
theorem endQ_all : ∀ (r l : List UInt8), (∀ c ∈ r, c ≠ 34) → endQ (r ++ l) = r.length + endQ l
 | [], l, _ => by simp
 | c :: r, l, h => by
   rw [List.cons_append, endQ_one c _ (h c (by simp)), endQ_all r l (fun b hb => h b (by simp [hb])), List.length_cons]
   omega
theorem endQ_el (r : List UInt8) (x : Option Tk) (l : List UInt8) (h : ElOk 3 r x) : endQ (r ++ l) = r.length + endQ l := by
 generalize hf : (3 : Int) = fmt at h
 cases h with
 | slot _ n hn =>
   refine endQ_all _ l fun b hb => ?_
   rw [List.mem_append, List.mem_cons] at hb
   rcases hb with (rfl | hb) | hb
   ·decide
   ·exact name_ne n hn 34 (by simp) b hb
   ·rw [List.mem_singleton.1 hb]; decide
 | ch3 c hc => exact endQ_all [c] l fun b hb => by rw [List.mem_singleton.1 hb]; exact hc.1
 | two c hc =>
   rcases hc with rfl | rfl
   ·exact endQ_two l
   ·exact endQ_all [123, 123] l fun b hb => by
     simp at hb
     rw [hb]; decide
 | ch1 c hc => cases hf
 | ref r c hr => cases hf
 | opn t d ht hb => cases hf
 | cls t d ht hb => cases hf
 | emp t d ht hb => cases hf
 | ch2 c hc => cases hf
 | esc e c he => cases hf
 | cont b hb => cases hf
theorem endQ_raw (l : List UInt8) (hl : l.head? ≠ some 34) : ∀ (ts : Els), (∀ e ∈ ts, ElOk 3 e.1 e.2) → endQ (rawE ts ++ 34 :: l) = (rawE ts).length
 | [], _ => endQ_stop l hl
 | (r, x) :: ts, h => by
   rw [show rawE ((r, x) :: ts) = r ++ rawE ts from rfl, List.append_assoc, endQ_el r x _ (h (r, x) (by simp)), endQ_raw l hl ts (fun e he => h e (by simp [he])), List.length_append]
end Go.Proofs.YtfkojnofbpdjdaaGreatDoor

namespace Go.Proofs.YtfkojnofbpdjdaaGreatDoor
set_option maxRecDepth 100000
theorem keysRL_app (a b : List RL) : keysRL (a ++ b) = keysRL a ++ keysRL b := by simp [keysRL]
end Go.Proofs.YtfkojnofbpdjdaaGreatDoor

namespace Go.Proofs.YtfkojnofbpdjdaaGreatDoor
set_option maxRecDepth 100000
theorem idx_line (l r : List UInt8) (h : ∀ c ∈ l, c ≠ 10) : Lib.index (l ++ 10 :: r) [10] = (l.length : Int) := by
 have := idx_skip [10] (10 :: r) 0 (by rw [Lib.index, if_pos (by rw [List.isPrefixOf_iff_prefix]; exact ⟨r, rfl⟩)]; rfl) l (fun i hi => by
  obtain ⟨q, hq⟩ := idxHead l (10 :: r) i hi
  rw [hq]
  exact pre_false _ _ _ _ (fun e => h _ (List.getElem_mem hi) e.symm))
 rw [this]
 simp
def lnR (l : List UInt8) : List UInt8 := (Lib.cut l [10]).1
theorem lnR_at (l r : List UInt8) (h : ∀ c ∈ l, c ≠ 10) : lnR (l ++ 10 :: r) = l := by
 unfold lnR Lib.cut
 rw [idx_line l r h, if_pos (by omega)]
 show (l ++ 10 :: r).take ((l.length : Int)).toNat = l
 rw [Int.toNat_natCast, List.take_left]
theorem lnR_cons (c : UInt8) (l : List UInt8) (h : c ≠ 10) : lnR (c :: l) = c :: lnR l := by
 have hi : Lib.index (c :: l) [10] = if Lib.index l [10] == -1 then -1 else Lib.index l [10] + 1 := by
  rw [Lib.index, if_neg (by rw [pre_false 10 c [] l (fun e => h e.symm)]; decide)]
 have hg := index_ge l [10]
 by_cases h1 : Lib.index l [10] = -1
 ·rw [if_pos (by rw [h1]; rfl)] at hi
  unfold lnR Lib.cut
  rw [hi, h1]
  rfl
 ·rw [if_neg (by simpa using h1)] at hi
  have e : (Lib.index l [10] + 1).toNat = (Lib.index l [10]).toNat + 1 := by omega
  unfold lnR Lib.cut
  rw [hi, if_pos (show 0 ≤ Lib.index l [10] + 1 by omega), if_pos (show 0 ≤ Lib.index l [10] by omega)]
  show (c :: l).take (Lib.index l [10] + 1).toNat = c :: l.take (Lib.index l [10]).toNat
  rw [e, List.take_succ_cons]
theorem lnR_le : ∀ (a r : List UInt8), (lnR (a ++ 10 :: r)).length ≤ a.length
 | [], r => by rw [lnR_at [] r (by simp)]; exact Nat.le_refl _
 | c :: a, r => by
   by_cases h : c = 10
   ·subst h
    rw [show (10 :: a) ++ 10 :: r = [] ++ 10 :: (a ++ 10 :: r) from rfl, lnR_at [] _ (by simp)]
    exact Nat.zero_le _
   ·rw [List.cons_append, lnR_cons c _ h, List.length_cons, List.length_cons]
    have := lnR_le a r
    omega
theorem keyB_ne (c : UInt8) (h : keyB c = true) : c ≠ 10 ∧ c ≠ 32 ∧ c ≠ 9 ∧ c ≠ 35 ∧ c ≠ 61 := by
 refine ⟨?_, ?_, ?_, ?_, ?_⟩ <;> (intro e; rw [e] at h; revert h; decide)
theorem idle_key (c : UInt8) (l : List UInt8) (h : keyB c = true) : idleL (lnR (c :: l)) = false := by
 obtain ⟨h1, h2, h3, h4, _⟩ := keyB_ne c h
 rw [lnR_cons c l h1]
 unfold idleL
 have : blkB c = false := by unfold blkB; simp [h2, h3]
 rw [List.dropWhile_cons, if_neg (by simp [this])]
 simpa using h4
theorem dropW_len (p : UInt8 → Bool) (l : List UInt8) : (l.dropWhile p).length ≤ l.length := by
 induction l with
 | nil => exact Nat.le_refl _
 | cons c l ih =>
   rw [List.dropWhile_cons]
   split
   ·rw [List.length_cons]; omega
   ·exact Nat.le_refl _
theorem idle_nil (l : List UInt8) (h : l.dropWhile blkB = []) : idleL l = true := by unfold idleL; rw [h]
theorem idle_cons (l : List UInt8) (c : UInt8) (r : List UInt8) (h : l.dropWhile blkB = c :: r) : idleL l = (c == 35) := by unfold idleL; rw [h]
def keyN : Nat → List UInt8 → Nat
 | 0, _ => 0
 | _ + 1, [] => 0
 | n + 1, c :: l => if keyB c = true then keyN n l + 1 else 0
theorem keyN_at : ∀ (n : Nat) (k r : List UInt8), k.length < n → (∀ c ∈ k, keyB c = true) → keyN n (k ++ 61 :: r) = k.length
 | n + 1, [], r, _, _ => by
   rw [List.nil_append, keyN, if_neg (by decide)]
   rfl
 | n + 1, c :: k, r, hn, h => by
   rw [List.cons_append, keyN, if_pos (h c (by simp)), keyN_at n k r (by simpa using hn) (fun d hd => h d (by simp [hd])), List.length_cons]
/-! ### The file -/
def rawR (ls : List RL) : List UInt8 := ls.flatMap rawRL
theorem rawR_app (a b : List RL) : rawR (a ++ b) = rawR a ++ rawR b := by simp [rawR]
theorem unsRL_snoc (ls : List RL) (x : RL) : unsRL (ls ++ [x]) = stepRL (unsRL ls) x := by
 unfold unsRL
 rw [List.foldl_append]
 rfl
theorem keys_snocS (ls : List RL) (l : List UInt8) : keysRL (ls ++ [.skip l]) = keysRL ls := by rw [keysRL_app]; exact List.append_nil _
theorem keys_snocU (ls : List RL) (k : List UInt8) (ts : Els) : keysRL (ls ++ [.unit k ts]) = keysRL ls ++ [k] := by rw [keysRL_app]; rfl
theorem unsRL_len (ls : List RL) : (unsRL ls).1.length = (keysRL ls).length := by
 suffices h : ∀ (ls : List RL) (st : List Un × List UInt8), (ls.foldl stepRL st).1.length = st.1.length + (keysRL ls).length by
  have := h ls ([], [])
  unfold unsRL
  simpa using this
 intro ls
 induction ls with
 | nil => intro st; rfl
 | cons x ls ih =>
   intro st
   rw [List.foldl_cons, ih]
   cases x with
   | skip l => rfl
   | unit k ts =>
     show (st.1 ++ [_]).length + _ = st.1.length + ((k :: keysRL ls).length)
     rw [List.length_append, List.length_cons]
     simp
     omega
theorem rawR_split (ls : List RL) : rawR ls = rawD (unsRL ls).1 ++ (unsRL ls).2 := by
 have := unsRL_raw ls ([], [])
 rw [show rawD ([] : List Un) = [] from rfl, List.nil_append, List.nil_append] at this
 exact this.symm
theorem keys_new (dn : List RL) (k : List UInt8) (ts : Els) (td : List RL) (h : (keysRL (dn ++ .unit k ts :: td)).Nodup) : ((keysRL dn).any fun x => x == k) = false := by
 rw [keysRL_app, show keysRL (.unit k ts :: td) = k :: keysRL td from rfl] at h
 rw [List.nodup_append] at h
 rw [List.any_eq_false]
 intro x hx
 have := h.2.2 x hx k (by simp)
 simpa using this
end Go.Proofs.YtfkojnofbpdjdaaGreatDoor

namespace Go.Proofs.YtfkojnofbpdjdaaGreatDoor
set_option maxRecDepth 100000
open Go.RowKit
theorem ex_lenS {a : Act} {w : World} {o : Oper} (x : Operand) (s : ByteArray) (ho : o.op = .call { callee := .builtin .len, args := #[x], argTypes := #[9] }) (hx : a.eval x = .string s) : (execOp a.eval o).run Tryz.prog w = .ok (.value (.int .i64 s.size)) w := by
 generalize a.eval = ρ at hx ⊢
 unfold execOp
 simp only [ho]
 go_simp
theorem ex_min {a : Act} {w : World} {o : Oper} (x y : Operand) (n m : Int) (ho : o.op = .call { callee := .builtin .min, args := #[x, y], argTypes := #[3, 3] }) (hx : a.eval x = .int .i64 n) (hy : a.eval y = .int .i64 m) (h : n ≤ m) : (execOp a.eval o).run Tryz.prog w = .ok (.value (.int .i64 n)) w := by
 generalize a.eval = ρ at hx hy ⊢
 unfold execOp
 simp only [ho]
 go_simp
 omega
theorem ex_call4 {P : Program} {w : World} {a : Act} {o : Oper} {f : FuncId} (x y z u : Operand) (ts : Array TypeId) (vx vy vz vu : Value) (ho : o.op = .call { callee := .value (.func f), args := #[x, y, z, u], argTypes := ts }) (hx : a.eval x = vx) (hy : a.eval y = vy) (hz : a.eval z = vz) (hu : a.eval u = vu) (he : (callFunc f #[vx, vy, vz, vu]).run P w = .ok (.enter f #[vx, vy, vz, vu]) w) : (execOp a.eval o).run P w = .ok (.enter f #[vx, vy, vz, vu]) w := by
 have hf : a.eval (.func f) = .func (.func f) #[] #[] := rfl
 generalize a.eval = ρ at hx hy hz hu hf ⊢
 unfold execOp
 simp only [ho]
 go_simp
end Go.Proofs.YtfkojnofbpdjdaaGreatDoor

namespace Go.Proofs.YtfkojnofbpdjdaaGreatDoor
set_option maxRecDepth 100000
open Go.RowKit
theorem trimT (s : ByteArray) (w : World) : Calls Tryz.prog 176 #[.string s, .string ⟨#[32, 9]⟩] w fun e w' => e = .returned (.string (ofL (s.data.toList.dropWhile blkB))) ∧ Below w.heap.size w w' := by
 have h := Any.strings_TrimLeft_laid Tryz.lays161 (by kernel_rfl) s ⟨#[32, 9]⟩ w (by decide) (fun j b h => by
  have h := List.mem_of_getElem? h
  have h : b = 32 ∨ b = 9 := by simpa using h
  rcases h with rfl | rfl <;> decide)
 rw [show Lib.trimLeftS s.data.toList (⟨#[32, 9]⟩ : ByteArray).data.toList = s.data.toList.dropWhile blkB by
  unfold Lib.trimLeftS
  congr 1
  funext c
  rw [Bool.eq_iff_iff]
  simp [blkB]] at h
 exact h
theorem cutLn (l : List UInt8) (m : Int) (w : World) (hl : l.length ≤ 65536) (hm : w.cell? ⟨0, 0, none⟩ = some (.int .i64 m)) :
 Calls Tryz.prog 80 #[.string (ofL l), .string ⟨#[10]⟩] w fun e w' => (∃ u b, e = .returned (.tuple #[.string (ofL (lnR l)), .string u, .bool b])) ∧ ∃ n, w' = w.drewN n := by
 refine (Tryz.strings_Cut (ofL l) ⟨#[10]⟩ m w (by rw [size_ofL]; omega) hm).mono ?_
 rintro e w' ⟨rfl, hn⟩
 rw [show (ofL l).data.toList = l by simp [ofL]]
 exact ⟨⟨_, _, rfl⟩, hn⟩
theorem empty_ofL (l : List UInt8) : (ofL l).toList.isEmpty = l.isEmpty := by rw [toList_ofL]
theorem beq_u8n (c : UInt8) (n : UInt8) : ((c.toNat : Int) == (n.toNat : Int)) = (c == n) := by
 rw [Bool.eq_iff_iff, beq_iff_eq, beq_iff_eq]
 constructor
 ·intro h
  exact UInt8.toNat_inj.1 (by exact_mod_cast h)
 ·rintro rfl; rfl
theorem skipped_any (data : ByteArray) (pre l : List UInt8) (m : Int) (bb : Bool) (w : World) (hm : w.cell? ⟨0, 0, none⟩ = some (.int .i64 m)) (hd : data.data.toList = pre ++ l) (hp : pre.length + (lnR l).length + 1 ≤ data.size) (hsz : data.size ≤ 65536) (hb : idleL (lnR l) = bb) :
 Calls Tryz.prog 148 #[.string data, .int .i64 (pre.length : Nat)] w fun e w' => e = .returned (.tuple #[.int .i64 ((pre.length + (lnR l).length + 1 : Nat) : Int), .bool bb]) ∧ Below w.heap.size w w' := by
 have hx := ext_rest data pre l hd
 have hlen : pre.length + l.length = data.size := by rw [Lib.size_eq, hd, List.length_append]
 have CC := Lib.hid (fun w hm => cutLn l m w (by omega) hm)
 have CT := Lib.hid (fun w => trimT (ofL (lnR l)) w)
 rw [show (ofL (lnR l)).data.toList = lnR l by simp [ofL]] at CT
 have hs : (ofL (lnR l)).size = (lnR l).length := size_ofL _
 generalize hq : (lnR l).dropWhile blkB = q at CT
 have hql := dropW_len blkB (lnR l)
 rw [hq] at hql
 have hE := empty_ofL q
 have HB := Lib.hid (Below.refl w.heap.size w)
 have HM := Lib.hid hm
 have hlt : ((pre.length : Nat) : Int) + ((ofL (lnR l)).size : Int) + 1 ≤ (data.size : Int) := by omega
 have e1 : IntKind.i64.wrap (((pre.length : Nat) : Int) + ((ofL (lnR l)).size : Int)) = ((pre.length : Nat) : Int) + ((ofL (lnR l)).size : Int) := by rw [IntKind.wrap_i64]; omega
 have e2 : IntKind.i64.wrap (((pre.length : Nat) : Int) + ((ofL (lnR l)).size : Int) + 1) = ((pre.length : Nat) : Int) + ((ofL (lnR l)).size : Int) + 1 := by rw [IntKind.wrap_i64]; omega
 have HE2 : Hid (((pre.length : Nat) : Int) + ((ofL (lnR l)).size : Int) + 1 = ((pre.length + (lnR l).length + 1 : Nat) : Int)) := by show _ = _; omega
 cases q with
 | nil =>
   obtain rfl : bb = true := by rw [← hb, idle_nil _ hq]
   rw [show ([] : List UInt8).isEmpty = true from rfl] at hE
   clear hd hq hb hm hlen hs hp hql
   generalize ofL (lnR l) = t1 at *
   generalize ofL ([] : List UInt8) = t2 at *
   generalize ofL l = u1 at *
   go_enter Tryz.func148, Tryz.ntmps148
   go_wp2_with (first
    | (go_at_call 80; refine (CC.out _ (by exact HM.out)).mono ?_; rintro e w1 ⟨⟨u, b, rfl⟩, n1, rfl⟩)
    | (go_at_call 176; refine (CT.out _).mono ?_; rintro e w2 ⟨rfl, hb2⟩; have HB2 := Lib.hid ((below_drewN HB.out _).trans hb2); clear hb2))
   -- EMPTY
   refine wp_region_at 17 #[false, false, false, false, false, false, false, false, false, false, false, false, false, false, false, false, false] rfl rfl (by kernel_rfl) ?_
   refine zzM 0 (.int .i64 (pre.length : Nat)) (some 20) rfl ?_
   refine zzM 1 (.string t1) (some 21) rfl ?_
   refine zzA 2 (.int .i64 (t1.size : Nat)) (some 22) rfl (fun _ => ex_lenS _ t1 rfl (by kernel_rfl)) ?_
   refine zzA 3 (.int .i64 (((pre.length : Nat) : Int) + (t1.size : Int))) (some 23) rfl (fun _ => ex_binOp .add 3 3 _ _ (.int .i64 (pre.length : Nat)) (.int .i64 (t1.size : Nat)) _ rfl (by kernel_rfl) (by kernel_rfl) (by go_simp)) ?_
   refine zzA 4 (.int .i64 (((pre.length : Nat) : Int) + (t1.size : Int) + 1)) (some 24) rfl (fun _ => ex_binOp .add 3 3 _ _ (.int .i64 (((pre.length : Nat) : Int) + (t1.size : Int))) (.int .i64 1) _ rfl (by kernel_rfl) (by kernel_rfl) (by go_simp)) ?_
   refine zzM 5 (.string data) (some 25) rfl ?_
   refine zzA 6 (.int .i64 (data.size : Int)) (some 26) rfl (fun _ => ex_lenS _ data rfl (by kernel_rfl)) ?_
   refine zzA 7 (.int .i64 (((pre.length : Nat) : Int) + (t1.size : Int) + 1)) (some 27) rfl (fun _ => ex_min _ _ ((((pre.length : Nat) : Int) + (t1.size : Int) + 1)) ((data.size : Int)) rfl (by kernel_rfl) (by kernel_rfl) (by exact hlt)) ?_
   refine zzM 8 (.string t2) (some 28) rfl ?_
   refine zzA 9 (.bool true) (some 29) rfl (fun _ => ex_binOp .eql 9 9 _ _ (.string t2) (.string (⟨#[]⟩ : ByteArray)) _ rfl (by kernel_rfl) (by kernel_rfl) (by go_simp)) ?_
   refine zzM 10 (.bool true) (some 30) rfl ?_
   refine zzS 11 (some 31) rfl ?_
   refine zzS 12 (some 32) rfl ?_
   refine zzS 13 (some 33) rfl ?_
   refine zzA 14 (.bool true) (some 34) rfl (fun _ => ex_pick _ _ _ true (.bool true) (undef) rfl (by kernel_rfl) (by kernel_rfl) (by kernel_rfl)) ?_
   refine zzG 15 (.int .i64 (((pre.length : Nat) : Int) + (t1.size : Int) + 1)) (some 4) rfl ?_
   refine zzG 16 (.bool true) (some 5) rfl ?_
   refine wpAny_done (by kernel_rfl) ?_ _
   simp only [Act.put, List.setIfInBounds_toArray, List.set_cons_zero, List.set_cons_succ]
   go_wp2_with fail
   go_ret2
   refine ⟨?_, below_drewN HB2.out 1⟩
   rw [← HE2.out]
   rfl
   -- END
 | cons c q =>
   obtain rfl : bb = (c == 35) := by rw [← hb, idle_cons _ c q hq]
   rw [show (c :: q).isEmpty = false from rfl] at hE
   have hz : 0 < (ofL (c :: q)).size := by rw [size_ofL]; simp
   have hc := at0 (ofL (c :: q)) c q (by simp [ofL]) hz
   have hcc : (((ofL (c :: q))[0].toNat : Int) == 35) = (c == 35) := by rw [hc]; exact beq_u8n c 35
   clear hd hq hb hm hlen hc hs hp hql
   generalize ofL (lnR l) = t1 at *
   generalize ofL (c :: q) = t2 at *
   generalize ofL l = u1 at *
   go_enter Tryz.func148, Tryz.ntmps148
   go_wp2_with (first
    | (go_at_call 80; refine (CC.out _ (by exact HM.out)).mono ?_; rintro e w1 ⟨⟨u, b, rfl⟩, n1, rfl⟩)
    | (go_at_call 176; refine (CT.out _).mono ?_; rintro e w2 ⟨rfl, hb2⟩; have HB2 := Lib.hid ((below_drewN HB.out _).trans hb2); clear hb2))
   -- FULL
   refine wp_region_at 17 #[false, false, false, false, false, false, false, false, false, false, false, false, false, false, false, false, false] rfl rfl (by kernel_rfl) ?_
   refine zzM 0 (.int .i64 (pre.length : Nat)) (some 20) rfl ?_
   refine zzM 1 (.string t1) (some 21) rfl ?_
   refine zzA 2 (.int .i64 (t1.size : Nat)) (some 22) rfl (fun _ => ex_lenS _ t1 rfl (by kernel_rfl)) ?_
   refine zzA 3 (.int .i64 (((pre.length : Nat) : Int) + (t1.size : Int))) (some 23) rfl (fun _ => ex_binOp .add 3 3 _ _ (.int .i64 (pre.length : Nat)) (.int .i64 (t1.size : Nat)) _ rfl (by kernel_rfl) (by kernel_rfl) (by go_simp)) ?_
   refine zzA 4 (.int .i64 (((pre.length : Nat) : Int) + (t1.size : Int) + 1)) (some 24) rfl (fun _ => ex_binOp .add 3 3 _ _ (.int .i64 (((pre.length : Nat) : Int) + (t1.size : Int))) (.int .i64 1) _ rfl (by kernel_rfl) (by kernel_rfl) (by go_simp)) ?_
   refine zzM 5 (.string data) (some 25) rfl ?_
   refine zzA 6 (.int .i64 (data.size : Int)) (some 26) rfl (fun _ => ex_lenS _ data rfl (by kernel_rfl)) ?_
   refine zzA 7 (.int .i64 (((pre.length : Nat) : Int) + (t1.size : Int) + 1)) (some 27) rfl (fun _ => ex_min _ _ ((((pre.length : Nat) : Int) + (t1.size : Int) + 1)) ((data.size : Int)) rfl (by kernel_rfl) (by kernel_rfl) (by exact hlt)) ?_
   refine zzM 8 (.string t2) (some 28) rfl ?_
   refine zzA 9 (.bool false) (some 29) rfl (fun _ => ex_binOp .eql 9 9 _ _ (.string t2) (.string (⟨#[]⟩ : ByteArray)) _ rfl (by kernel_rfl) (by kernel_rfl) (by go_simp)) ?_
   refine zzM 10 (.bool false) (some 30) rfl ?_
   refine zzM 11 (.string t2) (some 31) rfl ?_
   refine zzA 12 (.int .u8 (t2[0].toNat : Int)) (some 32) rfl (fun _ => ex_index 9 _ _ (.string t2) (.int .i64 0) _ rfl (by kernel_rfl) (by kernel_rfl) (by go_simp)) ?_
   refine zzA 13 (.bool (c == 35)) (some 33) rfl (fun _ => ex_binOp .eql 5 5 _ _ (.int .u8 (t2[0].toNat : Int)) (.int .u8 35) _ rfl (by kernel_rfl) (by kernel_rfl) (by go_simp)) ?_
   refine zzA 14 (.bool (c == 35)) (some 34) rfl (fun _ => ex_pick _ _ _ false (.bool true) (.bool (c == 35)) rfl (by kernel_rfl) (by kernel_rfl) (by kernel_rfl)) ?_
   refine zzG 15 (.int .i64 (((pre.length : Nat) : Int) + (t1.size : Int) + 1)) (some 4) rfl ?_
   refine zzG 16 (.bool (c == 35)) (some 5) rfl ?_
   refine wpAny_done (by kernel_rfl) ?_ _
   simp only [Act.put, List.setIfInBounds_toArray, List.set_cons_zero, List.set_cons_succ]
   go_wp2_with fail
   go_ret2
   refine ⟨?_, below_drewN HB2.out 1⟩
   rw [← HE2.out]
   rfl
   -- END
theorem rkey_anyR (s : ByteArray) (w : World) (hsz : s.size ≤ 65536) :
 Calls Tryz.prog 149 #[.string s] w fun e w' => e = .returned (.int .i64 (keyN 65 s.data.toList : Nat)) ∧ w = w' := by
 obtain ⟨R, HRR⟩ : ∃ R : Ending → World → Prop, Hid (R = fun e w' => e = .returned (.int .i64 (keyN 65 s.data.toList : Nat)) ∧ w = w') := ⟨_, rfl⟩
 rw [← HRR.out]
 generalize hN : keyN 65 s.data.toList = N at HRR
 have HN := Lib.hid hN
 clear hN
 obtain ⟨wo, HWO⟩ : ∃ wo, Hid (wo = w) := ⟨w, rfl⟩
 go_enter Tryz.func149, Tryz.ntmps149
 go_wp2_with fail
 go_loopg [3] 65 (fun gk iv wr => ∃ k : Nat, iv = .int .i64 k ∧ k ≤ 65 ∧ k ≤ s.size ∧ Hid (k + keyN (65 - k) (s.data.toList.drop k) = N) ∧ Hid (wr = wo) ∧ 65 - k ≤ gk)
 case atStart => exact ⟨0, rfl, Nat.zero_le _, Nat.zero_le _, by show _ = _; rw [Nat.zero_add]; exact HN.out, HWO.out.symm, Nat.le_refl _⟩
 case round =>
  obtain ⟨k, rfl, hk, hks, HK, HW, hgk⟩ := hrel
  have hend : k = 65 ∨ k = s.size → k = N := by
   intro h
   have hh := HK.out
   rcases h with h | h
   ·subst h
    simpa [keyN] using hh
   ·rw [List.drop_of_length_le (by rw [← Lib.size_eq]; omega)] at hh
    cases h65 : 65 - k with
    | zero => rw [h65] at hh; simpa [keyN] using hh
    | succ j => rw [h65] at hh; simpa [keyN] using hh
  by_cases h1 : k < s.size
  ·by_cases h2 : k < 65
   ·have hb : s.data.toList.drop k = s[k] :: s.data.toList.drop (k + 1) := List.drop_eq_getElem_cons (by rw [← Lib.size_eq]; exact h1)
    obtain ⟨j, hj⟩ : ∃ j, 65 - k = j + 1 := ⟨64 - k, by omega⟩
    have hh := HK.out
    rw [hb, hj, keyN] at hh
    have hk64 : (k : Int) < 65 := by omega
    have hxx : s[k].toNat < 256 := s[k].toNat_lt
    by_cases a1 : 97 ≤ s[k].toNat
    ·by_cases a2 : s[k].toNat ≤ 122
     ·skip
      have g97 : (97 : Int) ≤ (s[k].toNat : Int) := by omega
      have l122 : (s[k].toNat : Int) ≤ (122 : Int) := by omega
      have hkb : keyB s[k] = true := by unfold keyB; rw [decide_eq_true_eq]; omega
      rw [if_pos hkb] at hh
      have HN2 : Hid (k + 1 + keyN (65 - (k + 1)) (s.data.toList.drop (k + 1)) = N) := by show _ = _; rw [show 65 - (k + 1) = j by omega]; omega
      clear hh hb hkb hend HK HN
      go_wp2_with fail
      go_roundg (65 - (k + 1))
      case measure => omega
      case rel => exact ⟨k + 1, rfl, by omega, by omega, HN2.out, HW.out, by omega⟩
     ·skip
      have g97 : (97 : Int) ≤ (s[k].toNat : Int) := by omega
      have l122 : ¬ (s[k].toNat : Int) ≤ (122 : Int) := by omega
      have g48 : (48 : Int) ≤ (s[k].toNat : Int) := by omega
      have l57 : ¬ (s[k].toNat : Int) ≤ (57 : Int) := by omega
      have e46 : ((s[k].toNat : Int) == 46) = false := by rw [beq_eq_false_iff_ne]; omega
      have e95 : ((s[k].toNat : Int) == 95) = false := by rw [beq_eq_false_iff_ne]; omega
      have e45 : ((s[k].toNat : Int) == 45) = false := by rw [beq_eq_false_iff_ne]; omega
      have hkb : keyB s[k] = false := by unfold keyB; rw [decide_eq_false_iff_not]; omega
      rw [if_neg (by rw [hkb]; decide), Nat.add_zero] at hh
      subst hh
      clear hb hkb hend HK HN
      go_wp2_with fail
      first | go_ret | skip
      rw [HRR.out]
      exact ⟨rfl, (HW.out.trans HWO.out).symm⟩
    ·by_cases a3 : 48 ≤ s[k].toNat
     ·by_cases a4 : s[k].toNat ≤ 57
      ·skip
       have g97 : ¬ (97 : Int) ≤ (s[k].toNat : Int) := by omega
       have g48 : (48 : Int) ≤ (s[k].toNat : Int) := by omega
       have l57 : (s[k].toNat : Int) ≤ (57 : Int) := by omega
       have hkb : keyB s[k] = true := by unfold keyB; rw [decide_eq_true_eq]; omega
       rw [if_pos hkb] at hh
       have HN2 : Hid (k + 1 + keyN (65 - (k + 1)) (s.data.toList.drop (k + 1)) = N) := by show _ = _; rw [show 65 - (k + 1) = j by omega]; omega
       clear hh hb hkb hend HK HN
       go_wp2_with fail
       go_roundg (65 - (k + 1))
       case measure => omega
       case rel => exact ⟨k + 1, rfl, by omega, by omega, HN2.out, HW.out, by omega⟩
      ·by_cases a5 : s[k].toNat = 95
       ·skip
        have g97 : ¬ (97 : Int) ≤ (s[k].toNat : Int) := by omega
        have g48 : (48 : Int) ≤ (s[k].toNat : Int) := by omega
        have l57 : ¬ (s[k].toNat : Int) ≤ (57 : Int) := by omega
        have e46 : ((s[k].toNat : Int) == 46) = false := by rw [beq_eq_false_iff_ne]; omega
        have e95 : ((s[k].toNat : Int) == 95) = true := by rw [beq_iff_eq]; omega
        have hkb : keyB s[k] = true := by unfold keyB; rw [decide_eq_true_eq]; omega
        rw [if_pos hkb] at hh
        have HN2 : Hid (k + 1 + keyN (65 - (k + 1)) (s.data.toList.drop (k + 1)) = N) := by show _ = _; rw [show 65 - (k + 1) = j by omega]; omega
        clear hh hb hkb hend HK HN
        go_wp2_with fail
        go_roundg (65 - (k + 1))
        case measure => omega
        case rel => exact ⟨k + 1, rfl, by omega, by omega, HN2.out, HW.out, by omega⟩
       ·skip
        have g97 : ¬ (97 : Int) ≤ (s[k].toNat : Int) := by omega
        have g48 : (48 : Int) ≤ (s[k].toNat : Int) := by omega
        have l57 : ¬ (s[k].toNat : Int) ≤ (57 : Int) := by omega
        have e46 : ((s[k].toNat : Int) == 46) = false := by rw [beq_eq_false_iff_ne]; omega
        have e95 : ((s[k].toNat : Int) == 95) = false := by rw [beq_eq_false_iff_ne]; omega
        have e45 : ((s[k].toNat : Int) == 45) = false := by rw [beq_eq_false_iff_ne]; omega
        have hkb : keyB s[k] = false := by unfold keyB; rw [decide_eq_false_iff_not]; omega
        rw [if_neg (by rw [hkb]; decide), Nat.add_zero] at hh
        subst hh
        clear hb hkb hend HK HN
        go_wp2_with fail
        first | go_ret | skip
        rw [HRR.out]
        exact ⟨rfl, (HW.out.trans HWO.out).symm⟩
     ·by_cases a6 : s[k].toNat = 46
      ·skip
       have g97 : ¬ (97 : Int) ≤ (s[k].toNat : Int) := by omega
       have g48 : ¬ (48 : Int) ≤ (s[k].toNat : Int) := by omega
       have e46 : ((s[k].toNat : Int) == 46) = true := by rw [beq_iff_eq]; omega
       have hkb : keyB s[k] = true := by unfold keyB; rw [decide_eq_true_eq]; omega
       rw [if_pos hkb] at hh
       have HN2 : Hid (k + 1 + keyN (65 - (k + 1)) (s.data.toList.drop (k + 1)) = N) := by show _ = _; rw [show 65 - (k + 1) = j by omega]; omega
       clear hh hb hkb hend HK HN
       go_wp2_with fail
       go_roundg (65 - (k + 1))
       case measure => omega
       case rel => exact ⟨k + 1, rfl, by omega, by omega, HN2.out, HW.out, by omega⟩
      ·by_cases a7 : s[k].toNat = 45
       ·skip
        have g97 : ¬ (97 : Int) ≤ (s[k].toNat : Int) := by omega
        have g48 : ¬ (48 : Int) ≤ (s[k].toNat : Int) := by omega
        have e46 : ((s[k].toNat : Int) == 46) = false := by rw [beq_eq_false_iff_ne]; omega
        have e95 : ((s[k].toNat : Int) == 95) = false := by rw [beq_eq_false_iff_ne]; omega
        have e45 : ((s[k].toNat : Int) == 45) = true := by rw [beq_iff_eq]; omega
        have hkb : keyB s[k] = true := by unfold keyB; rw [decide_eq_true_eq]; omega
        rw [if_pos hkb] at hh
        have HN2 : Hid (k + 1 + keyN (65 - (k + 1)) (s.data.toList.drop (k + 1)) = N) := by show _ = _; rw [show 65 - (k + 1) = j by omega]; omega
        clear hh hb hkb hend HK HN
        go_wp2_with fail
        go_roundg (65 - (k + 1))
        case measure => omega
        case rel => exact ⟨k + 1, rfl, by omega, by omega, HN2.out, HW.out, by omega⟩
       ·skip
        have g97 : ¬ (97 : Int) ≤ (s[k].toNat : Int) := by omega
        have g48 : ¬ (48 : Int) ≤ (s[k].toNat : Int) := by omega
        have e46 : ((s[k].toNat : Int) == 46) = false := by rw [beq_eq_false_iff_ne]; omega
        have e95 : ((s[k].toNat : Int) == 95) = false := by rw [beq_eq_false_iff_ne]; omega
        have e45 : ((s[k].toNat : Int) == 45) = false := by rw [beq_eq_false_iff_ne]; omega
        have hkb : keyB s[k] = false := by unfold keyB; rw [decide_eq_false_iff_not]; omega
        rw [if_neg (by rw [hkb]; decide), Nat.add_zero] at hh
        subst hh
        clear hb hkb hend HK HN
        go_wp2_with fail
        first | go_ret | skip
        rw [HRR.out]
        exact ⟨rfl, (HW.out.trans HWO.out).symm⟩
   ·have hk2 := hend (.inl (by omega))
    have hk64 : ¬ (k : Int) < 65 := by omega
    subst hk2
    clear hend HK HN
    go_wp2_with fail
    first | go_ret | skip
    rw [HRR.out]
    exact ⟨rfl, (HW.out.trans HWO.out).symm⟩
  ·have hk2 := hend (.inr (by omega))
   subst hk2
   clear hend HK HN
   go_wp2_with fail
   first | go_ret | skip
   rw [HRR.out]
   exact ⟨rfl, (HW.out.trans HWO.out).symm⟩
end Go.Proofs.YtfkojnofbpdjdaaGreatDoor

namespace Go.Proofs.YtfkojnofbpdjdaaGreatDoor
set_option maxRecDepth 100000
open Go.RowKit
theorem endR_92 (l : List UInt8) (k : Nat) (h : k < l.length) (hc : l[k] = 92) (he : k + endR (l.drop k) < l.length) : k + 1 < l.length ∧ k + 2 + endR (l.drop (k + 2)) = k + endR (l.drop k) := by
 rw [List.drop_eq_getElem_cons h, hc] at he ⊢
 by_cases h1 : k + 1 < l.length
 ·rw [List.drop_eq_getElem_cons h1, endR_two] at he ⊢
  rw [show k + 1 + 1 = k + 2 from rfl] at he ⊢
  exact ⟨h1, by omega⟩
 ·rw [List.drop_of_length_le (by omega)] at he
  have : endR [92] = 2 := by decide
  omega
theorem endR_10 (l : List UInt8) (k : Nat) (h : k < l.length) (hc : l[k] = 10) : endR (l.drop k) = 0 := by
 rw [List.drop_eq_getElem_cons h, hc, endR_stop]
theorem endR_step (l : List UInt8) (k : Nat) (h : k < l.length) (h1 : l[k] ≠ 10) (h2 : l[k] ≠ 92) : k + 1 + endR (l.drop (k + 1)) = k + endR (l.drop k) := by
 rw [List.drop_eq_getElem_cons h, endR_one _ _ h1 h2]
 omega
theorem rend_any (data : ByteArray) (pre l : List UInt8) (w : World) (hd : data.data.toList = pre ++ l) (he : endR l < l.length) (hsz : data.size ≤ 65536) :
 Calls Tryz.prog 150 #[.string data, .int .i64 (pre.length : Nat)] w fun e w' => e = .returned (.int .i64 (pre.length + endR l : Nat)) ∧ w = w' := by
 obtain ⟨R, HRR⟩ : ∃ R : Ending → World → Prop, Hid (R = fun e w' => e = .returned (.int .i64 (pre.length + endR l : Nat)) ∧ w = w') := ⟨_, rfl⟩
 rw [← HRR.out]
 have hlen : data.size = pre.length + l.length := by rw [Lib.size_eq, hd, List.length_append]
 have HAT := Lib.hid (fun (k p : Nat) (h : k < l.length) (hp : p = pre.length + k) (h2 : p < data.size) => show data[p] = l[k] by
  subst hp
  have h3 : (pre ++ l)[pre.length + k]'(by simp; omega) = l[k] := by rw [List.getElem_append_right (by omega)]; simp
  have h4 : data.data.toList[pre.length + k]'(by rw [hd]; simp; omega) = l[k] := by simp only [hd]; exact h3
  exact h4)
 obtain ⟨wo, HWO⟩ : ∃ wo, Hid (wo = w) := ⟨w, rfl⟩
 have H0 : Hid (0 + endR (l.drop 0) = endR l) := by show _ = _; rw [List.drop_zero, Nat.zero_add]
 generalize endR l = E at *
 have hlen2 : pre.length + l.length ≤ data.size := by omega
 clear hd hlen
 go_enter Tryz.func150, Tryz.ntmps150
 go_wp2_with fail
 go_loopg [1] (E + 1) (fun gk iv wr => ∃ k : Nat, iv = .int .i64 (pre.length + k : Nat) ∧ k ≤ E ∧ Hid (k + endR (l.drop k) = E) ∧ Hid (wr = wo) ∧ E + 1 - k ≤ gk)
 case atStart => exact ⟨0, rfl, Nat.zero_le _, H0.out, HWO.out.symm, Nat.le_refl _⟩
 case round =>
  obtain ⟨k, rfl, hk, HK, HW, hgk⟩ := hrel
  clear H0
  have hkl : k < l.length := by omega
  obtain ⟨p, hpp⟩ : ∃ p, p = pre.length + k := ⟨_, rfl⟩
  rw [← hpp]
  have hp : p < data.size := by omega
  have hat := HAT.out k p hkl hpp hp
  have HP := Lib.hid hpp
  clear hpp
  have hp1 : p + 1 ≤ data.size := by omega
  by_cases h10 : l[k] = 10
  ·have hz := endR_10 l k hkl h10
   have hke : k = E := by have := HK.out; omega
   have t1 : ((data[p].toNat : Int) != 10) = false := by rw [hat, h10]; rfl
   have t2 : ((data[p].toNat : Int) == 10) = true := by rw [hat, h10]; rfl
   subst hke
   have hmin : min (p : Int) (data.size : Int) = (p : Int) := by omega
   clear hat h10 hz HK
   go_wp2_with fail
   first | go_ret | skip
   rw [HRR.out]
   refine ⟨?_, (HW.out.trans HWO.out).symm⟩
   show Ending.returned (.int .i64 (p : Int)) = _
   rw [HP.out]
  ·have t1 : ((data[p].toNat : Int) != 10) = true := by
    rw [hat, bne_iff_ne]; intro e; exact h10 (UInt8.toNat_inj.1 (by exact_mod_cast e))
   have t2 : ((data[p].toNat : Int) == 10) = false := by
    rw [hat, beq_eq_false_iff_ne]; intro e; exact h10 (UInt8.toNat_inj.1 (by exact_mod_cast e))
   by_cases h92 : l[k] = 92
   ·obtain ⟨s1, s2⟩ := endR_92 l k hkl h92 (by rw [HK.out]; exact he)
    have t3 : ((data[p].toNat : Int) == 92) = true := by rw [hat, h92]; rfl
    have HK2 : Hid (k + 2 + endR (l.drop (k + 2)) = E) := s2.trans HK.out
    have hk2 : k + 2 ≤ E := by have := HK2.out; omega
    have HS : Hid ((p : Int) + 1 + 1 = ((pre.length + (k + 2) : Nat) : Int)) := by show _ = _; have := HP.out; omega
    clear hat h10 h92 s2
    go_wp2_with fail
    rw [HS.out]
    go_roundg (E + 1 - (k + 2))
    case measure => omega
    case rel => exact ⟨k + 2, rfl, hk2, HK2.out, HW.out, Nat.le_refl _⟩
   ·have t3 : ((data[p].toNat : Int) == 92) = false := by
     rw [hat, beq_eq_false_iff_ne]; intro e; exact h92 (UInt8.toNat_inj.1 (by exact_mod_cast e))
    have HK2 : Hid (k + 1 + endR (l.drop (k + 1)) = E) := (endR_step l k hkl h10 h92).trans HK.out
    have hk2 : k + 1 ≤ E := by have := HK2.out; omega
    have HS : Hid ((p : Int) + 1 = ((pre.length + (k + 1) : Nat) : Int)) := by show _ = _; have := HP.out; omega
    clear hat h10 h92
    go_wp2_with fail
    rw [HS.out]
    go_roundg (E + 1 - (k + 1))
    case measure => omega
    case rel => exact ⟨k + 1, rfl, hk2, HK2.out, HW.out, Nat.le_refl _⟩
end Go.Proofs.YtfkojnofbpdjdaaGreatDoor

namespace Go.Proofs.YtfkojnofbpdjdaaGreatDoor
set_option maxRecDepth 100000
open Go.RowKit Go.Maps
def NameSet (w : World) (b n : Nat) (ns : List (List UInt8)) : Prop :=
 ∃ D : DataW Unit, w.ownsMap Tryz.prog 9 (plainElem Tryz.prog 4) b n D ∧ IsMap D ∧ ∀ s : ByteArray, s.size ≤ maxLen → D.atKey (.string s.data.toList) (.lit (.bool false)) = .lit (.bool (ns.any fun x => x == s.data.toList))
theorem str_keyed : Keyed Tryz.prog 9 := string_keyed Tryz.underlying9
theorem key_str (s : ByteArray) (h : s.size ≤ maxLen) : keyOf Tryz.prog 9 (.string s) = some (.string s.data.toList) := by
 unfold keyOf
 rw [Tryz.underlying9]
 simp [mapKey, Tryz.underlying9, h]
theorem zero_bool (w : World) : (zeroValue 4).run Tryz.prog w = .ok (.bool false) w := by kernel_rfl
theorem NameSet.made (w : World) : NameSet (w.alloc (.map #[] 0)) w.heap.size 0 [] :=
 ⟨_, World.ownsMap_made _ _ _ _, isMap_empty, fun _ _ => rfl⟩
theorem NameSet.lt {w : World} {b n : Nat} {ns : List (List UInt8)} (h : NameSet w b n ns) : b < w.heap.size := by
 obtain ⟨D, h1, _⟩ := h
 exact h1.lt
theorem NameSet.same {w w' : World} {b n : Nat} {ns : List (List UInt8)} (h : NameSet w b n ns) (e : w'.heap[b]? = w.heap[b]?) : NameSet w' b n ns := by
 obtain ⟨D, ⟨es, clock, hb, F, hs, hD⟩, h2⟩ := h
 exact ⟨D, ⟨es, clock, e.trans hb, F, hs, hD⟩, h2⟩
theorem plainElem_bool_inv {v : Value} {x : Bool} {ps : List MemPlace} (h : plainElem (H := Unit) Tryz.prog 4 v = some (.lit (.bool x), ps)) : v = .bool x := by
 unfold plainElem at h
 rw [Tryz.underlying4] at h
 cases v <;> simp_all
theorem NameSet.look {w : World} {b n : Nat} {ns : List (List UInt8)} (h : NameSet w b n ns) (s : ByteArray) (hs : s.size ≤ maxLen) :
 (Instr.lookup 212 (.map (some b)) (.string s) false).run Tryz.prog w = .ok (.bool (ns.any fun x => x == s.data.toList)) w := by
 obtain ⟨D, h1, h2, h3⟩ := h
 obtain ⟨v, ps, hlk, hR⟩ := h1.lookup str_keyed Tryz.underlying212 (zero_bool w) (plainElem_bool Tryz.underlying4 false) (key_str s hs)
 rw [h3 s hs] at hR
 rw [hlk, plainElem_bool_inv hR]
theorem NameSet.put {w : World} {b n : Nat} {ns : List (List UInt8)} (h : NameSet w b n ns) (s : ByteArray) (hs : s.size ≤ maxLen) (hn : n < maxLen) :
 ∃ w2, (Instr.mapUpdate 212 (.map (some b)) (.string s) (.bool true)).run Tryz.prog w = .ok () w2 ∧ NameSet w2 b (n + 1) (ns ++ [s.data.toList]) ∧ w.grownBy w2 (some b) := by
 obtain ⟨D, h1, h2, h3⟩ := h
 have hkey := key_str s hs
 obtain ⟨w2, hup, hown, hg⟩ := h1.update str_keyed Tryz.underlying212 hn hkey (plainElem_bool (H := Unit) Tryz.underlying4 true)
 refine ⟨w2, hup, ⟨_, hown, h2.put _ _, fun u hu => ?_⟩, hg⟩
 by_cases e : u.data.toList = s.data.toList
 ·rw [e, atKey_put_same h2 (str_keyed.key hkey)]
  simp
 ·rw [atKey_put_other (fun e' => e (by injection e'))]
  rw [h3 u hu]
  simp
  intro e'
  exact absurd (by rw [e']) e
theorem NameSet.apart {w : World} {b n : Nat} {ns : List (List UInt8)} (h : NameSet w b n ns) {B : Nat} {e : TypeId} {size m : Nat} {v : Value} {xs : List Value} (ho : w.ownsRow B e size v m xs) : v.ownBlock ≠ some b := by
 intro hk
 obtain ⟨D, ⟨es, clock, hb, _⟩, _⟩ := h
 obtain ⟨cur, hc⟩ := own_row_at ho hk
 rw [hc] at hb
 cases hb
theorem NameSet.apartC {w : World} {b n : Nat} {ns : List (List UInt8)} (h : NameSet w b n ns) {g : Nat} {cs : Array Value} {t : TypeId} (hg : w.heap[g]? = some (.cells cs t)) : g ≠ b := by
 intro e
 subst e
 obtain ⟨D, ⟨es, clock, hb, _⟩, _⟩ := h
 rw [hg] at hb
 cases hb
end Go.Proofs.YtfkojnofbpdjdaaGreatDoor
