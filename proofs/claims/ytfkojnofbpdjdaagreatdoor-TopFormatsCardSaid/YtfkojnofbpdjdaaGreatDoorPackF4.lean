/-
  Contracts and plain laws that this claim leans on, part 4.
-/
import Derived.Test.YtfkojnofbpdjdaaGreatDoorPackF3
import Derived.Test.YtfkojnofbpdjdaaGreatDoorPackF2
import Derived.Maps.Own
import Derived.Maps.OwnOps
import Derived.Maps.OwnSet
import Derived.Maps.Views
import Derived.Test.YtfkojnofbpdjdaaGreatDoorPackF1
set_option linter.unusedVariables false
set_option linter.unusedSimpArgs false
namespace Go.Proofs.YtfkojnofbpdjdaaGreatDoor
set_option maxRecDepth 100000
open Go.RowKit

set_option maxRecDepth 100000 in
set_option maxHeartbeats 4000000 in
theorem once_slow (R : Nat) (ps : Prs) (w : World) (h : RpF w R ps (.int .u32 0) (.int .i32 0)) (h2 : 2 ≤ ps.length) (h10 : ps.length ≤ 10) (hp : PrsOk ps) :
    Calls Tryz.prog 118 #[.pointer (some ⟨R, 0, none⟩), .func (.func 79) #[.pointer (some ⟨R, 0, none⟩)] #[]] w fun e w' => e = .returned (.tuple #[]) ∧ RpB w' R ps (.int .u32 1) (.int .i32 0) ∧ Mod (fun k => k = R) w w' := by
  have hm0 := Mod.set w R 1 (.int .i32 1)
  have hF1 := h.set (.int .i32 1)
  have HC := Lib.hid (buildOnce_any R ps (.int .u32 0) (.int .i32 1) _ hF1 h2 h10 hp)
  obtain ⟨z1, ov1, B1, hr1, _⟩ := hF1
  obtain ⟨z, ov, B, hr, ho⟩ := h
  have c0 := box_cell (l := [.int .u32 0, .int .i32 1, z1, .nilIface, ov1]) hr1 0 rfl
  have k1 := box_cell (l := [.int .u32 0, .int .i32 0, z, .nilIface, ov]) hr 1 rfl
  have f1 := frozen_rowM hr 1
  have hl := run_call_load (P := Tryz.prog) Tryz.func157 (by kernel_rfl) (by kernel_rfl) (by kernel_rfl) .u32 (by kernel_rfl) (w := w.setCell ⟨R, 1, none⟩ (.int .i32 1)) (a := ⟨R, 0, none⟩) (x := 0) c0
  have hnot : ∀ (x : Bool) (w : World), (Op.unary .not (.bool x)).run Tryz.prog w = .ok (.bool (!x)) w := fun _ _ => rfl
  have HM0 := Lib.hid hm0
  clear hm0 hr hr1 ho
  go_enter_defers Tryz.func118, Tryz.ntmps118
  go_wp2_with (first
    | (go_at_call 158; refine (once_lock ⟨R, 1, none⟩ _ k1 f1).mono ?_; rintro e w' ⟨rfl, rfl⟩)
    | (go_at_call 117; go_in)
    | (go_at_call 79; refine (HC.out).mono ?_; rintro e w2 ⟨rfl, hb2, hm2⟩; have HB2 := Lib.hid hb2; have HM2 := Lib.hid hm2; clear hb2 hm2))
  have hb := HB2.out
  obtain ⟨z2, Q, cs, tv, B2, hRB, hr2, hbs⟩ := hb
  have e0 := box_cell (l := [.int .u32 0, .int .i32 1, z2, ifB Q, .slice none 0 0]) hr2 0 rfl
  have g0 := frozen_rowM hr2 0
  have HS := Lib.hid ((HB2.out.below ((Below.refl _ w2).drew)).set0 (.int .u32 1))
  have hs := HS.out
  obtain ⟨z3, Q3, cs3, tv3, B3, _, hr3, _⟩ := hs
  have e1 := box_cell (l := [.int .u32 1, .int .i32 1, z3, ifB Q3, .slice none 0 0]) hr3 1 rfl
  have g1 := frozen_rowM hr3 1
  refine leaves_cons (f := 160) (args := #[.pointer (some ⟨R, 0, none⟩), .bool true]) (by simp) (by simp [go_sem]) ?_
  refine (once_store ⟨R, 0, none⟩ _ .returning _ e0 g0).mono ?_
  rintro e u' w'' ⟨rfl, rfl, rfl⟩
  refine leaves_cons (f := 159) (args := #[.pointer (some ⟨R, 1, none⟩)]) (by simp [settle]) (by simp [go_sem]) ?_
  refine (once_unlock ⟨R, 1, none⟩ _ _ (by exact e1) (by exact g1)).mono ?_
  rintro e u' w'' ⟨rfl, rfl, rfl⟩
  have hfin : RpB ((w2.drew.setCell ⟨R, 0, none⟩ (.int .u32 1)).setCell ⟨R, 1, none⟩ (.int .i32 0)) R ps (.int .u32 1) (.int .i32 0) := HS.out.set1 (.int .i32 0)
  have hmod : Mod (fun k => k = R) w ((w2.drew.setCell ⟨R, 0, none⟩ (.int .u32 1)).setCell ⟨R, 1, none⟩ (.int .i32 0)) :=
    ((((HM0.out.trans HM2.out fun i hi _ => hi).drew).trans (Mod.set w2.drew R 0 (.int .u32 1)) fun i hi _ => hi).trans (Mod.set _ R 1 (.int .i32 0)) fun i hi _ => hi)
  simp [Leaves, settle, results, Tryz.results118]
  exact ⟨hfin, hmod⟩

set_option maxRecDepth 100000 in
set_option maxHeartbeats 4000000 in
theorem once_do (R : Nat) (ps : Prs) (w : World) (h : RpIn w R ps) (h2 : 2 ≤ ps.length) (h10 : ps.length ≤ 10) (hp : PrsOk ps) :
    Calls Tryz.prog 78 #[.pointer (some ⟨R, 0, none⟩), .func (.func 79) #[.pointer (some ⟨R, 0, none⟩)] #[]] w fun e w' => e = .returned (.tuple #[]) ∧ RpB w' R ps (.int .u32 1) (.int .i32 0) ∧ Mod (fun k => k = R) w w' := by
  have hnot : ∀ (x : Bool) (w : World), (Op.unary .not (.bool x)).run Tryz.prog w = .ok (.bool (!x)) w := fun _ _ => rfl
  rcases h with h | h
  · have HC := Lib.hid (once_slow R ps w h h2 h10 hp)
    obtain ⟨z, ov, B, hr, _⟩ := h
    have c0 := box_cell (l := [.int .u32 0, .int .i32 0, z, .nilIface, ov]) hr 0 rfl
    have hl := run_call_load (P := Tryz.prog) Tryz.func157 (by kernel_rfl) (by kernel_rfl) (by kernel_rfl) .u32 (by kernel_rfl) (w := w) (a := ⟨R, 0, none⟩) (x := 0) c0
    clear hr
    go_enter Tryz.func78, Tryz.ntmps78
    go_wp2_with (first
      | (go_at_call 117; go_in)
      | (go_at_call 118; refine (HC.out).mono ?_; rintro e w2 ⟨rfl, hb2, hm2⟩; have HB2 := Lib.hid hb2; have HM2 := Lib.hid hm2; clear hb2 hm2))
    go_end0
    exact ⟨rfl, HB2.out, HM2.out⟩
  · have H := Lib.hid h
    obtain ⟨z, Q, cs, tv, B, _, hr, _⟩ := h
    have c0 := box_cell (l := [.int .u32 1, .int .i32 0, z, ifB Q, .slice none 0 0]) hr 0 rfl
    have hl := run_call_load (P := Tryz.prog) Tryz.func157 (by kernel_rfl) (by kernel_rfl) (by kernel_rfl) .u32 (by kernel_rfl) (w := w) (a := ⟨R, 0, none⟩) (x := 1) c0
    clear hr
    go_enter Tryz.func78, Tryz.ntmps78
    go_wp2_with (go_at_call 117; go_in)
    go_end0
    exact ⟨rfl, H.out, Mod.refl _ _⟩

set_option maxRecDepth 100000 in
set_option maxHeartbeats 4000000 in
theorem replace_any (R : Nat) (ps : Prs) (s : ByteArray) (w : World) (h : RpIn w R ps) (h2 : 2 ≤ ps.length) (h10 : ps.length ≤ 10) (hp : PrsOk ps) (hs : s.size ≤ 100000) :
    Calls Tryz.prog 39 #[.pointer (some ⟨R, 0, none⟩), .string s] w fun e w' => e = .returned (.string (ofL (repL ps s.data.toList))) ∧ RpIn w' R ps ∧ Mod (fun k => k = R) w w' := by
  have HC := Lib.hid (once_do R ps w h h2 h10 hp)
  have hmf : ∀ (fn : Fn) (first cap : Array Value) (w : World), (Instr.makeFunc fn first cap).run Tryz.prog w = .ok (.func fn first cap) w := fun _ _ _ _ => rfl
  have HP := Lib.hid hp
  clear h hp
  go_enter Tryz.func39, Tryz.ntmps39
  go_wp2_with fail
  refine (HC.out).mono ?_
  rintro e w1 ⟨rfl, hb1, hm1⟩
  have HB1 := Lib.hid hb1
  have HM1 := Lib.hid hm1
  obtain ⟨z, Q, cs, tv, B, hRB, hr, hbs⟩ := hb1
  have q3 := box_cell (l := [.int .u32 1, .int .i32 0, z, ifB Q, .slice none 0 0]) hr 3 rfl
  unfold ifB at q3
  have HR := Lib.hid (bsReplace_any Q ps _ cs tv s w1 hbs.bsIn HP.out (List.pairwise_reverse.2 (HP.out.2.imp fun h => Ne.symm h)) (fun c => by
    rw [List.mem_reverse]
    constructor
    · intro hm hn
      obtain ⟨r, hr⟩ := lk_some ps c hm
      rw [hr] at hn
      cases hn
    · intro hn
      cases hk : lk ps c with
      | none => exact absurd hk hn
      | some r => exact List.mem_map.2 ⟨_, lk_mem ps c r hk, rfl⟩) (by rw [List.length_reverse, List.length_map]; exact h10) hs)
  clear hr hbs hm1
  obtain ⟨res, HRES⟩ : ∃ res, Hid (res = ofL (repL ps s.data.toList)) := ⟨_, rfl⟩
  rw [← HRES.out] at HR
  have hmt : ∀ w : World, (method 444 240 (.pointer (some ⟨Q, 0, none⟩)) "Replace").run Tryz.prog w = .ok (266, .pointer (some ⟨Q, 0, none⟩)) w := fun _ => by kernel_rfl
  go_wp2_with (go_at_call 266; refine (HR.out).mono ?_; rintro e w2 ⟨rfl, hb2⟩; have HB2 := Lib.hid hb2; clear hb2)
  go_ret
  exact ⟨by rw [HRES.out]; rfl, .inr (HB1.out.below HB2.out), HM1.out.trans ((Mod.of_below HB2.out).weak (T := fun k => k = R) fun _ hf _ => hf.elim) fun i hi _ => hi⟩

/-- NewReplacer. -/
def NewRet (ps : Prs) (w : World) (e : Ending) (w' : World) : Prop := ∃ R, e = .returned (.pointer (some ⟨R, 0, none⟩)) ∧ w.heap.size ≤ R ∧ RpIn w' R ps ∧ Below w.heap.size w w'
set_option maxRecDepth 100000 in
set_option maxHeartbeats 4000000 in
theorem newReplacer_any (ps : Prs) (v : Value) (w : World) (h : RdE strV 1 w v (flatP ps)) (h10 : ps.length ≤ 10) (h1 : 1 ≤ ps.length) :
    Calls Tryz.prog 38 #[v] w (NewRet ps w) := by
  obtain ⟨A, c, rfl, hcap, _⟩ := h.shape
  have hev : (((flatP ps).length : Int)) % 2 = 0 := by rw [flatP_len]; omega
  have hev2 : (((flatP ps).length : Int)).tmod 2 = 0 := by rw [Int.tmod_eq_emod_of_nonneg (by omega)]; exact hev
  have hfl : (flatP ps).length ≤ 20 := by rw [flatP_len]; omega
  have H := Lib.hid h
  clear h
  generalize hn : (flatP ps).length = n at *
  have HN := Lib.hid hn
  clear hn
  go_enter Tryz.func38, Tryz.ntmps38
  have HNIL : Hid (w.ownsRow w.heap.size 9 1 (.slice none 0 0) ([] : List ByteArray).length (([] : List ByteArray).flatMap strV)) := World.ownsRow_nil _ _ _ _
  go_wp2_with (at_builtin; refine wpList_appE rfl (.const (.slice none 0 0)) (.tmp 8) 79 9 rfl Tryz.underlying79 _ strV 1 16 str_info rfl (by decide) (fun _ => rfl) (fun x u hu => by rw [List.mem_singleton.1 hu]; rfl) w.heap.size (.slice none 0 0) [] rfl HNIL.out (.slice A n c) (flatP ps) rfl H.out (by rw [HN.out]; simp; omega) (by decide) (Nat.le_refl _) ?_; intro v5 w5 hown5 hbel5 hgr5; obtain ⟨A5, c5, hv5⟩ := own_shape hown5; rw [List.nil_append, HN.out] at hv5; subst hv5; have HO5 := Lib.hid hown5; have HW5 := Lib.hid (hbel5 w.heap.size w (Nat.le_refl _) (Below.refl _ _)); clear hown5 hbel5 hgr5)
  have hz5 := HW5.out.size
  have HL := Lib.hid (HW5.out.alloc hz5 (rpC (.int .u32 0) (.int .i32 0) (.int .u32 0) .nilIface (.slice A5 n c5)))
  go_ret
  exact ⟨w5.heap.size, rfl, hz5, .inl ⟨_, _, w.heap.size, heap_alloc_new w5 _, World.ownsRow.alloc HO5.out _⟩, HL.out⟩

end Go.Proofs.YtfkojnofbpdjdaaGreatDoor

namespace Go.Proofs.YtfkojnofbpdjdaaGreatDoor
set_option maxRecDepth 100000

theorem ofL_app (a b : List UInt8) : ofL a ++ ofL b = ofL (a ++ b) := by
  apply ByteArray.ext
  apply Array.toList_inj.1
  simp [ofL]
theorem encB_len (fmt : Int) (c : UInt8) : (encB fmt c).length ≤ 5 := by
  unfold encB
  repeat' split
  all_goals simp
theorem encL_len (fmt : Int) : ∀ l : List UInt8, (l.flatMap (encB fmt)).length ≤ 5 * l.length
  | [] => Nat.le_refl _
  | c :: l => by
    have h1 := encB_len fmt c
    have h2 := encL_len fmt l
    rw [List.flatMap_cons, List.length_append, List.length_cons]
    omega
theorem encE_len (fmt : Int) (x : Tk) : (encE fmt x).length ≤ 5 * x.t.size + 3 := by
  have h := encL_len fmt x.t.data.toList
  rw [← Lib.size_eq] at h
  have hs := Lib.size_eq x.t
  unfold encE
  split
  · omega
  · split
    · rw [List.length_append, List.length_cons, ← hs]; simp; omega
    · split
      · rw [List.length_append, List.length_cons, List.length_cons, ← hs]; simp; omega
      · split
        · rw [List.length_append, List.length_cons, ← hs]; simp; omega
        · rw [List.length_append, List.length_cons, ← hs]; simp; omega
theorem wf_size (x : Tk) (h : WfI x) (h1 : x.k = 1 → x.t.size ≤ 1024) : x.t.size ≤ 1024 := by
  have hs := Lib.size_eq x.t
  have nm : nameL x.t.data.toList = true → x.t.size ≤ 1024 := fun hn => by
    obtain ⟨c, r, e, _, hl, _⟩ := name_head _ hn
    rw [hs, e, List.length_cons]
    omega
  have ct : contL x.t.data.toList = true → x.t.size ≤ 1024 := fun hc => by
    have := (cont_parts _ hc).1
    omega
  rcases h with h | ⟨_, h, _⟩ | ⟨_, h, _⟩ | ⟨_, h, _⟩
  · exact h1 h
  · exact nm h
  · exact ct h
  · exact nm h
theorem lenI_mem (f : List Tk) (x : Tk) (h : x ∈ f) (hk : x.k = 1) : x.t.size ≤ lenI f := by
  induction f with
  | nil => simp at h
  | cons y f ih =>
    show _ ≤ wdI y + lenI f
    rcases List.mem_cons.1 h with rfl | h
    · unfold wdI
      rw [if_pos hk]
      omega
    · have := ih h
      omega
theorem val_size (f : List Tk) (h : ValF f) : ∀ x ∈ f, x.t.size ≤ 1024 := fun x hx => wf_size x (h.wf x hx) fun hk => Nat.le_trans (lenI_mem f x hx hk) h.pos
theorem encF_take (fmt : Int) (f : List Tk) (i : Nat) (h : i < f.length) : encF fmt (f.take (i + 1)) = encF fmt (f.take i) ++ encE fmt f[i] := by
  rw [List.take_succ_eq_append_getElem h, encF_app]
  simp [encF]
/-- What is written of a text is what the replacer makes of it. -/
theorem rep_enc (ps : Prs) (fmt : Int) (h : ∀ c, repB ps c = encB fmt c) (l : List UInt8) : repL ps l = l.flatMap (encB fmt) := by
  unfold repL
  congr 1
  funext c
  exact h c

end Go.Proofs.YtfkojnofbpdjdaaGreatDoor

namespace Go.Proofs.YtfkojnofbpdjdaaGreatDoor
set_option maxRecDepth 100000
open Go.RowKit

theorem rdE_lit (l : List ByteArray) (w : World) (t : TypeId) : RdE strV 1 (w.alloc (.cells (l.map Value.string).toArray t)) (.slice (some ⟨w.heap.size, 0, none⟩) l.length l.length) l := by
  refine ⟨some ⟨w.heap.size, 0, none⟩, l.length, rfl, Nat.le_refl _, (fun h => by cases h), fun _ => ⟨w.heap.size, 0, rfl, by simp, fun i x j u hi hj => ?_⟩⟩
  have hj0 : j = 0 := by
    have := (List.getElem?_eq_some_iff.1 hj).1
    simpa [strV] using this
  subst hj0
  have hu : u = .string x := by
    injection hj with hj
    exact hj.symm
  subst hu
  exact box_cell (heap_alloc_new w _) _ (by rw [List.getElem?_map]; simp [hi])

set_option maxRecDepth 100000 in
set_option maxHeartbeats 8000000 in
theorem shEncode_any (f : List Tk) (v : Value) (m : Int) (w : World) (hm : w.cell? ⟨0, 0, none⟩ = some (.int .i64 m)) (h1 : RdT w v f) (hv : ValF f) (hpl : ∀ x ∈ f, PlainOk x) :
    Calls Tryz.prog 12 #[v] w fun e w' => e = .returned (.tuple #[.string (ofL (encF 3 f)), .int .i64 0]) ∧ Below w.heap.size w w' := by
  obtain ⟨R, HRR⟩ : ∃ R : Ending → World → Prop, Hid (R = fun e w' => e = .returned (.tuple #[.string (ofL (encF 3 f)), .int .i64 0]) ∧ Below w.heap.size w w') := ⟨_, rfl⟩
  rw [← HRR.out]
  have hsz := val_size f hv
  have CV := Lib.hid (validate_any f v m w hm h1 hv (fun x hx => by have := hsz x hx; omega))
  have hl1 := hv.len
  have HV := Lib.hid hv
  have H1 := Lib.hid h1
  have HM := Lib.hid hm
  have HZ := Lib.hid hsz
  have HP := Lib.hid hpl
  obtain ⟨A, c, rfl, hcap, _⟩ := h1.shape
  clear h1 hv hm hsz hpl
  go_enter Tryz.func12, Tryz.ntmps12
  go_wp2_with (go_at_call 37; refine (CV.out).mono ?_; rintro e w0 ⟨rfl, hw0⟩; have HB0 := Lib.hid hw0; have hz0 := hw0.size; clear hw0)
  have HN := Lib.hid (newReplacer_any prsS _ _ (rdE_lit (flatP prsS) w0 9) (by decide) (by decide))
  have HBL := Lib.hid (HB0.out.alloc hz0 (.cells ((flatP prsS).map Value.string).toArray 9))
  refine (HN.out).mono ?_
  rintro e w3 ⟨Rp, rfl, hRp, hrp, hw3⟩
  have hRw : w.heap.size ≤ Rp := by simp at hRp; omega
  have HR3 := Lib.hid hrp
  have HB3 := Lib.hid (HBL.out.trans (hw3.mono (by simp; omega)))
  clear HN HBL hrp hw3 hRp hz0 HB0
  generalize w0.alloc _ = w00 at *
  go_wp2_with fail
  go_loopg [6, 18] f.length (fun gk sv iv wr => ∃ i : Nat, iv = .int .i64 i ∧ sv = .string (ofL (encF 3 (f.take i))) ∧ i ≤ f.length ∧ Hid ((ofL (encF 3 (f.take i))).size ≤ i * 6000) ∧ Hid (RpIn wr Rp prsS) ∧ Hid (Below w.heap.size w wr) ∧ f.length - i ≤ gk)
  case atStart => exact ⟨0, rfl, rfl, Nat.zero_le _, (by show _ ≤ _; rw [List.take_zero]; decide), HR3.out, HB3.out, Nat.le_refl _⟩
  case round =>
    clear HR3 HB3
    obtain ⟨i, rfl, rfl, hi, HSZ, HR, HB, hgk⟩ := hrel
    by_cases hlt : i < f.length
    · have hii : (i : Int) < (f.length : Int) := by omega
      have hi0 : (0 : Int) ≤ (i : Int) := by omega
      obtain ⟨b, o, hA, hbl, p0, p1, p2⟩ := RdT.at_ H1.out i hlt
      subst hA
      have hmem := List.getElem_mem hlt
      have hwf := HV.out.wf _ hmem
      have hsx := HZ.out _ hmem
      have HNB := Lib.hid (HP.out _ hmem)
      have HTK := Lib.hid (encF_take 3 f i hlt)
      have hel := encE_len 3 f[i]
      have HSZ1 : Hid ((ofL (encF 3 (f.take (i + 1)))).size ≤ (i + 1) * 6000) := by
        show _ ≤ _
        have h := HSZ.out
        rw [Lib.size_eq] at h ⊢
        rw [ofL_list] at h ⊢
        rw [HTK.out, List.length_append]
        omega
      have q0 := (HB.out.cell (p := ⟨b, o + i * 3, none⟩) hbl).trans p0
      have q1 := (HB.out.cell (p := ⟨b, o + i * 3 + 1, none⟩) hbl).trans p1
      have q2 := (HB.out.cell (p := ⟨b, o + i * 3 + 2, none⟩) hbl).trans p2
      have hzr := HB.out.size
      obtain ⟨S, HS⟩ : ∃ S, Hid (S = ofL (encF 3 (f.take i))) := ⟨_, rfl⟩
      rw [← HS.out] at HSZ ⊢
      have hS : S.size ≤ 4000000 := by have := HSZ.out; omega
      clear hel hmem
      generalize f[i] = x at p0 p1 p2 q0 q1 q2 hwf hsx HTK HNB
      obtain ⟨xk, xt, xd⟩ := x
      simp only at p0 p1 p2 q0 q1 q2 hsx
      clear p0 p1 p2
      have HY : Hid ((wr.alloc (.cells #[.int .i64 xk, .string xt, .int .i64 xd] 31)).heap[wr.heap.size]? = some (.cells #[.int .i64 xk, .string xt, .int .i64 xd] 31)) := Array.getElem?_push_size
      have HB1 := Lib.hid (HB.out.alloc hzr (.cells #[.int .i64 xk, .string xt, .int .i64 xd] 31))
      have HR1 := Lib.hid (HR.out.below ((Below.refl _ wr).alloc (Nat.le_refl _) (.cells #[.int .i64 xk, .string xt, .int .i64 xd] 31)))
      obtain ⟨q, hq⟩ : ∃ q, Hid (q = wr.heap.size) := ⟨_, rfl⟩
      go_upto_region 9 with fail
      rw [← hq.out] at HY ⊢
      generalize wr.alloc (.cells #[.int .i64 xk, .string xt, .int .i64 xd] 31) = w1 at HY HB1 HR1 ⊢
      obtain ⟨y0, y1, y2, _⟩ := bx3 HY.out
      have HMQ := Lib.hid (below_cell0 HM.out HB1.out)
      rcases hwf with hk | ⟨hk, hnm, hd⟩ | ⟨hk, hct, hd1, hd2⟩ | ⟨hk, hnm, hd1, hd2⟩
      · have hk' : xk = 1 := hk
        subst hk'
        have CR := Lib.hid (replace_any Rp prsS xt w1 HR1.out (by decide) (by decide) prsS_ok (by omega))
        have hrs : (ofL (repL prsS xt.data.toList)).size ≤ 6000 := by
          rw [rep_enc prsS 3 repS, Lib.size_eq, ofL_list]
          have := encL_len 3 xt.data.toList
          rw [← Lib.size_eq] at this
          omega
        have HE : Hid (S ++ ofL (repL prsS xt.data.toList) = ofL (encF 3 (f.take (i + 1)))) := by
          show _ = _
          rw [HTK.out, HS.out, ← ofL_app, rep_enc prsS 3 repS]
          rfl
        generalize ofL (repL prsS xt.data.toList) = res at CR hrs HE
        go_wp2_with (go_at_call 39; refine (CR.out).mono ?_; rintro e w2 ⟨rfl, hr2, hm2⟩; have HR2 := Lib.hid hr2; have HB2 := Lib.hid (HB1.out.trans (hm2.below (fun k hk => by rw [hk]; exact hRw) HB1.out.size)); clear hr2 hm2)
        rw [HE.out]
        go_roundg (f.length - (i + 1))
        case measure => omega
        case rel => exact ⟨i + 1, by go_num, rfl, hlt, HSZ1.out, HR2.out, HB2.out, by omega⟩
      · have hk' : xk = 5 := hk
        subst hk'
        have HE : Hid (S ++ (((⟨#[123]⟩ : ByteArray) ++ xt) ++ (⟨#[125]⟩ : ByteArray)) = ofL (encF 3 (f.take (i + 1)))) := by
          show _ = _
          rw [HTK.out, HS.out, ← ofL_app]
          congr 1
          all_goals (
            apply ByteArray.ext
            apply Array.toList_inj.1
            simp [ofL, encE])
        go_wp2_with fail
        rw [HE.out]
        go_roundg (f.length - (i + 1))
        case measure => omega
        case rel => exact ⟨i + 1, by go_num, rfl, hlt, HSZ1.out, by first | exact HR1.out | exact HR1.out.below (below_drewN (Below.refl _ _) n2), by first | exact HB1.out | exact below_drewN HB1.out n2, by omega⟩
      · exfalso
        rcases HNB.out with h | ⟨h, _⟩
        · have h' : xk = 1 := h
          omega
        · have h' : xk = 5 := h
          omega
      · exfalso
        have hk' : xk = 3 := hk
        rcases HNB.out with h | ⟨h, _⟩
        · have h' : xk = 1 := h
          omega
        · have h' : xk = 5 := h
          omega
    · obtain rfl : i = f.length := by omega
      rw [List.take_length] at HSZ ⊢
      generalize ofL (encF 3 f) = res at HSZ HRR
      go_wp2_with fail
      first | go_ret2 | skip
      rw [HRR.out]
      exact ⟨rfl, HB.out⟩

end Go.Proofs.YtfkojnofbpdjdaaGreatDoor

namespace Go.Proofs.YtfkojnofbpdjdaaGreatDoor
set_option maxRecDepth 100000
open Go.RowKit

set_option maxRecDepth 100000 in
set_option maxHeartbeats 8000000 in
theorem rsEncode_any (f : List Tk) (v : Value) (m : Int) (w : World) (hm : w.cell? ⟨0, 0, none⟩ = some (.int .i64 m)) (h1 : RdT w v f) (hv : ValF f) (hpl : ∀ x ∈ f, PlainOk x) :
    Calls Tryz.prog 11 #[v] w fun e w' => e = .returned (.tuple #[.string (ofL (encF 2 f)), .int .i64 0]) ∧ Below w.heap.size w w' := by
  obtain ⟨R, HRR⟩ : ∃ R : Ending → World → Prop, Hid (R = fun e w' => e = .returned (.tuple #[.string (ofL (encF 2 f)), .int .i64 0]) ∧ Below w.heap.size w w') := ⟨_, rfl⟩
  rw [← HRR.out]
  have hsz := val_size f hv
  have CV := Lib.hid (validate_any f v m w hm h1 hv (fun x hx => by have := hsz x hx; omega))
  have hl1 := hv.len
  have HV := Lib.hid hv
  have H1 := Lib.hid h1
  have HM := Lib.hid hm
  have HZ := Lib.hid hsz
  have HP := Lib.hid hpl
  obtain ⟨A, c, rfl, hcap, _⟩ := h1.shape
  clear h1 hv hm hsz hpl
  go_enter Tryz.func11, Tryz.ntmps11
  go_wp2_with (go_at_call 37; refine (CV.out).mono ?_; rintro e w0 ⟨rfl, hw0⟩; have HB0 := Lib.hid hw0; have hz0 := hw0.size; clear hw0)
  have HN := Lib.hid (newReplacer_any prsR _ _ (rdE_lit (flatP prsR) w0 9) (by decide) (by decide))
  have HBL := Lib.hid (HB0.out.alloc hz0 (.cells ((flatP prsR).map Value.string).toArray 9))
  refine (HN.out).mono ?_
  rintro e w3 ⟨Rp, rfl, hRp, hrp, hw3⟩
  have hRw : w.heap.size ≤ Rp := by simp at hRp; omega
  have HR3 := Lib.hid hrp
  have HB3 := Lib.hid (HBL.out.trans (hw3.mono (by simp; omega)))
  clear HN HBL hrp hw3 hRp hz0 HB0
  generalize w0.alloc _ = w00 at *
  go_wp2_with fail
  go_loopg [6, 18] f.length (fun gk sv iv wr => ∃ i : Nat, iv = .int .i64 i ∧ sv = .string (ofL (encF 2 (f.take i))) ∧ i ≤ f.length ∧ Hid ((ofL (encF 2 (f.take i))).size ≤ i * 6000) ∧ Hid (RpIn wr Rp prsR) ∧ Hid (Below w.heap.size w wr) ∧ f.length - i ≤ gk)
  case atStart => exact ⟨0, rfl, rfl, Nat.zero_le _, (by show _ ≤ _; rw [List.take_zero]; decide), HR3.out, HB3.out, Nat.le_refl _⟩
  case round =>
    clear HR3 HB3
    obtain ⟨i, rfl, rfl, hi, HSZ, HR, HB, hgk⟩ := hrel
    by_cases hlt : i < f.length
    · have hii : (i : Int) < (f.length : Int) := by omega
      have hi0 : (0 : Int) ≤ (i : Int) := by omega
      obtain ⟨b, o, hA, hbl, p0, p1, p2⟩ := RdT.at_ H1.out i hlt
      subst hA
      have hmem := List.getElem_mem hlt
      have hwf := HV.out.wf _ hmem
      have hsx := HZ.out _ hmem
      have HNB := Lib.hid (HP.out _ hmem)
      have HTK := Lib.hid (encF_take 2 f i hlt)
      have hel := encE_len 2 f[i]
      have HSZ1 : Hid ((ofL (encF 2 (f.take (i + 1)))).size ≤ (i + 1) * 6000) := by
        show _ ≤ _
        have h := HSZ.out
        rw [Lib.size_eq] at h ⊢
        rw [ofL_list] at h ⊢
        rw [HTK.out, List.length_append]
        omega
      have q0 := (HB.out.cell (p := ⟨b, o + i * 3, none⟩) hbl).trans p0
      have q1 := (HB.out.cell (p := ⟨b, o + i * 3 + 1, none⟩) hbl).trans p1
      have q2 := (HB.out.cell (p := ⟨b, o + i * 3 + 2, none⟩) hbl).trans p2
      have hzr := HB.out.size
      obtain ⟨S, HS⟩ : ∃ S, Hid (S = ofL (encF 2 (f.take i))) := ⟨_, rfl⟩
      rw [← HS.out] at HSZ ⊢
      have hS : S.size ≤ 4000000 := by have := HSZ.out; omega
      clear hel hmem
      generalize f[i] = x at p0 p1 p2 q0 q1 q2 hwf hsx HTK HNB
      obtain ⟨xk, xt, xd⟩ := x
      simp only at p0 p1 p2 q0 q1 q2 hsx
      clear p0 p1 p2
      have HY : Hid ((wr.alloc (.cells #[.int .i64 xk, .string xt, .int .i64 xd] 31)).heap[wr.heap.size]? = some (.cells #[.int .i64 xk, .string xt, .int .i64 xd] 31)) := Array.getElem?_push_size
      have HB1 := Lib.hid (HB.out.alloc hzr (.cells #[.int .i64 xk, .string xt, .int .i64 xd] 31))
      have HR1 := Lib.hid (HR.out.below ((Below.refl _ wr).alloc (Nat.le_refl _) (.cells #[.int .i64 xk, .string xt, .int .i64 xd] 31)))
      obtain ⟨q, hq⟩ : ∃ q, Hid (q = wr.heap.size) := ⟨_, rfl⟩
      go_upto_region 9 with fail
      rw [← hq.out] at HY ⊢
      generalize wr.alloc (.cells #[.int .i64 xk, .string xt, .int .i64 xd] 31) = w1 at HY HB1 HR1 ⊢
      obtain ⟨y0, y1, y2, _⟩ := bx3 HY.out
      have HMQ := Lib.hid (below_cell0 HM.out HB1.out)
      rcases hwf with hk | ⟨hk, hnm, hd⟩ | ⟨hk, hct, hd1, hd2⟩ | ⟨hk, hnm, hd1, hd2⟩
      · have hk' : xk = 1 := hk
        subst hk'
        have CR := Lib.hid (replace_any Rp prsR xt w1 HR1.out (by decide) (by decide) prsR_ok (by omega))
        have hrs : (ofL (repL prsR xt.data.toList)).size ≤ 6000 := by
          rw [rep_enc prsR 2 repR, Lib.size_eq, ofL_list]
          have := encL_len 2 xt.data.toList
          rw [← Lib.size_eq] at this
          omega
        have HE : Hid (S ++ ofL (repL prsR xt.data.toList) = ofL (encF 2 (f.take (i + 1)))) := by
          show _ = _
          rw [HTK.out, HS.out, ← ofL_app, rep_enc prsR 2 repR]
          rfl
        generalize ofL (repL prsR xt.data.toList) = res at CR hrs HE
        go_wp2_with (go_at_call 39; refine (CR.out).mono ?_; rintro e w2 ⟨rfl, hr2, hm2⟩; have HR2 := Lib.hid hr2; have HB2 := Lib.hid (HB1.out.trans (hm2.below (fun k hk => by rw [hk]; exact hRw) HB1.out.size)); clear hr2 hm2)
        rw [HE.out]
        go_roundg (f.length - (i + 1))
        case measure => omega
        case rel => exact ⟨i + 1, by go_num, rfl, hlt, HSZ1.out, HR2.out, HB2.out, by omega⟩
      · have hk' : xk = 5 := hk
        subst hk'
        have HE : Hid (S ++ (((⟨#[123]⟩ : ByteArray) ++ xt) ++ (⟨#[125]⟩ : ByteArray)) = ofL (encF 2 (f.take (i + 1)))) := by
          show _ = _
          rw [HTK.out, HS.out, ← ofL_app]
          congr 1
          all_goals (
            apply ByteArray.ext
            apply Array.toList_inj.1
            simp [ofL, encE])
        go_wp2_with fail
        rw [HE.out]
        go_roundg (f.length - (i + 1))
        case measure => omega
        case rel => exact ⟨i + 1, by go_num, rfl, hlt, HSZ1.out, by first | exact HR1.out | exact HR1.out.below (below_drewN (Below.refl _ _) n2), by first | exact HB1.out | exact below_drewN HB1.out n2, by omega⟩
      · exfalso
        rcases HNB.out with h | ⟨h, _⟩
        · have h' : xk = 1 := h
          omega
        · have h' : xk = 5 := h
          omega
      · exfalso
        have hk' : xk = 3 := hk
        rcases HNB.out with h | ⟨h, _⟩
        · have h' : xk = 1 := h
          omega
        · have h' : xk = 5 := h
          omega
    · obtain rfl : i = f.length := by omega
      rw [List.take_length] at HSZ ⊢
      generalize ofL (encF 2 f) = res at HSZ HRR
      go_wp2_with fail
      first | go_ret2 | skip
      rw [HRR.out]
      exact ⟨rfl, HB.out⟩

end Go.Proofs.YtfkojnofbpdjdaaGreatDoor

namespace Go.Proofs.YtfkojnofbpdjdaaGreatDoor
set_option maxRecDepth 100000
open Go.RowKit

set_option maxRecDepth 100000 in
set_option maxHeartbeats 8000000 in
theorem mkEncode_any (f : List Tk) (v : Value) (m : Int) (w : World) (hm : w.cell? ⟨0, 0, none⟩ = some (.int .i64 m)) (h1 : RdT w v f) (hv : ValF f) (hnb : NoBlock f) :
    Calls Tryz.prog 10 #[v] w fun e w' => e = .returned (.tuple #[.string (ofL (encF 1 f)), .int .i64 0]) ∧ Below w.heap.size w w' := by
  obtain ⟨R, HRR⟩ : ∃ R : Ending → World → Prop, Hid (R = fun e w' => e = .returned (.tuple #[.string (ofL (encF 1 f)), .int .i64 0]) ∧ Below w.heap.size w w') := ⟨_, rfl⟩
  rw [← HRR.out]
  have hsz := val_size f hv
  have CV := Lib.hid (validate_any f v m w hm h1 hv (fun x hx => by have := hsz x hx; omega))
  have hl1 := hv.len
  have HV := Lib.hid hv
  have H1 := Lib.hid h1
  have HM := Lib.hid hm
  have HZ := Lib.hid hsz
  have HP := Lib.hid hnb
  obtain ⟨A, c, rfl, hcap, _⟩ := h1.shape
  clear h1 hv hm hsz hnb
  go_enter Tryz.func10, Tryz.ntmps10
  go_wp2_with (go_at_call 37; refine (CV.out).mono ?_; rintro e w0 ⟨rfl, hw0⟩; have HB0 := Lib.hid hw0; have hz0 := hw0.size; clear hw0)
  have HN := Lib.hid (newReplacer_any prsM _ _ (rdE_lit (flatP prsM) w0 9) (by decide) (by decide))
  have HBL := Lib.hid (HB0.out.alloc hz0 (.cells ((flatP prsM).map Value.string).toArray 9))
  refine (HN.out).mono ?_
  rintro e w3 ⟨Rp, rfl, hRp, hrp, hw3⟩
  have hRw : w.heap.size ≤ Rp := by simp at hRp; omega
  have HR3 := Lib.hid hrp
  have HB3 := Lib.hid (HBL.out.trans (hw3.mono (by simp; omega)))
  clear HN HBL hrp hw3 hRp hz0 HB0
  generalize w0.alloc _ = w00 at *
  go_wp2_with fail
  go_loopg [6, 18] f.length (fun gk sv iv wr => ∃ i : Nat, iv = .int .i64 i ∧ sv = .string (ofL (encF 1 (f.take i))) ∧ i ≤ f.length ∧ Hid ((ofL (encF 1 (f.take i))).size ≤ i * 6000) ∧ Hid (RpIn wr Rp prsM) ∧ Hid (Below w.heap.size w wr) ∧ f.length - i ≤ gk)
  case atStart => exact ⟨0, rfl, rfl, Nat.zero_le _, (by show _ ≤ _; rw [List.take_zero]; decide), HR3.out, HB3.out, Nat.le_refl _⟩
  case round =>
    clear HR3 HB3
    obtain ⟨i, rfl, rfl, hi, HSZ, HR, HB, hgk⟩ := hrel
    by_cases hlt : i < f.length
    · have hii : (i : Int) < (f.length : Int) := by omega
      have hi0 : (0 : Int) ≤ (i : Int) := by omega
      obtain ⟨b, o, hA, hbl, p0, p1, p2⟩ := RdT.at_ H1.out i hlt
      subst hA
      have hmem := List.getElem_mem hlt
      have hwf := HV.out.wf _ hmem
      have hsx := HZ.out _ hmem
      have HNB := Lib.hid (HP.out _ hmem)
      have HTK := Lib.hid (encF_take 1 f i hlt)
      have hel := encE_len 1 f[i]
      have HSZ1 : Hid ((ofL (encF 1 (f.take (i + 1)))).size ≤ (i + 1) * 6000) := by
        show _ ≤ _
        have h := HSZ.out
        rw [Lib.size_eq] at h ⊢
        rw [ofL_list] at h ⊢
        rw [HTK.out, List.length_append]
        omega
      have q0 := (HB.out.cell (p := ⟨b, o + i * 3, none⟩) hbl).trans p0
      have q1 := (HB.out.cell (p := ⟨b, o + i * 3 + 1, none⟩) hbl).trans p1
      have q2 := (HB.out.cell (p := ⟨b, o + i * 3 + 2, none⟩) hbl).trans p2
      have hzr := HB.out.size
      obtain ⟨S, HS⟩ : ∃ S, Hid (S = ofL (encF 1 (f.take i))) := ⟨_, rfl⟩
      rw [← HS.out] at HSZ ⊢
      have hS : S.size ≤ 4000000 := by have := HSZ.out; omega
      clear hel hmem
      generalize f[i] = x at p0 p1 p2 q0 q1 q2 hwf hsx HTK HNB
      obtain ⟨xk, xt, xd⟩ := x
      simp only at p0 p1 p2 q0 q1 q2 hsx
      clear p0 p1 p2
      have HY : Hid ((wr.alloc (.cells #[.int .i64 xk, .string xt, .int .i64 xd] 31)).heap[wr.heap.size]? = some (.cells #[.int .i64 xk, .string xt, .int .i64 xd] 31)) := Array.getElem?_push_size
      have HB1 := Lib.hid (HB.out.alloc hzr (.cells #[.int .i64 xk, .string xt, .int .i64 xd] 31))
      have HR1 := Lib.hid (HR.out.below ((Below.refl _ wr).alloc (Nat.le_refl _) (.cells #[.int .i64 xk, .string xt, .int .i64 xd] 31)))
      obtain ⟨q, hq⟩ : ∃ q, Hid (q = wr.heap.size) := ⟨_, rfl⟩
      go_upto_region 9 with fail
      rw [← hq.out] at HY ⊢
      generalize wr.alloc (.cells #[.int .i64 xk, .string xt, .int .i64 xd] 31) = w1 at HY HB1 HR1 ⊢
      obtain ⟨y0, y1, y2, _⟩ := bx3 HY.out
      have HMQ := Lib.hid (below_cell0 HM.out HB1.out)
      rcases hwf with hk | ⟨hk, hnm, hd⟩ | ⟨hk, hct, hd1, hd2⟩ | ⟨hk, hnm, hd1, hd2⟩
      · have hk' : xk = 1 := hk
        subst hk'
        have CR := Lib.hid (replace_any Rp prsM xt w1 HR1.out (by decide) (by decide) prsM_ok (by omega))
        have hrs : (ofL (repL prsM xt.data.toList)).size ≤ 6000 := by
          rw [rep_enc prsM 1 repM, Lib.size_eq, ofL_list]
          have := encL_len 1 xt.data.toList
          rw [← Lib.size_eq] at this
          omega
        have HE : Hid (S ++ ofL (repL prsM xt.data.toList) = ofL (encF 1 (f.take (i + 1)))) := by
          show _ = _
          rw [HTK.out, HS.out, ← ofL_app, rep_enc prsM 1 repM]
          rfl
        generalize ofL (repL prsM xt.data.toList) = res at CR hrs HE
        go_wp2_with (go_at_call 39; refine (CR.out).mono ?_; rintro e w2 ⟨rfl, hr2, hm2⟩; have HR2 := Lib.hid hr2; have HB2 := Lib.hid (HB1.out.trans (hm2.below (fun k hk => by rw [hk]; exact hRw) HB1.out.size)); clear hr2 hm2)
        rw [HE.out]
        go_roundg (f.length - (i + 1))
        case measure => omega
        case rel => exact ⟨i + 1, by go_num, rfl, hlt, HSZ1.out, HR2.out, HB2.out, by omega⟩
      · have hk' : xk = 5 := hk
        subst hk'
        have HE : Hid (S ++ (((⟨#[123]⟩ : ByteArray) ++ xt) ++ (⟨#[125]⟩ : ByteArray)) = ofL (encF 1 (f.take (i + 1)))) := by
          show _ = _
          rw [HTK.out, HS.out, ← ofL_app]
          congr 1
          all_goals (
            apply ByteArray.ext
            apply Array.toList_inj.1
            simp [ofL, encE])
        go_wp2_with fail
        rw [HE.out]
        go_roundg (f.length - (i + 1))
        case measure => omega
        case rel => exact ⟨i + 1, by go_num, rfl, hlt, HSZ1.out, by first | exact HR1.out | exact HR1.out.below (below_drewN (Below.refl _ _) n2), by first | exact HB1.out | exact below_drewN HB1.out n2, by omega⟩
      · rcases hk with hk | hk
        · have hk' : xk = 2 := hk
          subst hk'
          have HE : Hid (S ++ (((⟨#[60]⟩ : ByteArray) ++ xt) ++ (⟨#[62]⟩ : ByteArray)) = ofL (encF 1 (f.take (i + 1)))) := by
            show _ = _
            rw [HTK.out, HS.out, ← ofL_app]
            congr 1
            all_goals (
              apply ByteArray.ext
              apply Array.toList_inj.1
              simp [ofL, encE])
          have HN := Lib.hid (fun w (hm : w.cell? ⟨0, 0, none⟩ = some (.int .i64 m)) => name_mk xt m w (by omega) hm)
          have HBL := Lib.hid (fun w => isBlock_no (ofL (tagN xt.data.toList)) w (by simpa [ofL] using HNB.out (by unfold TagI; first | exact Or.inl rfl | exact Or.inr (Or.inl rfl) | exact Or.inr (Or.inr rfl))))
          generalize ofL (tagN xt.data.toList) = tn at HN HBL
          have y0' : w1.cell? ⟨q, 0, none⟩ = some (.int .i64 2) := y0
          go_wp2_with (first
            | (go_at_call 41; refine (HN.out _ (by exact HMQ.out)).mono ?_; rintro e w2 ⟨rfl, n2, rfl⟩)
            | (go_at_call 40; refine (HBL.out _).mono ?_; rintro e w' ⟨rfl, rfl⟩))
          rw [HE.out]
          go_roundg (f.length - (i + 1))
          case measure => omega
          case rel => exact ⟨i + 1, by go_num, rfl, hlt, HSZ1.out, by first | exact HR1.out | exact HR1.out.below (below_drewN (Below.refl _ _) n2), by first | exact HB1.out | exact below_drewN HB1.out n2, by omega⟩
        · have hk' : xk = 4 := hk
          subst hk'
          have HE : Hid (S ++ (((⟨#[60]⟩ : ByteArray) ++ xt) ++ (⟨#[47, 62]⟩ : ByteArray)) = ofL (encF 1 (f.take (i + 1)))) := by
            show _ = _
            rw [HTK.out, HS.out, ← ofL_app]
            congr 1
            all_goals (
              apply ByteArray.ext
              apply Array.toList_inj.1
              simp [ofL, encE])
          have HN := Lib.hid (fun w (hm : w.cell? ⟨0, 0, none⟩ = some (.int .i64 m)) => name_mk xt m w (by omega) hm)
          have HBL := Lib.hid (fun w => isBlock_no (ofL (tagN xt.data.toList)) w (by simpa [ofL] using HNB.out (by unfold TagI; first | exact Or.inl rfl | exact Or.inr (Or.inl rfl) | exact Or.inr (Or.inr rfl))))
          generalize ofL (tagN xt.data.toList) = tn at HN HBL
          have y0' : w1.cell? ⟨q, 0, none⟩ = some (.int .i64 4) := y0
          go_wp2_with (first
            | (go_at_call 41; refine (HN.out _ (by exact HMQ.out)).mono ?_; rintro e w2 ⟨rfl, n2, rfl⟩)
            | (go_at_call 40; refine (HBL.out _).mono ?_; rintro e w' ⟨rfl, rfl⟩))
          rw [HE.out]
          go_roundg (f.length - (i + 1))
          case measure => omega
          case rel => exact ⟨i + 1, by go_num, rfl, hlt, HSZ1.out, by first | exact HR1.out | exact HR1.out.below (below_drewN (Below.refl _ _) n2), by first | exact HB1.out | exact below_drewN HB1.out n2, by omega⟩
      · have hk' : xk = 3 := hk
        subst hk'
        have HE : Hid (S ++ (((⟨#[60, 47]⟩ : ByteArray) ++ xt) ++ (⟨#[62]⟩ : ByteArray)) = ofL (encF 1 (f.take (i + 1)))) := by
          show _ = _
          rw [HTK.out, HS.out, ← ofL_app]
          congr 1
          all_goals (
            apply ByteArray.ext
            apply Array.toList_inj.1
            simp [ofL, encE])
        have HN := Lib.hid (fun w (hm : w.cell? ⟨0, 0, none⟩ = some (.int .i64 m)) => name_mk xt m w (by omega) hm)
        have HBL := Lib.hid (fun w => isBlock_no (ofL (tagN xt.data.toList)) w (by simpa [ofL] using HNB.out (by unfold TagI; first | exact Or.inl rfl | exact Or.inr (Or.inl rfl) | exact Or.inr (Or.inr rfl))))
        generalize ofL (tagN xt.data.toList) = tn at HN HBL
        have y0' : w1.cell? ⟨q, 0, none⟩ = some (.int .i64 3) := y0
        go_wp2_with (first
          | (go_at_call 41; refine (HN.out _ (by exact HMQ.out)).mono ?_; rintro e w2 ⟨rfl, n2, rfl⟩)
          | (go_at_call 40; refine (HBL.out _).mono ?_; rintro e w' ⟨rfl, rfl⟩))
        rw [HE.out]
        go_roundg (f.length - (i + 1))
        case measure => omega
        case rel => exact ⟨i + 1, by go_num, rfl, hlt, HSZ1.out, by first | exact HR1.out | exact HR1.out.below (below_drewN (Below.refl _ _) n2), by first | exact HB1.out | exact below_drewN HB1.out n2, by omega⟩
    · obtain rfl : i = f.length := by omega
      rw [List.take_length] at HSZ ⊢
      generalize ofL (encF 1 f) = res at HSZ HRR
      go_wp2_with fail
      first | go_ret2 | skip
      rw [HRR.out]
      exact ⟨rfl, HB.out⟩

end Go.Proofs.YtfkojnofbpdjdaaGreatDoor

namespace Go.Proofs.YtfkojnofbpdjdaaGreatDoor
set_option maxRecDepth 100000
open Go.RowKit

/-- The functions of a format. -/
def splF (fmt : Int) : FuncId := if fmt = 1 then 94 else if fmt = 2 then 95 else 96
def decFn (fmt : Int) : FuncId := if fmt = 1 then 13 else if fmt = 2 then 14 else 15
def encFn (fmt : Int) : FuncId := if fmt = 1 then 10 else if fmt = 2 then 11 else 12
def cutFn (fmt : Int) : FuncId := if fmt = 1 then 106 else if fmt = 2 then 107 else 108
def FmtOk (fmt : Int) : Prop := fmt = 1 ∨ fmt = 2 ∨ fmt = 3
def DecRet3 (f : List Tk) (w : World) (e : Ending) (w' : World) : Prop :=
  ∃ v, e = .returned (.tuple #[v, .int .i64 0, .int .i64 0]) ∧ OwnT 31 w' w.heap.size v f ∧ Below w.heap.size w w'
def DDecRet (f : List Tk) (w : World) (e : Ending) (w' : World) : Prop :=
  ∃ v, e = .returned (.tuple #[v, .int .i64 0]) ∧ OwnT 31 w' w.heap.size v f ∧ Below w.heap.size w w'
def CutRet (l : List Int) (w : World) (e : Ending) (w' : World) : Prop :=
  ∃ v, e = .returned (.tuple #[v, .int .i64 0]) ∧ OwnE 3 intC 1 w' w.heap.size v l ∧ Below w.heap.size w w'
def EncRet (s : ByteArray) (w : World) (e : Ending) (w' : World) : Prop :=
  e = .returned (.tuple #[.string s, .int .i64 0]) ∧ Below w.heap.size w w'

set_option maxRecDepth 100000 in
theorem known_any (fmt : Int) (h : FmtOk fmt) (w : World) : Calls Tryz.prog 55 #[.int .i64 fmt] w (fun e w' => e = .returned (.bool true) ∧ w = w') := by
  rcases h with rfl | rfl | rfl
  all_goals (
    go_enter Tryz.func55, Tryz.ntmps55
    go_wp2
    go_ret
    exact ⟨rfl, rfl⟩)

set_option maxRecDepth 100000 in
set_option maxHeartbeats 4000000 in
theorem split_1 (data : ByteArray) (ps : List Pt) (w : World) (h : Calls Tryz.prog 94 #[.string data] w (PtsRet ps w)) :
    Calls Tryz.prog 57 #[.int .i64 1, .string data] w (PtsRet ps w) := by
  have HC := Lib.hid h
  clear h
  go_enter Tryz.func57, Tryz.ntmps57
  go_wp2_with (go_at_call 94; refine (HC.out).mono ?_; rintro e w1 ⟨v, rfl, ho, hb⟩; obtain ⟨A, c, rfl⟩ := own_shape ho; have HO := Lib.hid ho; have HB := Lib.hid hb; clear ho hb)

  go_ret3
  exact ⟨_, rfl, HO.out, HB.out⟩

set_option maxRecDepth 100000 in
set_option maxHeartbeats 4000000 in
theorem split_2 (data : ByteArray) (ps : List Pt) (w : World) (h : Calls Tryz.prog 95 #[.string data] w (PtsRet ps w)) :
    Calls Tryz.prog 57 #[.int .i64 2, .string data] w (PtsRet ps w) := by
  have HC := Lib.hid h
  clear h
  go_enter Tryz.func57, Tryz.ntmps57
  go_wp2_with (go_at_call 95; refine (HC.out).mono ?_; rintro e w1 ⟨v, rfl, ho, hb⟩; obtain ⟨A, c, rfl⟩ := own_shape ho; have HO := Lib.hid ho; have HB := Lib.hid hb; clear ho hb)

  go_ret3
  exact ⟨_, rfl, HO.out, HB.out⟩

set_option maxRecDepth 100000 in
set_option maxHeartbeats 4000000 in
theorem split_3 (data : ByteArray) (ps : List Pt) (w : World) (h : Calls Tryz.prog 96 #[.string data] w (PtsRet ps w)) :
    Calls Tryz.prog 57 #[.int .i64 3, .string data] w (PtsRet ps w) := by
  have HC := Lib.hid h
  clear h
  go_enter Tryz.func57, Tryz.ntmps57
  go_wp2_with (go_at_call 96; refine (HC.out).mono ?_; rintro e w1 ⟨v, rfl, ho, hb⟩; obtain ⟨A, c, rfl⟩ := own_shape ho; have HO := Lib.hid ho; have HB := Lib.hid hb; clear ho hb)

  go_ret3
  exact ⟨_, rfl, HO.out, HB.out⟩

set_option maxRecDepth 100000 in
set_option maxHeartbeats 4000000 in
theorem dec_1 (raw : ByteArray) (f : List Tk) (w : World) (h : Calls Tryz.prog 13 #[.string raw] w (DecRet3 f w)) :
    Calls Tryz.prog 56 #[.int .i64 1, .string raw] w (DDecRet f w) := by
  have HC := Lib.hid h
  clear h
  go_enter Tryz.func56, Tryz.ntmps56
  go_wp2_with (go_at_call 13; refine (HC.out).mono ?_; rintro e w1 ⟨v, rfl, ho, hb⟩; obtain ⟨A, c, rfl⟩ := own_shape ho; have HO := Lib.hid ho; have HB := Lib.hid hb; clear ho hb)

  go_ret2
  exact ⟨_, rfl, HO.out, HB.out⟩

set_option maxRecDepth 100000 in
set_option maxHeartbeats 4000000 in
theorem dec_2 (raw : ByteArray) (f : List Tk) (w : World) (h : Calls Tryz.prog 14 #[.string raw] w (DecRet3 f w)) :
    Calls Tryz.prog 56 #[.int .i64 2, .string raw] w (DDecRet f w) := by
  have HC := Lib.hid h
  clear h
  go_enter Tryz.func56, Tryz.ntmps56
  go_wp2_with (go_at_call 14; refine (HC.out).mono ?_; rintro e w1 ⟨v, rfl, ho, hb⟩; obtain ⟨A, c, rfl⟩ := own_shape ho; have HO := Lib.hid ho; have HB := Lib.hid hb; clear ho hb)

  go_ret2
  exact ⟨_, rfl, HO.out, HB.out⟩

set_option maxRecDepth 100000 in
set_option maxHeartbeats 4000000 in
theorem dec_3 (raw : ByteArray) (f : List Tk) (w : World) (h : Calls Tryz.prog 15 #[.string raw] w (DecRet3 f w)) :
    Calls Tryz.prog 56 #[.int .i64 3, .string raw] w (DDecRet f w) := by
  have HC := Lib.hid h
  clear h
  go_enter Tryz.func56, Tryz.ntmps56
  go_wp2_with (go_at_call 15; refine (HC.out).mono ?_; rintro e w1 ⟨v, rfl, ho, hb⟩; obtain ⟨A, c, rfl⟩ := own_shape ho; have HO := Lib.hid ho; have HB := Lib.hid hb; clear ho hb)

  go_ret2
  exact ⟨_, rfl, HO.out, HB.out⟩

set_option maxRecDepth 100000 in
set_option maxHeartbeats 4000000 in
theorem cuts_1 (raw : ByteArray) (l : List Int) (w : World) (h : Calls Tryz.prog 106 #[.string raw] w (CutRet l w)) :
    Calls Tryz.prog 67 #[.int .i64 1, .string raw] w (CutRet l w) := by
  have HC := Lib.hid h
  clear h
  go_enter Tryz.func67, Tryz.ntmps67
  go_wp2_with (go_at_call 106; refine (HC.out).mono ?_; rintro e w1 ⟨v, rfl, ho, hb⟩; obtain ⟨A, c, rfl⟩ := own_shape ho; have HO := Lib.hid ho; have HB := Lib.hid hb; clear ho hb)

  go_ret2
  exact ⟨_, rfl, HO.out, HB.out⟩

set_option maxRecDepth 100000 in
set_option maxHeartbeats 4000000 in
theorem cuts_2 (raw : ByteArray) (l : List Int) (w : World) (h : Calls Tryz.prog 107 #[.string raw] w (CutRet l w)) :
    Calls Tryz.prog 67 #[.int .i64 2, .string raw] w (CutRet l w) := by
  have HC := Lib.hid h
  clear h
  go_enter Tryz.func67, Tryz.ntmps67
  go_wp2_with (go_at_call 107; refine (HC.out).mono ?_; rintro e w1 ⟨v, rfl, ho, hb⟩; obtain ⟨A, c, rfl⟩ := own_shape ho; have HO := Lib.hid ho; have HB := Lib.hid hb; clear ho hb)

  go_ret2
  exact ⟨_, rfl, HO.out, HB.out⟩

set_option maxRecDepth 100000 in
set_option maxHeartbeats 4000000 in
theorem cuts_3 (raw : ByteArray) (l : List Int) (w : World) (h : Calls Tryz.prog 108 #[.string raw] w (CutRet l w)) :
    Calls Tryz.prog 67 #[.int .i64 3, .string raw] w (CutRet l w) := by
  have HC := Lib.hid h
  clear h
  go_enter Tryz.func67, Tryz.ntmps67
  go_wp2_with (go_at_call 108; refine (HC.out).mono ?_; rintro e w1 ⟨v, rfl, ho, hb⟩; obtain ⟨A, c, rfl⟩ := own_shape ho; have HO := Lib.hid ho; have HB := Lib.hid hb; clear ho hb)

  go_ret2
  exact ⟨_, rfl, HO.out, HB.out⟩

set_option maxRecDepth 100000 in
set_option maxHeartbeats 4000000 in
theorem enc_1 (A : Option Addr) (n c : Nat) (s : ByteArray) (w : World) (h : Calls Tryz.prog 10 #[.slice A n c] w (EncRet s w)) :
    Calls Tryz.prog 68 #[.int .i64 1, .slice A n c] w (EncRet s w) := by
  have HC := Lib.hid h
  clear h
  go_enter Tryz.func68, Tryz.ntmps68
  go_wp2_with (go_at_call 10; refine (HC.out).mono ?_; rintro e w1 ⟨rfl, hb⟩; have HB := Lib.hid hb; clear hb)

  go_ret2
  exact ⟨rfl, HB.out⟩

set_option maxRecDepth 100000 in
set_option maxHeartbeats 4000000 in
theorem enc_2 (A : Option Addr) (n c : Nat) (s : ByteArray) (w : World) (h : Calls Tryz.prog 11 #[.slice A n c] w (EncRet s w)) :
    Calls Tryz.prog 68 #[.int .i64 2, .slice A n c] w (EncRet s w) := by
  have HC := Lib.hid h
  clear h
  go_enter Tryz.func68, Tryz.ntmps68
  go_wp2_with (go_at_call 11; refine (HC.out).mono ?_; rintro e w1 ⟨rfl, hb⟩; have HB := Lib.hid hb; clear hb)

  go_ret2
  exact ⟨rfl, HB.out⟩

set_option maxRecDepth 100000 in
set_option maxHeartbeats 4000000 in
theorem enc_3 (A : Option Addr) (n c : Nat) (s : ByteArray) (w : World) (h : Calls Tryz.prog 12 #[.slice A n c] w (EncRet s w)) :
    Calls Tryz.prog 68 #[.int .i64 3, .slice A n c] w (EncRet s w) := by
  have HC := Lib.hid h
  clear h
  go_enter Tryz.func68, Tryz.ntmps68
  go_wp2_with (go_at_call 12; refine (HC.out).mono ?_; rintro e w1 ⟨rfl, hb⟩; have HB := Lib.hid hb; clear hb)

  go_ret2
  exact ⟨rfl, HB.out⟩

theorem split_any (fmt : Int) (hf : FmtOk fmt) (data : ByteArray) (ps : List Pt) (w : World) (h : Calls Tryz.prog (splF fmt) #[.string data] w (PtsRet ps w)) :
    Calls Tryz.prog 57 #[.int .i64 fmt, .string data] w (PtsRet ps w) := by
  rcases hf with rfl | rfl | rfl
  · exact split_1 data ps w h
  · exact split_2 data ps w h
  · exact split_3 data ps w h

theorem dec_any (fmt : Int) (hf : FmtOk fmt) (raw : ByteArray) (f : List Tk) (w : World) (h : Calls Tryz.prog (decFn fmt) #[.string raw] w (DecRet3 f w)) :
    Calls Tryz.prog 56 #[.int .i64 fmt, .string raw] w (DDecRet f w) := by
  rcases hf with rfl | rfl | rfl
  · exact dec_1 raw f w h
  · exact dec_2 raw f w h
  · exact dec_3 raw f w h

theorem cuts_any (fmt : Int) (hf : FmtOk fmt) (raw : ByteArray) (l : List Int) (w : World) (h : Calls Tryz.prog (cutFn fmt) #[.string raw] w (CutRet l w)) :
    Calls Tryz.prog 67 #[.int .i64 fmt, .string raw] w (CutRet l w) := by
  rcases hf with rfl | rfl | rfl
  · exact cuts_1 raw l w h
  · exact cuts_2 raw l w h
  · exact cuts_3 raw l w h

theorem enc_any (fmt : Int) (hf : FmtOk fmt) (A : Option Addr) (n c : Nat) (s : ByteArray) (w : World) (h : Calls Tryz.prog (encFn fmt) #[.slice A n c] w (EncRet s w)) :
    Calls Tryz.prog 68 #[.int .i64 fmt, .slice A n c] w (EncRet s w) := by
  rcases hf with rfl | rfl | rfl
  · exact enc_1 A n c s w h
  · exact enc_2 A n c s w h
  · exact enc_3 A n c s w h

end Go.Proofs.YtfkojnofbpdjdaaGreatDoor

namespace Go.Proofs.YtfkojnofbpdjdaaGreatDoor
set_option maxRecDepth 100000
open Go.RowKit

def bytesP (ps : List Pt) : List UInt8 := (ps.map fun p => p.raw.data.toList).flatten
theorem bytesP_take (ps : List Pt) (k : Nat) (h : k < ps.length) : bytesP (ps.take (k + 1)) = bytesP (ps.take k) ++ ps[k].raw.data.toList := by
  unfold bytesP
  rw [List.take_succ_eq_append_getElem h, List.map_append, List.flatten_append]
  simp
theorem bytesP_le (ps : List Pt) (k : Nat) : (bytesP (ps.take k)).length ≤ (bytesP ps).length := by
  have := congrArg (fun l => (bytesP l).length) (List.take_append_drop k ps)
  unfold bytesP at *
  simp only [List.map_append, List.flatten_append, List.length_append] at this
  omega
theorem isB_below {T e : TypeId} {B b : Nat} {bs : List Value} {w w' : World} (h : Lib.IsBuilder T e B b bs w) (hb : Below w.heap.size w w') : Lib.IsBuilder T e B b bs w' := by
  have k : ∀ p, Lib.BuilderAt T e B b p bs w → Lib.BuilderAt T e B b p bs w' := by
    rintro p ⟨hB, v, hbk, hown, hne⟩
    exact ⟨hB, v, (hb.block b (Array.getElem?_eq_some_iff.1 hbk).1).trans hbk, own_same hown fun k hk => hb.block k (hown.lt k hk).2, hne⟩
  exact h.imp (k _) (k _)

set_option maxHeartbeats 4000000 in
set_option maxRecDepth 100000 in
theorem bytes_any (fmt : Int) (ps : List Pt) (A : Option Addr) (c : Nat) (w : World) (h : RdE ptC 3 w (.slice A ps.length c) ps) (hl : ps.length ≤ 100000) (hsz : (bytesP ps).length ≤ 1000000) :
    Calls Tryz.prog 24 #[.agg #[.int .i64 fmt, .slice A ps.length c]] w (fun e w' => e = .returned (.string (ofL (bytesP ps))) ∧ Below w.heap.size w w') := by
  obtain ⟨R, HRR⟩ : ∃ R : Ending → World → Prop, Hid (R = fun e w' => e = .returned (.string (ofL (bytesP ps))) ∧ Below w.heap.size w w') := ⟨_, rfl⟩
  rw [← HRR.out]
  have HP := Lib.hid h
  have HSZ := Lib.hid hsz
  have HB0 := Lib.hid (((Below.refl w.heap.size w).alloc (Nat.le_refl _) (.cells #[.int .i64 fmt, .slice A ps.length c] 41)).alloc (by simp) (.cells #[.pointer none, .slice none 0 0] 117))
  have HI0 : Hid (Lib.IsBuilder 117 5 w.heap.size (w.heap.size + 1) [] ((w.alloc (.cells #[.int .i64 fmt, .slice A ps.length c] 41)).alloc (.cells #[.pointer none, .slice none 0 0] 117))) := by
    refine .inl ⟨Nat.le_succ _, .slice none 0 0, ?_, World.ownsRow_nil _ _ _ _, by simp [Value.ownBlock]⟩
    have := heap_alloc_new (w.alloc (.cells #[.int .i64 fmt, .slice A ps.length c] 41)) (.cells #[.pointer none, .slice none 0 0] 117)
    simpa using this
  clear h hsz
  go_enter Tryz.func24, Tryz.ntmps24
  go_wp2_with fail
  obtain ⟨M, hM⟩ : ∃ M, Hid (w.heap.size + 1 = M) := ⟨_, rfl⟩
  rw [hM.out] at HI0
  rw [hM.out]
  have HMM : Hid (w.heap.size ≤ M) := by show _ ≤ _; have := hM.out; omega
  go_loopg [9] ps.length (fun gk iv wr => ∃ k : Nat, iv = .int .i64 k ∧ k ≤ ps.length ∧ Hid (Lib.IsBuilder 117 5 w.heap.size M (Lib.byteCells (bytesP (ps.take k))) wr) ∧ Hid (Below w.heap.size w wr) ∧ ps.length - k ≤ gk)
  case atStart => exact ⟨0, rfl, Nat.zero_le _, HI0.out, HB0.out, Nat.le_refl _⟩
  case round =>
    obtain ⟨k, rfl, hk, HI, HB, hgk⟩ := hrel
    clear HI0 HB0
    by_cases hlt : k < ps.length
    · obtain ⟨b, o, rfl, hb, c0, c1, c2⟩ := RdP.at_ (HP.out.below HB.out (Nat.le_refl _)) k hlt
      have hf1 := bytesP_le ps (k + 1)
      have hft := bytesP_take ps k hlt
      have hsz := HSZ.out
      have hlen : (Lib.byteCells (bytesP (ps.take k))).length + ps[k].raw.size ≤ 140737488355328 := by
        rw [Lib.byteCells_length, Lib.size_eq]
        rw [hft, List.length_append] at hf1
        omega
      have HFT : Hid (Lib.byteCells (bytesP (ps.take k)) ++ Lib.strCells ps[k].raw = Lib.byteCells (bytesP (ps.take (k + 1)))) := by show _ = _; rw [hft, Lib.byteCells_append, Lib.strCells_eq]
      have hz := HB.out.size
      have CW := Lib.hid (fun (w' : World) (h : Lib.IsBuilder 117 5 w.heap.size M (Lib.byteCells (bytesP (ps.take k))) w') (hb : w.heap.size ≤ w'.heap.size) => writeString_any w.heap.size M _ ps[k].raw w' h hlen hb)
      rw [HFT.out] at CW
      clear hf1 hft hsz hlen HFT
      generalize ps[k].raw = x2 at *
      generalize ps[k].key = x1 at *
      generalize ps[k].un = x0 at *
      have HA := Lib.hid ((Below.refl wr.heap.size wr).alloc (Nat.le_refl _) (.cells #[.bool x0, .string x1, .string x2] 52))
      go_wp2_with (go_at_call 53; refine (CW.out _ (by exact isB_below HI.out HA.out) (by exact Nat.le_trans hz HA.out.size)).mono ?_; rintro e w1 ⟨rfl, h1, hb1⟩; have HI1 := Lib.hid h1; have HB1 := Lib.hid (HB.out.trans ((HA.out.mono hz).trans hb1)); clear h1 hb1)
      go_roundg (ps.length - (k + 1))
      case measure => omega
      case rel => exact ⟨k + 1, rfl, hlt, .inr HI1.out, HB1.out, Nat.le_refl _⟩
    · obtain rfl : k = ps.length := by omega
      rw [List.take_length] at HI
      have CS := Lib.hid (Tryz.Builder_String_any w.heap.size M (bytesP ps) wr HI.out HB.out.size)
      go_wp2_with (go_at_call 54; refine (CS.out).mono ?_; rintro e w1 ⟨rfl, hb1⟩; have HB1 := Lib.hid (HB.out.trans hb1); clear hb1)
      first | go_ret | skip
      rw [HRR.out]
      exact ⟨rfl, HB1.out⟩

end Go.Proofs.YtfkojnofbpdjdaaGreatDoor

namespace Go.Proofs.YtfkojnofbpdjdaaGreatDoor
set_option maxRecDepth 100000
open Go.RowKit Go.Maps

theorem int_keyedI : Keyed Tryz.prog 3 := int_keyed Tryz.underlying3
theorem key_int (d : Int) (h : IntIn d) : keyOf Tryz.prog 3 (.int .i64 d) = some (.int .i64 d) := keyOf_int_mk Tryz.underlying3 (by
  show (decide (IntKind.i64.min ≤ d) && decide (d ≤ IntKind.i64.max)) = true
  have e1 : IntKind.i64.min = -9223372036854775808 := by decide
  have e2 : IntKind.i64.max = 9223372036854775807 := by decide
  rw [e1, e2, Bool.and_eq_true]
  exact ⟨decide_eq_true h.1, decide_eq_true h.2⟩)
/-- Block b is a set of numbers. -/
def IntSet (w : World) (b n : Nat) (S : List Int) : Prop :=
  ∃ D : DataW Unit, w.ownsMap Tryz.prog 3 (plainElem Tryz.prog 4) b n D ∧ IsMap D ∧ ∀ d : Int, IntIn d → D.atKey (.int .i64 d) (.lit (.bool false)) = .lit (.bool (decide (d ∈ S)))
theorem zero_boolI (w : World) : (zeroValue 4).run Tryz.prog w = .ok (.bool false) w := by kernel_rfl
theorem zero_intI (w : World) : (zeroValue 3).run Tryz.prog w = .ok (.int .i64 0) w := by kernel_rfl
theorem IntSet.made (w : World) : IntSet (w.alloc (.map #[] 0)) w.heap.size 0 [] :=
  ⟨_, World.ownsMap_made _ _ _ _, isMap_empty, fun _ _ => rfl⟩
theorem IntSet.lt {w : World} {b n : Nat} {S : List Int} (h : IntSet w b n S) : b < w.heap.size := by
  obtain ⟨D, h1, _⟩ := h
  exact h1.lt
theorem IntSet.same {w w' : World} {b n : Nat} {S : List Int} (h : IntSet w b n S) (e : w'.heap[b]? = w.heap[b]?) : IntSet w' b n S := by
  obtain ⟨D, ⟨es, clock, hb, F, hs, hD⟩, h2⟩ := h
  exact ⟨D, ⟨es, clock, e.trans hb, F, hs, hD⟩, h2⟩
theorem IntSet.apart {w : World} {b n : Nat} {S : List Int} (h : IntSet w b n S) {B : Nat} {e : TypeId} {size m : Nat} {v : Value} {xs : List Value} (ho : w.ownsRow B e size v m xs) : v.ownBlock ≠ some b := by
  intro hk
  obtain ⟨D, ⟨es, clock, hb, _⟩, _⟩ := h
  obtain ⟨cur, hc⟩ := own_row_at ho hk
  rw [hc] at hb
  cases hb
theorem plainElem_bool_invI {v : Value} {x : Bool} {ps : List MemPlace} (h : plainElem (H := Unit) Tryz.prog 4 v = some (.lit (.bool x), ps)) : v = .bool x := by
  unfold plainElem at h
  rw [Tryz.underlying4] at h
  cases v <;> simp_all
theorem IntSet.look {w : World} {b n : Nat} {S : List Int} (h : IntSet w b n S) (d : Int) (hd : IntIn d) :
    (Instr.lookup 223 (.map (some b)) (.int .i64 d) false).run Tryz.prog w = .ok (.bool (decide (d ∈ S))) w := by
  obtain ⟨D, h1, h2, h3⟩ := h
  obtain ⟨v, ps, hlk, hR⟩ := h1.lookup int_keyedI Tryz.underlying223 (zero_boolI w) (plainElem_bool Tryz.underlying4 false) (key_int d hd)
  rw [h3 d hd] at hR
  rw [hlk, plainElem_bool_invI hR]
theorem IntSet.put {w : World} {b n : Nat} {S : List Int} (h : IntSet w b n S) (d : Int) (hd : IntIn d) (hn : n < maxLen) :
    ∃ w2, (Instr.mapUpdate 223 (.map (some b)) (.int .i64 d) (.bool true)).run Tryz.prog w = .ok () w2 ∧ IntSet w2 b (n + 1) (S ++ [d]) ∧ w.grownBy w2 (some b) := by
  obtain ⟨D, h1, h2, h3⟩ := h
  have hkey := key_int d hd
  obtain ⟨w2, hup, hown, hg⟩ := h1.update int_keyedI Tryz.underlying223 hn hkey (plainElem_bool (H := Unit) Tryz.underlying4 true)
  refine ⟨w2, hup, ⟨_, hown, h2.put _ _, fun u hu => ?_⟩, hg⟩
  by_cases e : u = d
  · rw [e, atKey_put_same h2 (int_keyedI.key hkey)]
    simp
  · rw [atKey_put_other (fun e' => e (by injection e'))]
    rw [h3 u hu]
    simp [e]

/-- Block b maps each number from lo to hi to itself. -/
def IdMap (w : World) (b n : Nat) (lo hi : Int) : Prop :=
  ∃ D : DataW Unit, w.ownsMap Tryz.prog 3 (plainElem Tryz.prog 3) b n D ∧ IsMap D ∧ ∀ d : Int, IntIn d → lo ≤ d → d ≤ hi → ∀ z, D.atKey (.int .i64 d) z = .lit (.int .i64 d)
theorem IdMap.made (w : World) (hi : Int) : IdMap (w.alloc (.map #[] 0)) w.heap.size 0 (hi + 1) hi :=
  ⟨_, World.ownsMap_made _ _ _ _, isMap_empty, fun _ _ h1 h2 => by omega⟩
theorem IdMap.lt {w : World} {b n : Nat} {lo hi : Int} (h : IdMap w b n lo hi) : b < w.heap.size := by
  obtain ⟨D, h1, _⟩ := h
  exact h1.lt
theorem IdMap.same {w w' : World} {b n : Nat} {lo hi : Int} (h : IdMap w b n lo hi) (e : w'.heap[b]? = w.heap[b]?) : IdMap w' b n lo hi := by
  obtain ⟨D, ⟨es, clock, hb, F, hs, hD⟩, h2⟩ := h
  exact ⟨D, ⟨es, clock, e.trans hb, F, hs, hD⟩, h2⟩
theorem IdMap.apart {w : World} {b n : Nat} {lo hi : Int} (h : IdMap w b n lo hi) {B : Nat} {e : TypeId} {size m : Nat} {v : Value} {xs : List Value} (ho : w.ownsRow B e size v m xs) : v.ownBlock ≠ some b := by
  intro hk
  obtain ⟨D, ⟨es, clock, hb, _⟩, _⟩ := h
  obtain ⟨cur, hc⟩ := own_row_at ho hk
  rw [hc] at hb
  cases hb
theorem IdMap.look {w : World} {b n : Nat} {lo hi : Int} (h : IdMap w b n lo hi) (d : Int) (hd : IntIn d) (h1 : lo ≤ d) (h2 : d ≤ hi) :
    (Instr.lookup 224 (.map (some b)) (.int .i64 d) true).run Tryz.prog w = .ok (.tuple #[.int .i64 d, .bool true]) w := by
  obtain ⟨D, hown, h3, h4⟩ := h
  obtain ⟨v, ps, hlk, hR⟩ := hown.look_ok int_keyedI Tryz.underlying224 (zero_intI w) (plainElem_int Tryz.underlying3 (by decide)) (key_int d hd)
  rw [h4 d hd h1 h2] at hR
  obtain ⟨a, rfl, hy, _⟩ := plainElem_int_inv Tryz.underlying3 hR
  injection hy with hy _
  injection hy with hy
  injection hy with _ hy
  rw [hlk, Maps.has_true_of_atKey (fun z => h4 d hd h1 h2 z), ← hy]
theorem IdMap.put {w : World} {b n : Nat} {lo hi : Int} (h : IdMap w b n (lo + 1) hi) (hd : IntIn lo) (hn : n < maxLen) :
    ∃ w2, (Instr.mapUpdate 224 (.map (some b)) (.int .i64 lo) (.int .i64 lo)).run Tryz.prog w = .ok () w2 ∧ IdMap w2 b (n + 1) lo hi ∧ w.grownBy w2 (some b) := by
  obtain ⟨D, h1, h2, h3⟩ := h
  have hkey := key_int lo hd
  have hwf : (Lit.int .i64 lo).wf = true := by
    unfold keyOf at hkey
    rw [Tryz.underlying3] at hkey
    simp [mapKey, Tryz.underlying3] at hkey
    exact hkey
  obtain ⟨w2, hup, hown, hg⟩ := h1.update int_keyedI Tryz.underlying224 hn hkey (plainElem_int (H := Unit) Tryz.underlying3 hwf)
  refine ⟨w2, hup, ⟨_, hown, h2.put _ _, fun u hu e1 e2 z => ?_⟩, hg⟩
  by_cases e : u = lo
  · rw [e, atKey_put_same h2 (int_keyedI.key hkey)]
  · rw [atKey_put_other (fun e' => e (by injection e'))]
    exact h3 u hu (by omega) e2 z

end Go.Proofs.YtfkojnofbpdjdaaGreatDoor

namespace Go.Proofs.YtfkojnofbpdjdaaGreatDoor
set_option maxRecDepth 100000
open Go.RowKit

theorem intC_oneN (x : Int) : ∀ u ∈ intC x, u.oneCell' = true := by
  intro u hu
  rw [List.mem_singleton.1 hu]
  rfl
/-- An item of one of the five kinds, its number a machine's. -/
def KindOk (x : Tk) : Prop := (x.k = 1 ∨ x.k = 5) ∨ ((x.k = 2 ∨ x.k = 3 ∨ x.k = 4) ∧ IntIn x.d)
theorem numsG_one (x : Tk) (S : List Int) : numsG [x] S = if TagI x ∧ x.d ∉ S then S ++ [x.d] else S := by
  unfold numsG
  split <;> rfl
theorem numsG_take (f : List Tk) (k : Nat) (h : k < f.length) : numsG (f.take (k + 1)) [] = numsG [f[k]] (numsG (f.take k) []) := by
  rw [List.take_succ_eq_append_getElem h, numsG_app]
theorem numsG_len : ∀ (f : List Tk) (S : List Int), (numsG f S).length ≤ S.length + f.length
  | [], S => by simp [numsG]
  | x :: f, S => by
    unfold numsG
    split
    · have := numsG_len f (S ++ [x.d])
      simp at this ⊢
      omega
    · have := numsG_len f S
      simp
      omega

set_option maxRecDepth 100000 in
set_option maxHeartbeats 4000000 in
theorem numbers_any (f : List Tk) (v : Value) (w : World) (h : RdT w v f) (hl : f.length ≤ 100000) (hk : ∀ x ∈ f, KindOk x) :
    Calls Tryz.prog 110 #[v] w (RetOwn 3 intC 1 w (numsG f [])) := by
  obtain ⟨R, HRR⟩ : ∃ R, Hid (R = RetOwn 3 intC 1 w (numsG f [])) := ⟨_, rfl⟩
  rw [← HRR.out]
  obtain ⟨A, c, rfl, _, _⟩ := h.shape
  have HF := Lib.hid h
  have HK := Lib.hid hk
  have HM0 := Lib.hid (IntSet.made w)
  have HB0 := Lib.hid ((Below.refl w.heap.size w).alloc (Nat.le_refl _) (.map #[] 0))
  have hmm : (Instr.makeMap 223 none).run Tryz.prog w = .ok (.map (some w.heap.size)) (w.alloc (.map #[] 0)) := rfl
  clear h hk
  go_enter Tryz.func110, Tryz.ntmps110
  go_upto_region 3 with fail
  generalize hM : w.heap.size = M at HM0 ⊢
  generalize w.alloc (.map #[] 0) = w0 at HM0 HB0 ⊢
  have hMw : w.heap.size ≤ M := by omega
  clear hM hmm
  go_wp2_with fail
  go_loopg [3, 10] f.length (fun gk ov iv wr => ∃ k n : Nat, iv = .int .i64 k ∧ k ≤ f.length ∧ n ≤ k ∧ Hid (IntSet wr M n (numsG (f.take k) [])) ∧ Hid (OwnE 3 intC 1 wr w.heap.size ov (numsG (f.take k) [])) ∧ Hid (Below w.heap.size w wr) ∧ f.length - k ≤ gk)
  case atStart => exact ⟨0, 0, rfl, Nat.zero_le _, Nat.le_refl _, HM0.out, OwnE.nil, HB0.out, Nat.le_refl _⟩
  case round =>
    obtain ⟨k, n, rfl, hk, hn, HM, HO, HB, hgk⟩ := hrel
    clear HM0 HB0
    by_cases hlt : k < f.length
    · have hki := HK.out _ (List.getElem_mem hlt)
      obtain ⟨b, o, rfl, hb, c0, c1, c2⟩ := RdT.at_ (HF.out.below HB.out (Nat.le_refl _)) k hlt
      have HT := Lib.hid (numsG_take f k hlt)
      rw [numsG_one] at HT
      have hsl := numsG_len (f.take k) []
      have htk : (f.take k).length ≤ k := by simp; omega
      generalize f[k] = x at *
      obtain ⟨xk, xt, xd⟩ := x
      simp only at c0 c1 c2
      have HBA := Lib.hid ((Below.refl wr.heap.size wr).alloc (Nat.le_refl _) (.cells #[.int .i64 xk, .string xt, .int .i64 xd] 31))
      have hMl := HM.out.lt
      have hz := HB.out.size
      rcases hki with hk1 | ⟨hk2, hin⟩
      · have CT := Lib.hid (fun w => iTag_no xk xt xd w hk1)
        have hS : numsG (f.take (k + 1)) [] = numsG (f.take k) [] := by
          rw [HT.out, if_neg]
          rintro ⟨h1, _⟩
          rcases hk1 with h | h <;> rcases h1 with h1 | h1 | h1 <;> exact absurd (h.symm.trans h1) (by decide)
        have HS := Lib.hid hS
        clear hS HT
        generalize numsG (f.take k) [] = S0 at *
        go_wp2_with (go_at_call 76; refine (CT.out _).mono ?_; rintro e w1 ⟨rfl, hb1⟩; have HBW := Lib.hid (HBA.out.trans (hb1.mono HBA.out.size)); clear hb1)
        go_roundg (f.length - (k + 1))
        case measure => omega
        case rel =>
          refine ⟨k + 1, n, rfl, hlt, by omega, ?_, ?_, HB.out.trans (HBW.out.mono hz), Nat.le_refl _⟩
          · rw [HS.out]; exact HM.out.same (HBW.out.block M hMl)
          · rw [HS.out]; exact own_same HO.out fun j hj => HBW.out.block j (HO.out.lt j hj).2
      · have CT := Lib.hid (fun w => iTag_yes xk xt xd w hk2)
        by_cases hmem : xd ∈ numsG (f.take k) []
        · have hS : numsG (f.take (k + 1)) [] = numsG (f.take k) [] := by
            rw [HT.out, if_neg]
            rintro ⟨_, h2⟩
            exact h2 hmem
          have HS := Lib.hid hS
          clear hS HT
          generalize numsG (f.take k) [] = S0 at *
          go_wp2_with (go_at_call 76; refine (CT.out _).mono ?_; rintro e w1 ⟨rfl, hb1⟩; have HBW := Lib.hid (HBA.out.trans (hb1.mono HBA.out.size)); have e2 : w1.cell? ⟨wr.heap.size, 2, none⟩ = some (.int .i64 xd) := (hb1.cell (by simp)).trans (by go_simp); have hlk := (HM.out.same (HBW.out.block M hMl)).look xd hin; rw [decide_eq_true hmem] at hlk; clear hb1)
          go_roundg (f.length - (k + 1))
          case measure => omega
          case rel =>
            refine ⟨k + 1, n, rfl, hlt, by omega, ?_, ?_, HB.out.trans (HBW.out.mono hz), Nat.le_refl _⟩
            · rw [HS.out]; exact HM.out.same (HBW.out.block M hMl)
            · rw [HS.out]; exact own_same HO.out fun j hj => HBW.out.block j (HO.out.lt j hj).2
        · have hS : numsG (f.take (k + 1)) [] = numsG (f.take k) [] ++ [xd] := by
            rw [HT.out]
            exact if_pos ⟨hk2, hmem⟩
          have HS := Lib.hid hS
          have hSl : (numsG (f.take k) []).length ≤ 100000 := by simp at hsl; omega
          clear hS HT
          obtain ⟨A3, c3, rfl⟩ := own_shape HO.out
          generalize numsG (f.take k) [] = S0 at *
          go_wp2_with (first
            | (go_at_call 76; refine (CT.out _).mono ?_; rintro e w1 ⟨rfl, hb1⟩; have HBW := Lib.hid (HBA.out.trans (hb1.mono HBA.out.size)); have e2 : w1.cell? ⟨wr.heap.size, 2, none⟩ = some (.int .i64 xd) := (hb1.cell (by simp)).trans (by go_simp); have HM1 := Lib.hid (HM.out.same (HBW.out.block M hMl)); have hlk := HM1.out.look xd hin; rw [decide_eq_false hmem] at hlk; have HO1 := Lib.hid (own_same HO.out fun j hj => HBW.out.block j (HO.out.lt j hj).2); obtain ⟨w2, hup, hns, hgr⟩ := HM1.out.put xd hin (Nat.lt_of_le_of_lt (show n ≤ 100000 by omega) (by decide)); have HM2 : Hid (IntSet (w2.alloc (.cells #[.int .i64 xd] 3)) M (n + 1) (S0 ++ [xd])) := Lib.hid (hns.same (Below.heap_alloc w2 (.cells #[.int .i64 xd] 3) M hns.lt)); have hM2s : M < w2.heap.size := hns.lt; have HO2 := Lib.hid (own_same HO1.out fun j hj => hgr.block j (HO1.out.lt j hj).2 (fun e => HM1.out.apart HO1.out (by rw [hj]; exact e))); have e3 : w2.cell? ⟨wr.heap.size, 2, none⟩ = some (.int .i64 xd) := (World.cell?_of_block (w := w1) (hgr.block wr.heap.size (Nat.lt_of_lt_of_le (by simp) hb1.size) (fun e => by injection e with e; omega))).trans e2; have HB2 := Lib.hid ((HB.out.trans (HBW.out.mono hz)).grown hgr (Nat.le_trans hz HBW.out.size) (fun j hj => by injection hj with hj; omega)); clear hb1 hns hgr)
            | go_loud (at_builtin; refine wpList_appE rfl (.tmp 26) (.tmp 29) 22 3 rfl Tryz.underlying22 _ intC 1 8 int_infoB rfl (by decide) intC_one intC_oneN w.heap.size _ S0 rfl (by exact World.ownsRow.alloc HO2.out _) _ [xd] rfl (by exact rdE_oneR intC 1 intC_one _ _ rfl xd _) (by simp; omega) (by decide) (by have := HB2.out.size; simp; omega) ?_; intro v8 w8 hown8 hbel8 hgr8; have HO8 := Lib.hid hown8; have HB8 := Lib.hid (hbel8 w.heap.size w (Nat.le_refl _) (HB2.out.alloc HB2.out.size _)); have HM8 := Lib.hid (HM2.out.same (hgr8.block M HM2.out.lt (fun e => HM2.out.apart (World.ownsRow.alloc HO2.out (.cells #[.int .i64 xd] 3)) e.symm))); clear hown8 hbel8 hgr8))
          go_roundg (f.length - (k + 1))
          case measure => omega
          case rel =>
            refine ⟨k + 1, n + 1, rfl, hlt, by omega, ?_, ?_, HB8.out, Nat.le_refl _⟩
            · rw [HS.out]; exact HM8.out
            · rw [HS.out]; exact HO8.out
    · obtain rfl : k = f.length := by omega
      rw [List.take_length] at HO
      obtain ⟨A2, c2, rfl⟩ := own_shape HO.out
      go_wp2_with fail
      first | go_ret | skip
      rw [HRR.out]
      exact ⟨_, rfl, HO.out, HB.out⟩

end Go.Proofs.YtfkojnofbpdjdaaGreatDoor

namespace Go.Proofs.YtfkojnofbpdjdaaGreatDoor
set_option maxRecDepth 100000
open Go.RowKit

theorem int_infoZ : (Tryz.prog.info? 3).map (fun i => (i.zero, i.size, i.bytes)) = some (some (.int .i64 0), 1, 8) := by kernel_rfl
theorem cnt1_get (n i : Nat) (x : Int) (h : (cnt1 n)[i]? = some x) : i < n ∧ x = (i : Int) + 1 := by
  unfold cnt1 at h
  rw [List.getElem?_map] at h
  by_cases hi : i < n
  · rw [List.getElem?_range hi] at h
    simp at h
    exact ⟨hi, by omega⟩
  · rw [List.getElem?_eq_none (by simpa using hi)] at h
    cases h

set_option maxRecDepth 100000 in
set_option maxHeartbeats 4000000 in
theorem counting_any (n : Nat) (hn : n ≤ 100000) (w : World) :
    Calls Tryz.prog 112 #[.int .i64 n] w (fun e w' => ∃ v, e = .returned v ∧ RdE intC 1 w' v (cnt1 n) ∧ Below w.heap.size w w') := by
  obtain ⟨R, HRR⟩ : ∃ R : Ending → World → Prop, Hid (R = fun e w' => ∃ v, e = .returned v ∧ RdE intC 1 w' v (cnt1 n) ∧ Below w.heap.size w w') := ⟨_, rfl⟩
  rw [← HRR.out]
  have hmk := fun w => run_make_row' (P := Tryz.prog) 22 3 (.int .i64 0) 8 Tryz.underlying22 int_infoZ rfl .i64 .i64 n (by omega) (by omega) w
  go_enter Tryz.func112, Tryz.ntmps112
  go_wp2_with fail
  go_loopg [9] n (fun gk iv wr => ∃ k : Nat, iv = .int .i64 k ∧ k ≤ n ∧ Hid (wr.rowIs w.heap.size 3 n (fun j => .int .i64 (if j < k then (j : Int) + 1 else 0))) ∧ Hid (Below w.heap.size w wr) ∧ n - k ≤ gk)
  case atStart =>
    refine ⟨0, rfl, Nat.zero_le _, ?_, (Below.refl _ _).alloc (Nat.le_refl _) _, Nat.le_refl _⟩
    exact (World.rowIs_made w (.int .i64 0) n 3).congr fun j _ => rfl
  case round =>
    obtain ⟨k, rfl, hk, HR, HB, hgk⟩ := hrel
    by_cases hlt : k < n
    · have rf := HR.out.frozen k
      have r0 := HR.out.cell (i := k) hlt
      have HR2 := Lib.hid ((HR.out.set k (.int .i64 ((k : Int) + 1))).congr (g := fun j => .int .i64 (if j < k + 1 then (j : Int) + 1 else 0)) fun j _ => by
        by_cases h1 : j = k
        · rw [if_pos h1, h1, if_pos (Nat.lt_succ_self _)]
        · rw [if_neg h1]
          by_cases h2 : j < k
          · rw [if_pos h2, if_pos (by omega)]
          · rw [if_neg h2, if_neg (by omega)])
      have HB2 := Lib.hid (HB.out.setCell (p := ⟨w.heap.size, k, none⟩) (Nat.le_refl _) (.int .i64 ((k : Int) + 1)))
      go_wp2_with fail
      go_roundg (n - (k + 1))
      case measure => omega
      case rel => exact ⟨k + 1, rfl, hlt, HR2.out, HB2.out, Nat.le_refl _⟩
    · obtain rfl : k = n := by omega
      go_wp2_with fail
      first | go_ret | skip
      rw [HRR.out]
      refine ⟨_, rfl, ⟨some ⟨w.heap.size, 0, none⟩, k, by rw [cnt1_len]; rfl, by rw [cnt1_len]; exact Nat.le_refl _, (fun h => by cases h), fun _ => ⟨w.heap.size, 0, rfl, HR.out.lt, fun i x j u hi hj => ?_⟩⟩, HB.out⟩
      obtain ⟨h1, h2⟩ := cnt1_get _ _ _ hi
      have hj0 : j = 0 := by
        have := (List.getElem?_eq_some_iff.1 hj).1
        simpa [intC] using this
      subst hj0
      have := HR.out.cell (i := i) h1
      rw [if_pos h1] at this
      simp [intC] at hj
      rw [show 0 + (i * 1 + 0) = i by omega, this, ← hj, h2]

theorem rdInt_at {w : World} {A : Option Addr} {n c : Nat} {l : List Int} (h : RdE intC 1 w (.slice A n c) l) (k : Nat) (hk : k < l.length) : ∃ b o, A = some ⟨b, o, none⟩ ∧ b < w.heap.size ∧ w.cell? ⟨b, o + k, none⟩ = some (.int .i64 l[k]) := by
  obtain ⟨b, o, hA, hb, hx⟩ := RdE.cells h (by omega)
  refine ⟨b, o, hA, hb, ?_⟩
  have := hx k _ 0 _ (List.getElem?_eq_getElem hk) rfl
  simpa using this
theorem cnt1_at (n k : Nat) (h : k < (cnt1 n).length) : (cnt1 n)[k] = (k : Int) + 1 := (cnt1_get n k _ (List.getElem?_eq_getElem h)).2

def KindT (n : Nat) (x : Tk) : Prop := (x.k = 1 ∨ x.k = 5) ∨ ((x.k = 2 ∨ x.k = 3 ∨ x.k = 4) ∧ 1 ≤ x.d ∧ x.d ≤ (n : Int))

set_option maxRecDepth 100000 in
set_option maxHeartbeats 4000000 in
theorem rename_any (f : List Tk) (n : Nat) (v va vb : Value) (w : World) (h : RdT w v f) (ha : RdE intC 1 w va (cnt1 n)) (hb : RdE intC 1 w vb (cnt1 n)) (hl : f.length ≤ 100000) (hlw : lenI f ≤ 1000000) (hn : n ≤ 100000) (hk : ∀ x ∈ f, KindT n x) :
    Calls Tryz.prog 111 #[v, va, vb] w (RetOwn 31 tkC 3 w (normL f)) := by
  obtain ⟨R, HRR⟩ : ∃ R, Hid (R = RetOwn 31 tkC 3 w (normL f)) := ⟨_, rfl⟩
  rw [← HRR.out]
  obtain ⟨A, c, rfl, _, _⟩ := h.shape
  obtain ⟨A1, c1, rfl, _, _⟩ := ha.shape
  obtain ⟨A2, c2, rfl, _, _⟩ := hb.shape
  rw [cnt1_len]
  rw [cnt1_len] at ha hb
  have HF := Lib.hid h
  have HA := Lib.hid ha
  have HBB := Lib.hid hb
  have HK := Lib.hid hk
  have HM0 := Lib.hid (IdMap.made w (n : Int))
  have HB0 := Lib.hid ((Below.refl w.heap.size w).alloc (Nat.le_refl _) (.map #[] 0))
  have hmm : (Instr.makeMap 224 none).run Tryz.prog w = .ok (.map (some w.heap.size)) (w.alloc (.map #[] 0)) := rfl
  clear h hk ha hb
  go_enter Tryz.func111, Tryz.ntmps111
  go_upto_region 2 with fail
  generalize hM : w.heap.size = M at HM0 ⊢
  generalize w.alloc (.map #[] 0) = w0 at HM0 HB0 ⊢
  have hMw : w.heap.size ≤ M := by omega
  clear hM hmm
  go_wp2_with fail
  go_loopg [8] n (fun gk iv wr => ∃ j m : Nat, iv = .int .i64 ((j : Int) - 1) ∧ j ≤ n ∧ m + j ≤ n ∧ Hid (IdMap wr M m ((j : Int) + 1) n) ∧ Hid (Below w.heap.size w wr) ∧ j ≤ gk)
  case atStart => exact ⟨n, 0, rfl, Nat.le_refl _, by omega, HM0.out, HB0.out, Nat.le_refl _⟩
  case round =>
    obtain ⟨j, m, rfl, hj, hmj, HM, HB, hgk⟩ := hrel
    clear HM0 HB0
    cases j with
    | zero =>
      rw [show ((0 : Nat) : Int) + 1 = 1 from rfl] at HM
      go_wp2_with fail
      go_loopg [9, 36] f.length (fun gk ov iv wr => ∃ k : Nat, iv = .int .i64 k ∧ k ≤ f.length ∧ Hid (IdMap wr M m 1 n) ∧ Hid (OwnT 31 wr w.heap.size ov (f.take k)) ∧ Hid (Below w.heap.size w wr) ∧ f.length - k ≤ gk)
      case atStart => exact ⟨0, rfl, Nat.zero_le _, HM.out, OwnE.nil, HB.out, Nat.le_refl _⟩
      case round =>
        obtain ⟨k, rfl, hk, HM2, HO, HB2, hgk2⟩ := hrel
        clear HM HB
        by_cases hlt : k < f.length
        · have hki := HK.out _ (List.getElem_mem hlt)
          obtain ⟨b, o, rfl, hb, c0, c1, c2⟩ := RdT.at_ (HF.out.below HB2.out (Nat.le_refl _)) k hlt
          have HT : Hid (f.take (k + 1) = f.take k ++ [f[k]]) := List.take_succ_eq_append_getElem hlt
          have htk : (f.take k).length ≤ 100000 := by simp; omega
          generalize f[k] = x at *
          generalize f.take k = F0 at *
          obtain ⟨xk, xt, xd⟩ := x
          simp only at c0 c1 c2
          have HBA := Lib.hid ((Below.refl wr.heap.size wr).alloc (Nat.le_refl _) (.cells #[.int .i64 xk, .string xt, .int .i64 xd] 31))
          have hMl := HM2.out.lt
          have hz := HB2.out.size
          obtain ⟨A3, c3, rfl⟩ := own_shape HO.out
          rcases hki with hk1 | ⟨hk2, hd1, hd2⟩
          · have CT := Lib.hid (fun w => iTag_no xk xt xd w hk1)
            go_wp2_with (first
              | (go_at_call 76; refine (CT.out _).mono ?_; rintro e w1 ⟨rfl, hb1⟩; have HBW := Lib.hid (HBA.out.trans (hb1.mono HBA.out.size)); have e0 : w1.cell? ⟨wr.heap.size, 0, none⟩ = some (.int .i64 xk) := (hb1.cell (by simp)).trans (by go_simp); have e1 : w1.cell? ⟨wr.heap.size, 1, none⟩ = some (.string xt) := (hb1.cell (by simp)).trans (by go_simp); have e2 : w1.cell? ⟨wr.heap.size, 2, none⟩ = some (.int .i64 xd) := (hb1.cell (by simp)).trans (by go_simp); have HBX := Lib.hid (HBW.out); have HB1 := Lib.hid (HB2.out.trans (HBX.out.mono hz)); have HM1 : Hid (IdMap (w1.alloc (.cells (tkC ⟨xk, xt, xd⟩).toArray 31)) M m 1 n) := Lib.hid ((HM2.out.same (HBX.out.block M hMl)).same (Below.heap_alloc _ (.cells (tkC ⟨xk, xt, xd⟩).toArray 31) M (Nat.lt_of_lt_of_le hMl HBX.out.size))); have HO1 := Lib.hid (own_same HO.out fun j hj => HBX.out.block j (HO.out.lt j hj).2); clear hb1)
              | (at_builtin; refine wpList_appE rfl (.tmp 53) (.tmp 55) 24 31 rfl Tryz.underlying24 _ tkC 3 32 item_info rfl (by decide) tkC_three tkC_one w.heap.size _ F0 rfl (by exact World.ownsRow.alloc HO1.out _) _ [⟨xk, xt, xd⟩] rfl (by exact rdE_oneR tkC 3 tkC_three _ _ rfl ⟨xk, xt, xd⟩ _) (by simp; omega) (by decide) (by have := HB1.out.size; simp at this ⊢; omega) ?_; intro v8 w8 hown8 hbel8 hgr8; have HO8 := Lib.hid hown8; have HB8 := Lib.hid (hbel8 w.heap.size w (Nat.le_refl _) (HB1.out.alloc HB1.out.size _)); have HM8 := Lib.hid (HM1.out.same (hgr8.block M HM1.out.lt (fun e => HM1.out.apart (World.ownsRow.alloc HO1.out (.cells (tkC ⟨xk, xt, xd⟩).toArray 31)) e.symm))); clear hown8 hbel8 hgr8))
            go_roundg (f.length - (k + 1))
            case measure => omega
            case rel =>
              refine ⟨k + 1, rfl, hlt, HM8.out.same rfl, ?_, HB8.out, Nat.le_refl _⟩
              rw [HT.out]; exact HO8.out
          · have CT := Lib.hid (fun w => iTag_yes xk xt xd w hk2)
            have hd1 : 1 ≤ xd := hd1
            have hd2 : xd ≤ (n : Int) := hd2
            have hin : IntIn xd := by unfold IntIn; omega
            go_wp2_with (first
              | (go_at_call 76; refine (CT.out _).mono ?_; rintro e w1 ⟨rfl, hb1⟩; have HBW := Lib.hid (HBA.out.trans (hb1.mono HBA.out.size)); have e0 : w1.cell? ⟨wr.heap.size, 0, none⟩ = some (.int .i64 xk) := (hb1.cell (by simp)).trans (by go_simp); have e1 : w1.cell? ⟨wr.heap.size, 1, none⟩ = some (.string xt) := (hb1.cell (by simp)).trans (by go_simp); have e2 : w1.cell? ⟨wr.heap.size, 2, none⟩ = some (.int .i64 xd) := (hb1.cell (by simp)).trans (by go_simp); have fr2 : w1.frozen? ⟨wr.heap.size, 2, none⟩ = false := (hb1.frozen (by simp)).trans (by go_simp); have hlk := (HM2.out.same (HBW.out.block M hMl)).look xd hin hd1 hd2; have HBX := Lib.hid (HBW.out.setCell (p := ⟨wr.heap.size, 2, none⟩) (Nat.le_refl _) (.int .i64 xd)); have HB1 := Lib.hid (HB2.out.trans (HBX.out.mono hz)); have HM1 : Hid (IdMap ((w1.setCell ⟨wr.heap.size, 2, none⟩ (.int .i64 xd)).alloc (.cells (tkC ⟨xk, xt, xd⟩).toArray 31)) M m 1 n) := Lib.hid ((HM2.out.same (HBX.out.block M hMl)).same (Below.heap_alloc _ (.cells (tkC ⟨xk, xt, xd⟩).toArray 31) M (Nat.lt_of_lt_of_le hMl HBX.out.size))); have HO1 := Lib.hid (own_same HO.out fun j hj => HBX.out.block j (HO.out.lt j hj).2); clear hb1)
              | (at_builtin; refine wpList_appE rfl (.tmp 53) (.tmp 55) 24 31 rfl Tryz.underlying24 _ tkC 3 32 item_info rfl (by decide) tkC_three tkC_one w.heap.size _ F0 rfl (by exact World.ownsRow.alloc HO1.out _) _ [⟨xk, xt, xd⟩] rfl (by exact rdE_oneR tkC 3 tkC_three _ _ (by simp [World.setCell]) ⟨xk, xt, xd⟩ _) (by simp; omega) (by decide) (by have := HB1.out.size; simp at this ⊢; omega) ?_; intro v8 w8 hown8 hbel8 hgr8; have HO8 := Lib.hid hown8; have HB8 := Lib.hid (hbel8 w.heap.size w (Nat.le_refl _) (HB1.out.alloc HB1.out.size _)); have HM8 := Lib.hid (HM1.out.same (hgr8.block M HM1.out.lt (fun e => HM1.out.apart (World.ownsRow.alloc HO1.out (.cells (tkC ⟨xk, xt, xd⟩).toArray 31)) e.symm))); clear hown8 hbel8 hgr8))
            go_roundg (f.length - (k + 1))
            case measure => omega
            case rel =>
              refine ⟨k + 1, rfl, hlt, HM8.out.same rfl, ?_, HB8.out, Nat.le_refl _⟩
              rw [HT.out]; exact HO8.out
        · obtain rfl : k = f.length := by omega
          rw [List.take_length] at HO
          have HNN := Lib.hid (norm_anyL f _ _ (HO.out.rd tkC_three) hl hlw)
          obtain ⟨A3, c3, rfl⟩ := own_shape HO.out
          have hz := HB2.out.size
          go_wp2_with (go_at_call 104; refine (HNN.out).mono ?_; rintro e w2 ⟨v2, rfl, ho2, hb2⟩; obtain ⟨A4, c4, rfl⟩ := own_shape ho2; have HO2 := Lib.hid (own_base ho2 hz); have HB3 := Lib.hid (HB2.out.trans (hb2.mono hz)); clear ho2 hb2)
          first | go_ret | skip
          rw [HRR.out]
          exact ⟨_, rfl, HO2.out, HB3.out⟩
    | succ j =>
      have hjn : j < (cnt1 n).length := by rw [cnt1_len]; omega
      obtain ⟨b1, o1, rfl, hb1, c1⟩ := rdInt_at (HA.out.below HB.out (Nat.le_refl _)) j hjn
      obtain ⟨b2, o2, rfl, hb2, c2⟩ := rdInt_at (HBB.out.below HB.out (Nat.le_refl _)) j hjn
      rw [cnt1_at] at c1 c2
      rw [show ((j + 1 : Nat) : Int) - 1 = (j : Int) by omega]
      have hin : IntIn ((j : Int) + 1) := by unfold IntIn; omega
      have HMX := HM.out
      rw [show (((j + 1 : Nat) : Int) + 1) = ((j : Int) + 1) + 1 by omega] at HMX
      have HMD : IdMap wr.drew M m (((j : Int) + 1) + 1) n := HMX.same rfl
      obtain ⟨w2, hup, hid2, hgr⟩ := HMD.put hin (Nat.lt_of_le_of_lt (show m ≤ 100000 by omega) (by decide))
      have HM3 := Lib.hid hid2
      have hz := HB.out.size
      have HB3 := Lib.hid (HB.out.drew.grown hgr hz (fun i hi => by injection hi with hi; omega))
      have hjn2 : j < n := by omega
      clear HMX HMD hid2 hgr
      go_wp2_with fail
      go_region
      all_goals (
        go_wp2_with fail
        go_roundg j
        case measure => omega
        case rel =>
          refine ⟨j, m + 1, rfl, by omega, by omega, HM3.out, HB3.out, Nat.le_refl _⟩)

end Go.Proofs.YtfkojnofbpdjdaaGreatDoor

namespace Go.Proofs.YtfkojnofbpdjdaaGreatDoor
set_option maxRecDepth 100000
open Go.RowKit

theorem KindT.ok {n : Nat} {x : Tk} (hn : n ≤ 100000) (h : KindT n x) : KindOk x := by
  rcases h with h | ⟨h, h1, h2⟩
  · exact .inl h
  · exact .inr ⟨h, by unfold IntIn; omega⟩

set_option maxRecDepth 100000 in
set_option maxHeartbeats 4000000 in
theorem renumber_any (f : List Tk) (n : Nat) (v : Value) (w : World) (h : RdT w v f) (hl : f.length ≤ 100000) (hlw : lenI f ≤ 1000000) (hn : n ≤ 100000) (hk : ∀ x ∈ f, KindT n x) (hnum : numsG f [] = cnt1 n) :
    Calls Tryz.prog 70 #[v] w (RetOwn 31 tkC 3 w (normL f)) := by
  have CN := Lib.hid (numbers_any f v w h hl fun x hx => (hk x hx).ok hn)
  rw [hnum] at CN
  obtain ⟨A, c, rfl, _, _⟩ := h.shape
  have HF := Lib.hid h
  have CC := Lib.hid (fun w => counting_any n hn w)
  have CR := Lib.hid (fun (va vb : Value) (w' : World) (h : RdT w' (.slice A f.length c) f) (ha : RdE intC 1 w' va (cnt1 n)) (hb : RdE intC 1 w' vb (cnt1 n)) => rename_any f n _ va vb w' h ha hb hl hlw hn hk)
  clear h hk hnum
  go_enter Tryz.func70, Tryz.ntmps70
  go_wp2_with (first
    | (go_at_call 110; refine (CN.out).mono ?_; rintro e w1 ⟨v1, rfl, ho1, hb1⟩; obtain ⟨A1, c1, rfl⟩ := own_shape ho1; have HO1 := Lib.hid (ho1.rd intC_one); have HB1 := Lib.hid hb1; rw [cnt1_len]; rw [cnt1_len] at HO1; clear ho1 hb1)
    | (go_at_call 112; refine (CC.out _).mono ?_; rintro e w2 ⟨v2, rfl, ho2, hb2⟩; obtain ⟨A2, c2, rfl, _, _⟩ := RdE.shape ho2; have HO2 := Lib.hid ho2; have HB2 := Lib.hid (HB1.out.trans (hb2.mono HB1.out.size)); have HO1b := Lib.hid (HO1.out.below hb2 (Nat.le_refl _)); clear ho2 hb2)
    | (go_at_call 111; refine (CR.out _ _ _ (by exact HF.out.below HB2.out (Nat.le_refl _)) (by exact HO1b.out) (by exact HO2.out)).mono ?_; rintro e w3 ⟨v3, rfl, ho3, hb3⟩; obtain ⟨A3, c3, rfl⟩ := own_shape ho3; have HO3 := Lib.hid (own_base ho3 HB2.out.size); have HB3 := Lib.hid (HB2.out.trans (hb3.mono HB2.out.size)); clear ho3 hb3))
  go_ret
  exact ⟨_, rfl, HO3.out, HB3.out⟩

end Go.Proofs.YtfkojnofbpdjdaaGreatDoor

namespace Go.Proofs.YtfkojnofbpdjdaaGreatDoor
set_option maxRecDepth 100000
open Go.RowKit

def SplOk (m fmt : Int) (data : ByteArray) (ps : List Pt) : Prop := ∀ w : World, w.cell? ⟨0, 0, none⟩ = some (.int .i64 m) → Calls Tryz.prog (splF fmt) #[.string data] w (PtsRet ps w)
def DecOk (m fmt : Int) (raw : ByteArray) (f : List Tk) : Prop := ∀ w : World, w.cell? ⟨0, 0, none⟩ = some (.int .i64 m) → Calls Tryz.prog (decFn fmt) #[.string raw] w (DecRet3 f w)
def CutOk (m fmt : Int) (raw : ByteArray) (l : List Int) : Prop := ∀ w : World, w.cell? ⟨0, 0, none⟩ = some (.int .i64 m) → Calls Tryz.prog (cutFn fmt) #[.string raw] w (CutRet l w)
def EncOk (m fmt : Int) (f : List Tk) (s : ByteArray) : Prop := ∀ (A : Option Addr) (c : Nat) (w : World), w.cell? ⟨0, 0, none⟩ = some (.int .i64 m) → RdT w (.slice A f.length c) f → Calls Tryz.prog (encFn fmt) #[.slice A f.length c] w (EncRet s w)

def ParRet (fmt : Int) (ps : List Pt) (w : World) (e : Ending) (w' : World) : Prop :=
  ∃ A c, e = .returned (.tuple #[.agg #[.int .i64 fmt, .slice A ps.length c], .int .i64 0, .int .i64 0]) ∧ OwnE 52 ptC 3 w' w.heap.size (.slice A ps.length c) ps ∧ Below w.heap.size w w'

theorem res_doc3 {fn : Func} {p u v : Tmp} (h : fn.results = #[.cell p 41, .tmp u, .tmp v]) (tmps : Array Value) (w : World) (g : Nat) (k : Int) (A : Option Addr) (n c : Nat) (x y : Value) (hp : tmps.getD p undef = .pointer (some ⟨g, 0, none⟩)) (hu : tmps.getD u undef = x) (hv : tmps.getD v undef = y)
    (c0 : w.cell? ⟨g, 0, none⟩ = some (.int .i64 k)) (c1 : w.cell? ⟨g, 1, none⟩ = some (.slice A n c)) :
    (results fn tmps).run Tryz.prog w = .ok (.tuple #[.agg #[.int .i64 k, .slice A n c], x, y]) w := by
  rw [results_cell_tmp2 h, hp, hu, hv]
  go_simp

set_option maxRecDepth 100000 in
set_option maxHeartbeats 4000000 in
theorem dparse_any (m fmt : Int) (hf : FmtOk fmt) (data : ByteArray) (ps : List Pt) (h : SplOk m fmt data ps) (w : World) (hm : w.cell? ⟨0, 0, none⟩ = some (.int .i64 m)) :
    Calls Tryz.prog 28 #[.int .i64 fmt, .string data] w (ParRet fmt ps w) := by
  have CK := Lib.hid (fun w => known_any fmt hf w)
  have CS := Lib.hid (fun w hm => split_any fmt hf data ps w (h w hm))
  have HM := Lib.hid hm
  have HA := Lib.hid ((Below.refl w.heap.size w).alloc (Nat.le_refl _) (.cells #[.int .i64 0, .slice none 0 0] 41))
  clear h hm
  go_enter Tryz.func28, Tryz.ntmps28
  go_wp2_with (first
    | (go_at_call 55; refine (CK.out _).mono ?_; rintro e w' ⟨rfl, rfl⟩)
    | (go_at_call 57; refine (CS.out _ (by exact below_cell0 HM.out HA.out)).mono ?_; rintro e w1 ⟨v, rfl, ho, hb⟩; obtain ⟨A, c, rfl⟩ := own_shape ho; have HO := Lib.hid ho; have HB := Lib.hid (HA.out.trans (hb.mono HA.out.size)); have q0 : w1.cell? ⟨w.heap.size, 0, none⟩ = some (.int .i64 0) := (hb.cell (by simp)).trans (by go_simp); have q1 : w1.cell? ⟨w.heap.size, 1, none⟩ = some (.slice none 0 0) := (hb.cell (by simp)).trans (by go_simp); have y0 : w1.frozen? ⟨w.heap.size, 0, none⟩ = false := (hb.frozen (by simp)).trans (by go_simp); have y1 : w1.frozen? ⟨w.heap.size, 1, none⟩ = false := (hb.frozen (by simp)).trans (by go_simp); clear hb ho))
  refine bodyPost_ret (res_doc3 rfl _ _ w.heap.size fmt A ps.length c _ _ rfl rfl rfl (by go_simp) (by go_simp)) rfl ?_
  refine ⟨A, c, rfl, own_base (own_same HO.out fun k hk => ?_) HA.out.size, (HB.out.setCell (p := ⟨w.heap.size, 0, none⟩) (Nat.le_refl _) _).setCell (p := ⟨w.heap.size, 1, none⟩) (Nat.le_refl _) _⟩
  have hk1 := (HO.out.lt k hk).1
  have hk2 : k ≠ w.heap.size := by
    intro e
    rw [e] at hk1
    simp at hk1
    omega
  rw [Below.heap_setCell _ _ _ _ hk2, Below.heap_setCell _ _ _ _ hk2]

end Go.Proofs.YtfkojnofbpdjdaaGreatDoor

namespace Go.Proofs.YtfkojnofbpdjdaaGreatDoor
set_option maxRecDepth 100000
open Go.RowKit

theorem ex_extract {P : Program} {w : World} {a : Act} {o : Oper} (x : Operand) (i : Nat) (vs : Array Value) (v : Value) (ho : o.op = .extract x i) (hx : a.eval x = .tuple vs) (hv : vs[i]? = some v) : (execOp a.eval o).run P w = .ok (.value v) w := by
  generalize a.eval = ρ at hx ⊢
  unfold execOp
  simp only [ho]
  go_simp
theorem ex_allocD {a : Act} {w : World} {o : Oper} (ho : o.op = .alloc 41) : (execOp a.eval o).run Tryz.prog w = .ok (.value (.pointer (some ⟨w.heap.size, 0, none⟩))) (w.alloc (.cells #[.int .i64 0, .slice none 0 0] 41)) := by
  unfold execOp
  simp only [ho]
  go_simp
theorem ex_buildD {a : Act} {w : World} {o : Oper} (x y : Operand) (k : Int) (A : Option Addr) (n c : Nat) (ho : o.op = .build 41 #[(0, x), (1, y)]) (hx : a.eval x = .int .i64 k) (hy : a.eval y = .slice A n c) : (execOp a.eval o).run Tryz.prog w = .ok (.value (.agg #[.int .i64 k, .slice A n c])) w := by
  generalize a.eval = ρ at hx hy ⊢
  unfold execOp
  simp only [ho]
  go_simp
theorem bx2 {w : World} {b : Nat} {v0 v1 : Value} {t : TypeId} (h : w.heap[b]? = some (.cells #[v0, v1] t)) :
    w.cell? ⟨b, 0, none⟩ = some v0 ∧ w.cell? ⟨b, 1, none⟩ = some v1 ∧ w.frozen? ⟨b, 0, none⟩ = false ∧ w.frozen? ⟨b, 1, none⟩ = false :=
  ⟨by rw [cell_of_row _ _ 0 _ _ _ h]; rfl, by rw [cell_of_row _ _ 1 _ _ _ h]; rfl, frozen_of_row w b 0 _ _ h, frozen_of_row w b 1 _ _ h⟩
theorem doc_size : (Tryz.prog.info? 41).map (·.size) = some 2 := by kernel_rfl
theorem wp_storeD {o : Oper} {a : Act} {w : World} {K : Act → World → Prop} {Q : Exit → Act → World → Prop} (x y : Operand) (ho : o.op = .store 41 x y) (hd : o.dst = none) (g : Nat) (k : Int) (A : Option Addr) (n c : Nat) (hx : a.eval x = .pointer (some ⟨g, 0, none⟩)) (hy : a.eval y = .agg #[.int .i64 k, .slice A n c])
    {v0 v1 : Value} (hb : w.heap[g]? = some (.cells #[v0, v1] 41)) (h : K a ((w.setCell ⟨g, 0, none⟩ (.int .i64 k)).setCell ⟨g, 1, none⟩ (.slice A n c))) : Oper.wp Tryz.prog o a w K Q := by
  obtain ⟨c0, c1, f0, f1⟩ := bx2 hb
  refine wp_store_mid 41 x y ho g 0 #[.int .i64 k, .slice A n c] hx hy (fun j hj => ?_) (by rw [doc_size]; rfl) (by rw [List.all_toArray]; rfl) ?_
  · rcases (show j = 0 ∨ j = 1 by simp at hj; omega) with rfl | rfl
    · exact ⟨by rw [c0]; rfl, f0⟩
    · exact ⟨by rw [c1]; rfl, f1⟩
  · rw [hd]
    exact h
theorem own_step {w w' : World} {B : Nat} {e : TypeId} {size n : Nat} {v : Value} {xs : List Value} (h : w.ownsRow B e size v n xs) (hb : Below w.heap.size w w') : w'.ownsRow B e size v n xs := own_same h fun k hk => hb.block k (h.lt k hk).2
theorem heap_lt {w : World} {g : Nat} {o : Obj} (h : w.heap[g]? = some o) : g < w.heap.size := (Array.getElem?_eq_some_iff.1 h).1
theorem heap_step {w w' : World} {g : Nat} {o : Obj} (h : w.heap[g]? = some o) (hb : Below w.heap.size w w') : w'.heap[g]? = some o := (hb.block g (heap_lt h)).trans h
theorem storeD_at {w : World} {g : Nat} {u0 u1 v0 v1 : Value} {t : TypeId} (h : w.heap[g]? = some (.cells #[v0, v1] t)) : ((w.setCell ⟨g, 0, none⟩ u0).setCell ⟨g, 1, none⟩ u1).heap[g]? = some (.cells #[u0, u1] t) := by
  have h1 := set_rw1 h 0 u0
  rw [set_rw1 h1 1 u1]
  rfl
theorem storeD_out {w : World} {g k : Nat} {u0 u1 : Value} (h : k ≠ g) : ((w.setCell ⟨g, 0, none⟩ u0).setCell ⟨g, 1, none⟩ u1).heap[k]? = w.heap[k]? := by
  rw [Below.heap_setCell _ _ _ _ h, Below.heap_setCell _ _ _ _ h]
theorem ldT_doc {w : World} {b : Nat} {k : Int} {A : Option Addr} {n c : Nat} (h0 : w.cell? ⟨b, 0, none⟩ = some (.int .i64 k)) (h1 : w.cell? ⟨b, 1, none⟩ = some (.slice A n c)) : (Instr.loadAt 41 (.pointer (some ⟨b, 0, none⟩))).run Tryz.prog w = .ok (.agg #[.int .i64 k, .slice A n c]) w := by
  go_simp
theorem ldT_parts {w : World} {b : Nat} {A : Option Addr} {n c : Nat} (h1 : w.cell? ⟨b, 1, none⟩ = some (.slice A n c)) : (Instr.loadAt 39 (.pointer (some ⟨b, 1, none⟩))).run Tryz.prog w = .ok (.slice A n c) w := by
  go_simp

end Go.Proofs.YtfkojnofbpdjdaaGreatDoor

namespace Go.Proofs.YtfkojnofbpdjdaaGreatDoor
set_option maxRecDepth 100000
open Go.RowKit

set_option maxRecDepth 100000 in
set_option maxHeartbeats 8000000 in
theorem dvalid_any (m fmt : Int) (hf : FmtOk fmt) (ps : List Pt) (hs : SplOk m fmt (ofL (bytesP ps)) ps) (A : Option Addr) (c : Nat) (w : World) (hm : w.cell? ⟨0, 0, none⟩ = some (.int .i64 m)) (h : RdE ptC 3 w (.slice A ps.length c) ps) (hl : ps.length ≤ 100000) (hsz : (bytesP ps).length ≤ 1000000) :
    Calls Tryz.prog 65 #[.agg #[.int .i64 fmt, .slice A ps.length c]] w (fun e w' => e = .returned (.int .i64 0) ∧ Below w.heap.size w w') := by
  have CK := Lib.hid (fun w => known_any fmt hf w)
  have CB := Lib.hid (fun (w' : World) (h : RdE ptC 3 w' (.slice A ps.length c) ps) => bytes_any fmt ps A c w' h hl hsz)
  have CP := Lib.hid (fun w hm => dparse_any m fmt hf (ofL (bytesP ps)) ps hs w hm)
  have CE := Lib.hid (fun (va vb : Value) (w' : World) (h1 : RdE ptC 3 w' va ps) (h2 : RdE ptC 3 w' vb ps) => equalP_any ps va vb w' h1 h2 (by omega))
  have HM := Lib.hid hm
  have HP := Lib.hid h
  have HB0 := Lib.hid (((Below.refl w.heap.size w).alloc (Nat.le_refl _) (.cells #[.int .i64 fmt, .slice A ps.length c] 41)).drew)
  have HX0 : Hid ((w.alloc (.cells #[.int .i64 fmt, .slice A ps.length c] 41)).drew.heap[w.heap.size]? = some (.cells #[.int .i64 fmt, .slice A ps.length c] 41)) := heap_alloc_new w _
  generalize ofL (bytesP ps) = data at *
  clear h hm hs
  go_enter Tryz.func65, Tryz.ntmps65
  go_wp2_with (first
    | (go_at_call 55; refine (CK.out _).mono ?_; rintro e w' ⟨rfl, rfl⟩))
  obtain ⟨g, hgx⟩ : ∃ g, Hid (w.heap.size = g) := ⟨_, rfl⟩
  rw [hgx.out] at HX0
  rw [hgx.out]
  have hgw : w.heap.size ≤ g := Nat.le_of_eq hgx.out
  refine wp_region_at 13 #[false, false, false, false, false, false, false, false, false, false, false, false, false] rfl rfl (by kernel_rfl) ?_
  generalize (w.alloc (.cells #[.int .i64 fmt, .slice A ps.length c] 41)).drew = W0 at HB0 HX0 ⊢
  refine wpAny_at (i := 0) (v := .pointer (some ⟨g, 0, none⟩)) (some 11) rfl rfl (by kernel_rfl) (by kernel_rfl) (by kernel_rfl) (fun _ _ _ h => h) (by kernel_rfl) (fun _ => ex_fieldAddr 41 _ 0 (.pointer (some ⟨g, 0, none⟩)) _ rfl (by kernel_rfl) (by go_simp)) ?_
  simp only [Act.put, List.setIfInBounds_toArray, List.set_cons_zero, List.set_cons_succ]
  refine wpAny_ops3 1 2 9 (by kernel_rfl) rfl rfl rfl (by kernel_rfl) (by kernel_rfl) (by kernel_rfl) ?_ ?_ ?_
  refine wp_of_val (v := .int .i64 fmt) (ex_load 3 _ (.pointer (some ⟨g, 0, none⟩)) _ rfl (by kernel_rfl) (ldT_int (bx2 HX0.out).1)) ?_
  simp only [Act.put, List.setIfInBounds_toArray, List.set_cons_zero, List.set_cons_succ]
  refine wpAny_two 2 9 (by kernel_rfl) rfl rfl (by kernel_rfl) (by kernel_rfl) ?_ ?_
  refine wp_of_val (v := .agg #[.int .i64 fmt, .slice A ps.length c]) (ex_load 41 _ (.pointer (some ⟨g, 0, none⟩)) _ rfl (by kernel_rfl) (ldT_doc (bx2 HX0.out).1 (bx2 HX0.out).2.1)) ?_
  simp only [Act.put, List.setIfInBounds_toArray, List.set_cons_zero, List.set_cons_succ]
  refine wpAny_two 3 9 (by kernel_rfl) rfl rfl (by kernel_rfl) (by kernel_rfl) ?_ ?_
  refine wp_of_call (ex_call1 (.tmp 13) _ (.agg #[.int .i64 fmt, .slice A ps.length c]) rfl (by kernel_rfl) (enters_of Tryz.func24 (by kernel_rfl) rfl _ _)) (CB.out W0 (RdE.below HP.out HB0.out (Nat.le_refl _))) ?_
  rintro e W1 ⟨rfl, hb⟩
  have HB1 := Lib.hid (HB0.out.trans (hb.mono HB0.out.size))
  have HX1 := Lib.hid (heap_step HX0.out hb)
  clear hb
  refine ⟨.string data, rfl, ?_⟩
  simp only [Act.put, List.setIfInBounds_toArray, List.set_cons_zero, List.set_cons_succ]
  refine wpAny_two 4 9 (by kernel_rfl) rfl rfl (by kernel_rfl) (by kernel_rfl) ?_ ?_
  refine wp_of_call (ex_call2 (.tmp 12) (.tmp 14) _ (.int .i64 fmt) (.string data) rfl (by kernel_rfl) (by kernel_rfl) (enters_of Tryz.func28 (by kernel_rfl) rfl _ _)) (CP.out W1 (below_cell0 HM.out HB1.out)) ?_
  rintro e W2 ⟨A2, c2, rfl, ho, hb⟩
  have HB2 := Lib.hid (HB1.out.trans (hb.mono HB1.out.size))
  have HX2 := Lib.hid (heap_step HX1.out hb)
  have HO2 := Lib.hid (own_base ho HB1.out.size)
  clear ho hb
  refine ⟨.tuple #[.agg #[.int .i64 fmt, .slice A2 ps.length c2], .int .i64 0, .int .i64 0], rfl, ?_⟩
  simp only [Act.put, List.setIfInBounds_toArray, List.set_cons_zero, List.set_cons_succ]
  refine wpAny_at (i := 5) (v := .tuple #[.agg #[.int .i64 fmt, .slice A2 ps.length c2], .int .i64 0, .int .i64 0]) (some 10) rfl rfl (by kernel_rfl) (by kernel_rfl) (by kernel_rfl) (fun _ _ _ h => h) (by kernel_rfl) (fun _ => ex_move _ _ rfl (by kernel_rfl)) ?_
  simp only [Act.put, List.setIfInBounds_toArray, List.set_cons_zero, List.set_cons_succ]
  refine wpAny_at (i := 6) (v := .agg #[.int .i64 fmt, .slice A2 ps.length c2]) (some 16) rfl rfl (by kernel_rfl) (by kernel_rfl) (by kernel_rfl) (fun _ _ _ h => h) (by kernel_rfl) (fun _ => ex_extract _ 0 #[.agg #[.int .i64 fmt, .slice A2 ps.length c2], .int .i64 0, .int .i64 0] (.agg #[.int .i64 fmt, .slice A2 ps.length c2]) rfl (by kernel_rfl) rfl) ?_
  simp only [Act.put, List.setIfInBounds_toArray, List.set_cons_zero, List.set_cons_succ]
  refine wpAny_at (i := 7) (v := .int .i64 0) (some 17) rfl rfl (by kernel_rfl) (by kernel_rfl) (by kernel_rfl) (fun _ _ _ h => h) (by kernel_rfl) (fun _ => ex_extract _ 1 #[.agg #[.int .i64 fmt, .slice A2 ps.length c2], .int .i64 0, .int .i64 0] (.int .i64 0) rfl (by kernel_rfl) rfl) ?_
  simp only [Act.put, List.setIfInBounds_toArray, List.set_cons_zero, List.set_cons_succ]
  refine wpAny_at (i := 8) (v := .int .i64 0) (some 18) rfl rfl (by kernel_rfl) (by kernel_rfl) (by kernel_rfl) (fun _ _ _ h => h) (by kernel_rfl) (fun _ => ex_extract _ 2 #[.agg #[.int .i64 fmt, .slice A2 ps.length c2], .int .i64 0, .int .i64 0] (.int .i64 0) rfl (by kernel_rfl) rfl) ?_
  simp only [Act.put, List.setIfInBounds_toArray, List.set_cons_zero, List.set_cons_succ]
  refine wpAny_only 9 (by kernel_rfl) rfl (by kernel_rfl) ?_
  refine wp_of_valw (ex_allocD rfl) ?_
  have hal := (Below.refl W2.heap.size W2).alloc (Nat.le_refl _) (.cells #[.int .i64 0, .slice none 0 0] 41)
  have HB3 := Lib.hid (HB2.out.trans (hal.mono HB2.out.size))
  have HX3 := Lib.hid (heap_step HX2.out hal)
  have HO3 := Lib.hid (own_step HO2.out hal)
  have HG3 : Hid ((W2.alloc (.cells #[.int .i64 0, .slice none 0 0] 41)).heap[W2.heap.size]? = some (.cells #[.int .i64 0, .slice none 0 0] 41)) := heap_alloc_new W2 _
  have hg3 : g < W2.heap.size := heap_lt HX2.out
  clear hal
  generalize W2.heap.size = g3 at HG3 hg3 ⊢
  generalize W2.alloc (.cells #[.int .i64 0, .slice none 0 0] 41) = W3 at HB3 HX3 HG3 HO3 ⊢
  simp only [Act.put, List.setIfInBounds_toArray, List.set_cons_zero, List.set_cons_succ]
  refine wpAny_only 10 (by kernel_rfl) rfl (by kernel_rfl) ?_
  refine wp_storeD (.tmp 3) (.tmp 16) rfl rfl g3 fmt A2 ps.length c2 (by kernel_rfl) (by kernel_rfl) HG3.out ?_
  have HB4 := Lib.hid ((HB3.out.setCell (p := ⟨g3, 0, none⟩) (Nat.le_trans hgw (Nat.le_of_lt hg3)) (.int .i64 fmt)).setCell (p := ⟨g3, 1, none⟩) (Nat.le_trans hgw (Nat.le_of_lt hg3)) (.slice A2 ps.length c2))
  have HX4 := Lib.hid ((storeD_out (u0 := .int .i64 fmt) (u1 := .slice A2 ps.length c2) (Nat.ne_of_lt hg3)).trans HX3.out)
  have HG4 := Lib.hid (storeD_at (u0 := .int .i64 fmt) (u1 := .slice A2 ps.length c2) HG3.out)
  have HO4 := Lib.hid (own_same (w' := (W3.setCell ⟨g3, 0, none⟩ (.int .i64 fmt)).setCell ⟨g3, 1, none⟩ (.slice A2 ps.length c2)) HO3.out fun j hj => storeD_out (fun e => own_apart HO3.out HG3.out (by decide) j hj e))
  generalize (W3.setCell ⟨g3, 0, none⟩ (.int .i64 fmt)).setCell ⟨g3, 1, none⟩ (.slice A2 ps.length c2) = W4 at HB4 HX4 HG4 HO4 ⊢
  simp only [Act.put, List.setIfInBounds_toArray, List.set_cons_zero, List.set_cons_succ]
  refine wpAny_at (i := 11) (v := .int .i64 0) (some 4) rfl rfl (by kernel_rfl) (by kernel_rfl) (by kernel_rfl) (fun _ _ _ h => h) (by kernel_rfl) (fun _ => ex_assign _ _ rfl (by kernel_rfl)) ?_
  simp only [Act.put, List.setIfInBounds_toArray, List.set_cons_zero, List.set_cons_succ]
  refine wpAny_at (i := 12) (v := .int .i64 0) (some 5) rfl rfl (by kernel_rfl) (by kernel_rfl) (by kernel_rfl) (fun _ _ _ h => h) (by kernel_rfl) (fun _ => ex_assign _ _ rfl (by kernel_rfl)) ?_
  simp only [Act.put, List.setIfInBounds_toArray, List.set_cons_zero, List.set_cons_succ]
  refine wpAny_done (by kernel_rfl) ?_ _
  obtain ⟨x0, x1, _⟩ := bx2 HX4.out
  obtain ⟨z0, z1, _⟩ := bx2 HG4.out
  have HXB := HB4
  have HOB := Lib.hid (OwnE.rd ptC_three HO4.out)
  have CEE := Lib.hid (CE.out _ _ W4 HOB.out (RdE.below HP.out HB4.out (Nat.le_refl _)))
  rotate_left 1
  refine wp_of_valw (ex_allocD rfl) ?_
  have hal := (Below.refl W1.heap.size W1).alloc (Nat.le_refl _) (.cells #[.int .i64 0, .slice none 0 0] 41)
  have HB2 := Lib.hid (HB1.out.trans (hal.mono HB1.out.size))
  have HX2 := Lib.hid (heap_step HX1.out hal)
  have HG2 : Hid ((W1.alloc (.cells #[.int .i64 0, .slice none 0 0] 41)).heap[W1.heap.size]? = some (.cells #[.int .i64 0, .slice none 0 0] 41)) := heap_alloc_new W1 _
  have hg3 : g < W1.heap.size := heap_lt HX1.out
  clear hal
  generalize W1.heap.size = g3 at HG2 hg3 ⊢
  generalize W1.alloc (.cells #[.int .i64 0, .slice none 0 0] 41) = W2 at HB2 HX2 HG2 ⊢
  simp only [Act.put, List.setIfInBounds_toArray, List.set_cons_zero, List.set_cons_succ]
  refine wpAny_only 4 (by kernel_rfl) rfl (by kernel_rfl) ?_
  refine wp_of_call (ex_call2 (.tmp 12) (.tmp 14) _ (.int .i64 fmt) (.string data) rfl (by kernel_rfl) (by kernel_rfl) (enters_of Tryz.func28 (by kernel_rfl) rfl _ _)) (CP.out W2 (below_cell0 HM.out HB2.out)) ?_
  rintro e W3 ⟨A2, c2, rfl, ho, hb⟩
  have HB3 := Lib.hid (HB2.out.trans (hb.mono HB2.out.size))
  have HX3 := Lib.hid (heap_step HX2.out hb)
  have HG3 := Lib.hid (heap_step HG2.out hb)
  have HO3 := Lib.hid (own_base ho HB2.out.size)
  clear ho hb
  refine ⟨.tuple #[.agg #[.int .i64 fmt, .slice A2 ps.length c2], .int .i64 0, .int .i64 0], rfl, ?_⟩
  simp only [Act.put, List.setIfInBounds_toArray, List.set_cons_zero, List.set_cons_succ]
  refine wpAny_at (i := 5) (v := .tuple #[.agg #[.int .i64 fmt, .slice A2 ps.length c2], .int .i64 0, .int .i64 0]) (some 10) rfl rfl (by kernel_rfl) (by kernel_rfl) (by kernel_rfl) (fun _ _ _ h => h) (by kernel_rfl) (fun _ => ex_move _ _ rfl (by kernel_rfl)) ?_
  simp only [Act.put, List.setIfInBounds_toArray, List.set_cons_zero, List.set_cons_succ]
  refine wpAny_at (i := 6) (v := .agg #[.int .i64 fmt, .slice A2 ps.length c2]) (some 16) rfl rfl (by kernel_rfl) (by kernel_rfl) (by kernel_rfl) (fun _ _ _ h => h) (by kernel_rfl) (fun _ => ex_extract _ 0 #[.agg #[.int .i64 fmt, .slice A2 ps.length c2], .int .i64 0, .int .i64 0] (.agg #[.int .i64 fmt, .slice A2 ps.length c2]) rfl (by kernel_rfl) rfl) ?_
  simp only [Act.put, List.setIfInBounds_toArray, List.set_cons_zero, List.set_cons_succ]
  refine wpAny_at (i := 7) (v := .int .i64 0) (some 17) rfl rfl (by kernel_rfl) (by kernel_rfl) (by kernel_rfl) (fun _ _ _ h => h) (by kernel_rfl) (fun _ => ex_extract _ 1 #[.agg #[.int .i64 fmt, .slice A2 ps.length c2], .int .i64 0, .int .i64 0] (.int .i64 0) rfl (by kernel_rfl) rfl) ?_
  simp only [Act.put, List.setIfInBounds_toArray, List.set_cons_zero, List.set_cons_succ]
  refine wpAny_at (i := 8) (v := .int .i64 0) (some 18) rfl rfl (by kernel_rfl) (by kernel_rfl) (by kernel_rfl) (fun _ _ _ h => h) (by kernel_rfl) (fun _ => ex_extract _ 2 #[.agg #[.int .i64 fmt, .slice A2 ps.length c2], .int .i64 0, .int .i64 0] (.int .i64 0) rfl (by kernel_rfl) rfl) ?_
  simp only [Act.put, List.setIfInBounds_toArray, List.set_cons_zero, List.set_cons_succ]
  refine wpAny_only 10 (by kernel_rfl) rfl (by kernel_rfl) ?_
  refine wp_storeD (.tmp 3) (.tmp 16) rfl rfl g3 fmt A2 ps.length c2 (by kernel_rfl) (by kernel_rfl) HG3.out ?_
  have HB4 := Lib.hid ((HB3.out.setCell (p := ⟨g3, 0, none⟩) (Nat.le_trans hgw (Nat.le_of_lt hg3)) (.int .i64 fmt)).setCell (p := ⟨g3, 1, none⟩) (Nat.le_trans hgw (Nat.le_of_lt hg3)) (.slice A2 ps.length c2))
  have HX4 := Lib.hid ((storeD_out (u0 := .int .i64 fmt) (u1 := .slice A2 ps.length c2) (Nat.ne_of_lt hg3)).trans HX3.out)
  have HG4 := Lib.hid (storeD_at (u0 := .int .i64 fmt) (u1 := .slice A2 ps.length c2) HG3.out)
  have HO4 := Lib.hid (own_same (w' := (W3.setCell ⟨g3, 0, none⟩ (.int .i64 fmt)).setCell ⟨g3, 1, none⟩ (.slice A2 ps.length c2)) HO3.out fun j hj => storeD_out (fun e => own_apart HO3.out HG3.out (by decide) j hj e))
  generalize (W3.setCell ⟨g3, 0, none⟩ (.int .i64 fmt)).setCell ⟨g3, 1, none⟩ (.slice A2 ps.length c2) = W4 at HB4 HX4 HG4 HO4 ⊢
  simp only [Act.put, List.setIfInBounds_toArray, List.set_cons_zero, List.set_cons_succ]
  refine wpAny_at (i := 11) (v := .int .i64 0) (some 4) rfl rfl (by kernel_rfl) (by kernel_rfl) (by kernel_rfl) (fun _ _ _ h => h) (by kernel_rfl) (fun _ => ex_assign _ _ rfl (by kernel_rfl)) ?_
  simp only [Act.put, List.setIfInBounds_toArray, List.set_cons_zero, List.set_cons_succ]
  refine wpAny_at (i := 12) (v := .int .i64 0) (some 5) rfl rfl (by kernel_rfl) (by kernel_rfl) (by kernel_rfl) (fun _ _ _ h => h) (by kernel_rfl) (fun _ => ex_assign _ _ rfl (by kernel_rfl)) ?_
  simp only [Act.put, List.setIfInBounds_toArray, List.set_cons_zero, List.set_cons_succ]
  refine wpAny_done (by kernel_rfl) ?_ _
  obtain ⟨x0, x1, _⟩ := bx2 HX4.out
  obtain ⟨z0, z1, _⟩ := bx2 HG4.out
  have HXB := HB4
  have HOB := Lib.hid (OwnE.rd ptC_three HO4.out)
  have CEE := Lib.hid (CE.out _ _ W4 HOB.out (RdE.below HP.out HB4.out (Nat.le_refl _)))
  rotate_left 1
  refine wp_of_valw (ex_allocD rfl) ?_
  have hal := (Below.refl W0.heap.size W0).alloc (Nat.le_refl _) (.cells #[.int .i64 0, .slice none 0 0] 41)
  have HB1 := Lib.hid (HB0.out.trans (hal.mono HB0.out.size))
  have HX1 := Lib.hid (heap_step HX0.out hal)
  have HG1 : Hid ((W0.alloc (.cells #[.int .i64 0, .slice none 0 0] 41)).heap[W0.heap.size]? = some (.cells #[.int .i64 0, .slice none 0 0] 41)) := heap_alloc_new W0 _
  have hg3 : g < W0.heap.size := heap_lt HX0.out
  clear hal
  generalize W0.heap.size = g3 at HG1 hg3 ⊢
  generalize W0.alloc (.cells #[.int .i64 0, .slice none 0 0] 41) = W1 at HB1 HX1 HG1 ⊢
  simp only [Act.put, List.setIfInBounds_toArray, List.set_cons_zero, List.set_cons_succ]
  refine wpAny_only 3 (by kernel_rfl) rfl (by kernel_rfl) ?_
  refine wp_of_call (ex_call1 (.tmp 13) _ (.agg #[.int .i64 fmt, .slice A ps.length c]) rfl (by kernel_rfl) (enters_of Tryz.func24 (by kernel_rfl) rfl _ _)) (CB.out W1 (RdE.below HP.out HB1.out (Nat.le_refl _))) ?_
  rintro e W2 ⟨rfl, hb⟩
  have HB2 := Lib.hid (HB1.out.trans (hb.mono HB1.out.size))
  have HX2 := Lib.hid (heap_step HX1.out hb)
  have HG2 := Lib.hid (heap_step HG1.out hb)
  clear hb
  refine ⟨.string data, rfl, ?_⟩
  simp only [Act.put, List.setIfInBounds_toArray, List.set_cons_zero, List.set_cons_succ]
  refine wpAny_only 4 (by kernel_rfl) rfl (by kernel_rfl) ?_
  refine wp_of_call (ex_call2 (.tmp 12) (.tmp 14) _ (.int .i64 fmt) (.string data) rfl (by kernel_rfl) (by kernel_rfl) (enters_of Tryz.func28 (by kernel_rfl) rfl _ _)) (CP.out W2 (below_cell0 HM.out HB2.out)) ?_
  rintro e W3 ⟨A2, c2, rfl, ho, hb⟩
  have HB3 := Lib.hid (HB2.out.trans (hb.mono HB2.out.size))
  have HX3 := Lib.hid (heap_step HX2.out hb)
  have HG3 := Lib.hid (heap_step HG2.out hb)
  have HO3 := Lib.hid (own_base ho HB2.out.size)
  clear ho hb
  refine ⟨.tuple #[.agg #[.int .i64 fmt, .slice A2 ps.length c2], .int .i64 0, .int .i64 0], rfl, ?_⟩
  simp only [Act.put, List.setIfInBounds_toArray, List.set_cons_zero, List.set_cons_succ]
  refine wpAny_at (i := 5) (v := .tuple #[.agg #[.int .i64 fmt, .slice A2 ps.length c2], .int .i64 0, .int .i64 0]) (some 10) rfl rfl (by kernel_rfl) (by kernel_rfl) (by kernel_rfl) (fun _ _ _ h => h) (by kernel_rfl) (fun _ => ex_move _ _ rfl (by kernel_rfl)) ?_
  simp only [Act.put, List.setIfInBounds_toArray, List.set_cons_zero, List.set_cons_succ]
  refine wpAny_at (i := 6) (v := .agg #[.int .i64 fmt, .slice A2 ps.length c2]) (some 16) rfl rfl (by kernel_rfl) (by kernel_rfl) (by kernel_rfl) (fun _ _ _ h => h) (by kernel_rfl) (fun _ => ex_extract _ 0 #[.agg #[.int .i64 fmt, .slice A2 ps.length c2], .int .i64 0, .int .i64 0] (.agg #[.int .i64 fmt, .slice A2 ps.length c2]) rfl (by kernel_rfl) rfl) ?_
  simp only [Act.put, List.setIfInBounds_toArray, List.set_cons_zero, List.set_cons_succ]
  refine wpAny_at (i := 7) (v := .int .i64 0) (some 17) rfl rfl (by kernel_rfl) (by kernel_rfl) (by kernel_rfl) (fun _ _ _ h => h) (by kernel_rfl) (fun _ => ex_extract _ 1 #[.agg #[.int .i64 fmt, .slice A2 ps.length c2], .int .i64 0, .int .i64 0] (.int .i64 0) rfl (by kernel_rfl) rfl) ?_
  simp only [Act.put, List.setIfInBounds_toArray, List.set_cons_zero, List.set_cons_succ]
  refine wpAny_at (i := 8) (v := .int .i64 0) (some 18) rfl rfl (by kernel_rfl) (by kernel_rfl) (by kernel_rfl) (fun _ _ _ h => h) (by kernel_rfl) (fun _ => ex_extract _ 2 #[.agg #[.int .i64 fmt, .slice A2 ps.length c2], .int .i64 0, .int .i64 0] (.int .i64 0) rfl (by kernel_rfl) rfl) ?_
  simp only [Act.put, List.setIfInBounds_toArray, List.set_cons_zero, List.set_cons_succ]
  refine wpAny_only 10 (by kernel_rfl) rfl (by kernel_rfl) ?_
  refine wp_storeD (.tmp 3) (.tmp 16) rfl rfl g3 fmt A2 ps.length c2 (by kernel_rfl) (by kernel_rfl) HG3.out ?_
  have HB4 := Lib.hid ((HB3.out.setCell (p := ⟨g3, 0, none⟩) (Nat.le_trans hgw (Nat.le_of_lt hg3)) (.int .i64 fmt)).setCell (p := ⟨g3, 1, none⟩) (Nat.le_trans hgw (Nat.le_of_lt hg3)) (.slice A2 ps.length c2))
  have HX4 := Lib.hid ((storeD_out (u0 := .int .i64 fmt) (u1 := .slice A2 ps.length c2) (Nat.ne_of_lt hg3)).trans HX3.out)
  have HG4 := Lib.hid (storeD_at (u0 := .int .i64 fmt) (u1 := .slice A2 ps.length c2) HG3.out)
  have HO4 := Lib.hid (own_same (w' := (W3.setCell ⟨g3, 0, none⟩ (.int .i64 fmt)).setCell ⟨g3, 1, none⟩ (.slice A2 ps.length c2)) HO3.out fun j hj => storeD_out (fun e => own_apart HO3.out HG3.out (by decide) j hj e))
  generalize (W3.setCell ⟨g3, 0, none⟩ (.int .i64 fmt)).setCell ⟨g3, 1, none⟩ (.slice A2 ps.length c2) = W4 at HB4 HX4 HG4 HO4 ⊢
  simp only [Act.put, List.setIfInBounds_toArray, List.set_cons_zero, List.set_cons_succ]
  refine wpAny_at (i := 11) (v := .int .i64 0) (some 4) rfl rfl (by kernel_rfl) (by kernel_rfl) (by kernel_rfl) (fun _ _ _ h => h) (by kernel_rfl) (fun _ => ex_assign _ _ rfl (by kernel_rfl)) ?_
  simp only [Act.put, List.setIfInBounds_toArray, List.set_cons_zero, List.set_cons_succ]
  refine wpAny_at (i := 12) (v := .int .i64 0) (some 5) rfl rfl (by kernel_rfl) (by kernel_rfl) (by kernel_rfl) (fun _ _ _ h => h) (by kernel_rfl) (fun _ => ex_assign _ _ rfl (by kernel_rfl)) ?_
  simp only [Act.put, List.setIfInBounds_toArray, List.set_cons_zero, List.set_cons_succ]
  refine wpAny_done (by kernel_rfl) ?_ _
  obtain ⟨x0, x1, _⟩ := bx2 HX4.out
  obtain ⟨z0, z1, _⟩ := bx2 HG4.out
  have HXB := HB4
  have HOB := Lib.hid (OwnE.rd ptC_three HO4.out)
  have CEE := Lib.hid (CE.out _ _ W4 HOB.out (RdE.below HP.out HB4.out (Nat.le_refl _)))
  rotate_left 1
  refine wp_of_valw (ex_allocD rfl) ?_
  have hal := (Below.refl W0.heap.size W0).alloc (Nat.le_refl _) (.cells #[.int .i64 0, .slice none 0 0] 41)
  have HB1 := Lib.hid (HB0.out.trans (hal.mono HB0.out.size))
  have HX1 := Lib.hid (heap_step HX0.out hal)
  have HG1 : Hid ((W0.alloc (.cells #[.int .i64 0, .slice none 0 0] 41)).heap[W0.heap.size]? = some (.cells #[.int .i64 0, .slice none 0 0] 41)) := heap_alloc_new W0 _
  have hg3 : g < W0.heap.size := heap_lt HX0.out
  clear hal
  generalize W0.heap.size = g3 at HG1 hg3 ⊢
  generalize W0.alloc (.cells #[.int .i64 0, .slice none 0 0] 41) = W1 at HB1 HX1 HG1 ⊢
  simp only [Act.put, List.setIfInBounds_toArray, List.set_cons_zero, List.set_cons_succ]
  refine wpAny_only 2 (by kernel_rfl) rfl (by kernel_rfl) ?_
  refine wp_of_val (v := .agg #[.int .i64 fmt, .slice A ps.length c]) (ex_load 41 _ (.pointer (some ⟨g, 0, none⟩)) _ rfl (by kernel_rfl) (ldT_doc (bx2 HX1.out).1 (bx2 HX1.out).2.1)) ?_
  simp only [Act.put, List.setIfInBounds_toArray, List.set_cons_zero, List.set_cons_succ]
  refine wpAny_only 3 (by kernel_rfl) rfl (by kernel_rfl) ?_
  refine wp_of_call (ex_call1 (.tmp 13) _ (.agg #[.int .i64 fmt, .slice A ps.length c]) rfl (by kernel_rfl) (enters_of Tryz.func24 (by kernel_rfl) rfl _ _)) (CB.out W1 (RdE.below HP.out HB1.out (Nat.le_refl _))) ?_
  rintro e W2 ⟨rfl, hb⟩
  have HB2 := Lib.hid (HB1.out.trans (hb.mono HB1.out.size))
  have HX2 := Lib.hid (heap_step HX1.out hb)
  have HG2 := Lib.hid (heap_step HG1.out hb)
  clear hb
  refine ⟨.string data, rfl, ?_⟩
  simp only [Act.put, List.setIfInBounds_toArray, List.set_cons_zero, List.set_cons_succ]
  refine wpAny_only 4 (by kernel_rfl) rfl (by kernel_rfl) ?_
  refine wp_of_call (ex_call2 (.tmp 12) (.tmp 14) _ (.int .i64 fmt) (.string data) rfl (by kernel_rfl) (by kernel_rfl) (enters_of Tryz.func28 (by kernel_rfl) rfl _ _)) (CP.out W2 (below_cell0 HM.out HB2.out)) ?_
  rintro e W3 ⟨A2, c2, rfl, ho, hb⟩
  have HB3 := Lib.hid (HB2.out.trans (hb.mono HB2.out.size))
  have HX3 := Lib.hid (heap_step HX2.out hb)
  have HG3 := Lib.hid (heap_step HG2.out hb)
  have HO3 := Lib.hid (own_base ho HB2.out.size)
  clear ho hb
  refine ⟨.tuple #[.agg #[.int .i64 fmt, .slice A2 ps.length c2], .int .i64 0, .int .i64 0], rfl, ?_⟩
  simp only [Act.put, List.setIfInBounds_toArray, List.set_cons_zero, List.set_cons_succ]
  refine wpAny_at (i := 5) (v := .tuple #[.agg #[.int .i64 fmt, .slice A2 ps.length c2], .int .i64 0, .int .i64 0]) (some 10) rfl rfl (by kernel_rfl) (by kernel_rfl) (by kernel_rfl) (fun _ _ _ h => h) (by kernel_rfl) (fun _ => ex_move _ _ rfl (by kernel_rfl)) ?_
  simp only [Act.put, List.setIfInBounds_toArray, List.set_cons_zero, List.set_cons_succ]
  refine wpAny_at (i := 6) (v := .agg #[.int .i64 fmt, .slice A2 ps.length c2]) (some 16) rfl rfl (by kernel_rfl) (by kernel_rfl) (by kernel_rfl) (fun _ _ _ h => h) (by kernel_rfl) (fun _ => ex_extract _ 0 #[.agg #[.int .i64 fmt, .slice A2 ps.length c2], .int .i64 0, .int .i64 0] (.agg #[.int .i64 fmt, .slice A2 ps.length c2]) rfl (by kernel_rfl) rfl) ?_
  simp only [Act.put, List.setIfInBounds_toArray, List.set_cons_zero, List.set_cons_succ]
  refine wpAny_at (i := 7) (v := .int .i64 0) (some 17) rfl rfl (by kernel_rfl) (by kernel_rfl) (by kernel_rfl) (fun _ _ _ h => h) (by kernel_rfl) (fun _ => ex_extract _ 1 #[.agg #[.int .i64 fmt, .slice A2 ps.length c2], .int .i64 0, .int .i64 0] (.int .i64 0) rfl (by kernel_rfl) rfl) ?_
  simp only [Act.put, List.setIfInBounds_toArray, List.set_cons_zero, List.set_cons_succ]
  refine wpAny_at (i := 8) (v := .int .i64 0) (some 18) rfl rfl (by kernel_rfl) (by kernel_rfl) (by kernel_rfl) (fun _ _ _ h => h) (by kernel_rfl) (fun _ => ex_extract _ 2 #[.agg #[.int .i64 fmt, .slice A2 ps.length c2], .int .i64 0, .int .i64 0] (.int .i64 0) rfl (by kernel_rfl) rfl) ?_
  simp only [Act.put, List.setIfInBounds_toArray, List.set_cons_zero, List.set_cons_succ]
  refine wpAny_only 10 (by kernel_rfl) rfl (by kernel_rfl) ?_
  refine wp_storeD (.tmp 3) (.tmp 16) rfl rfl g3 fmt A2 ps.length c2 (by kernel_rfl) (by kernel_rfl) HG3.out ?_
  have HB4 := Lib.hid ((HB3.out.setCell (p := ⟨g3, 0, none⟩) (Nat.le_trans hgw (Nat.le_of_lt hg3)) (.int .i64 fmt)).setCell (p := ⟨g3, 1, none⟩) (Nat.le_trans hgw (Nat.le_of_lt hg3)) (.slice A2 ps.length c2))
  have HX4 := Lib.hid ((storeD_out (u0 := .int .i64 fmt) (u1 := .slice A2 ps.length c2) (Nat.ne_of_lt hg3)).trans HX3.out)
  have HG4 := Lib.hid (storeD_at (u0 := .int .i64 fmt) (u1 := .slice A2 ps.length c2) HG3.out)
  have HO4 := Lib.hid (own_same (w' := (W3.setCell ⟨g3, 0, none⟩ (.int .i64 fmt)).setCell ⟨g3, 1, none⟩ (.slice A2 ps.length c2)) HO3.out fun j hj => storeD_out (fun e => own_apart HO3.out HG3.out (by decide) j hj e))
  generalize (W3.setCell ⟨g3, 0, none⟩ (.int .i64 fmt)).setCell ⟨g3, 1, none⟩ (.slice A2 ps.length c2) = W4 at HB4 HX4 HG4 HO4 ⊢
  simp only [Act.put, List.setIfInBounds_toArray, List.set_cons_zero, List.set_cons_succ]
  refine wpAny_at (i := 11) (v := .int .i64 0) (some 4) rfl rfl (by kernel_rfl) (by kernel_rfl) (by kernel_rfl) (fun _ _ _ h => h) (by kernel_rfl) (fun _ => ex_assign _ _ rfl (by kernel_rfl)) ?_
  simp only [Act.put, List.setIfInBounds_toArray, List.set_cons_zero, List.set_cons_succ]
  refine wpAny_at (i := 12) (v := .int .i64 0) (some 5) rfl rfl (by kernel_rfl) (by kernel_rfl) (by kernel_rfl) (fun _ _ _ h => h) (by kernel_rfl) (fun _ => ex_assign _ _ rfl (by kernel_rfl)) ?_
  simp only [Act.put, List.setIfInBounds_toArray, List.set_cons_zero, List.set_cons_succ]
  refine wpAny_done (by kernel_rfl) ?_ _
  obtain ⟨x0, x1, _⟩ := bx2 HX4.out
  obtain ⟨z0, z1, _⟩ := bx2 HG4.out
  have HXB := HB4
  have HOB := Lib.hid (OwnE.rd ptC_three HO4.out)
  have CEE := Lib.hid (CE.out _ _ W4 HOB.out (RdE.below HP.out HB4.out (Nat.le_refl _)))
  rotate_left 1
  refine wp_of_val (v := .agg #[.int .i64 fmt, .slice A ps.length c]) (ex_load 41 _ (.pointer (some ⟨g, 0, none⟩)) _ rfl (by kernel_rfl) (ldT_doc (bx2 HX0.out).1 (bx2 HX0.out).2.1)) ?_
  simp only [Act.put, List.setIfInBounds_toArray, List.set_cons_zero, List.set_cons_succ]
  refine wpAny_ops3 1 3 9 (by kernel_rfl) rfl rfl rfl (by kernel_rfl) (by kernel_rfl) (by kernel_rfl) ?_ ?_ ?_
  refine wp_of_val (v := .int .i64 fmt) (ex_load 3 _ (.pointer (some ⟨g, 0, none⟩)) _ rfl (by kernel_rfl) (ldT_int (bx2 HX0.out).1)) ?_
  simp only [Act.put, List.setIfInBounds_toArray, List.set_cons_zero, List.set_cons_succ]
  refine wpAny_two 3 9 (by kernel_rfl) rfl rfl (by kernel_rfl) (by kernel_rfl) ?_ ?_
  refine wp_of_call (ex_call1 (.tmp 13) _ (.agg #[.int .i64 fmt, .slice A ps.length c]) rfl (by kernel_rfl) (enters_of Tryz.func24 (by kernel_rfl) rfl _ _)) (CB.out W0 (RdE.below HP.out HB0.out (Nat.le_refl _))) ?_
  rintro e W1 ⟨rfl, hb⟩
  have HB1 := Lib.hid (HB0.out.trans (hb.mono HB0.out.size))
  have HX1 := Lib.hid (heap_step HX0.out hb)
  clear hb
  refine ⟨.string data, rfl, ?_⟩
  simp only [Act.put, List.setIfInBounds_toArray, List.set_cons_zero, List.set_cons_succ]
  refine wpAny_two 4 9 (by kernel_rfl) rfl rfl (by kernel_rfl) (by kernel_rfl) ?_ ?_
  refine wp_of_call (ex_call2 (.tmp 12) (.tmp 14) _ (.int .i64 fmt) (.string data) rfl (by kernel_rfl) (by kernel_rfl) (enters_of Tryz.func28 (by kernel_rfl) rfl _ _)) (CP.out W1 (below_cell0 HM.out HB1.out)) ?_
  rintro e W2 ⟨A2, c2, rfl, ho, hb⟩
  have HB2 := Lib.hid (HB1.out.trans (hb.mono HB1.out.size))
  have HX2 := Lib.hid (heap_step HX1.out hb)
  have HO2 := Lib.hid (own_base ho HB1.out.size)
  clear ho hb
  refine ⟨.tuple #[.agg #[.int .i64 fmt, .slice A2 ps.length c2], .int .i64 0, .int .i64 0], rfl, ?_⟩
  simp only [Act.put, List.setIfInBounds_toArray, List.set_cons_zero, List.set_cons_succ]
  refine wpAny_at (i := 5) (v := .tuple #[.agg #[.int .i64 fmt, .slice A2 ps.length c2], .int .i64 0, .int .i64 0]) (some 10) rfl rfl (by kernel_rfl) (by kernel_rfl) (by kernel_rfl) (fun _ _ _ h => h) (by kernel_rfl) (fun _ => ex_move _ _ rfl (by kernel_rfl)) ?_
  simp only [Act.put, List.setIfInBounds_toArray, List.set_cons_zero, List.set_cons_succ]
  refine wpAny_at (i := 6) (v := .agg #[.int .i64 fmt, .slice A2 ps.length c2]) (some 16) rfl rfl (by kernel_rfl) (by kernel_rfl) (by kernel_rfl) (fun _ _ _ h => h) (by kernel_rfl) (fun _ => ex_extract _ 0 #[.agg #[.int .i64 fmt, .slice A2 ps.length c2], .int .i64 0, .int .i64 0] (.agg #[.int .i64 fmt, .slice A2 ps.length c2]) rfl (by kernel_rfl) rfl) ?_
  simp only [Act.put, List.setIfInBounds_toArray, List.set_cons_zero, List.set_cons_succ]
  refine wpAny_at (i := 7) (v := .int .i64 0) (some 17) rfl rfl (by kernel_rfl) (by kernel_rfl) (by kernel_rfl) (fun _ _ _ h => h) (by kernel_rfl) (fun _ => ex_extract _ 1 #[.agg #[.int .i64 fmt, .slice A2 ps.length c2], .int .i64 0, .int .i64 0] (.int .i64 0) rfl (by kernel_rfl) rfl) ?_
  simp only [Act.put, List.setIfInBounds_toArray, List.set_cons_zero, List.set_cons_succ]
  refine wpAny_at (i := 8) (v := .int .i64 0) (some 18) rfl rfl (by kernel_rfl) (by kernel_rfl) (by kernel_rfl) (fun _ _ _ h => h) (by kernel_rfl) (fun _ => ex_extract _ 2 #[.agg #[.int .i64 fmt, .slice A2 ps.length c2], .int .i64 0, .int .i64 0] (.int .i64 0) rfl (by kernel_rfl) rfl) ?_
  simp only [Act.put, List.setIfInBounds_toArray, List.set_cons_zero, List.set_cons_succ]
  refine wpAny_only 9 (by kernel_rfl) rfl (by kernel_rfl) ?_
  refine wp_of_valw (ex_allocD rfl) ?_
  have hal := (Below.refl W2.heap.size W2).alloc (Nat.le_refl _) (.cells #[.int .i64 0, .slice none 0 0] 41)
  have HB3 := Lib.hid (HB2.out.trans (hal.mono HB2.out.size))
  have HX3 := Lib.hid (heap_step HX2.out hal)
  have HO3 := Lib.hid (own_step HO2.out hal)
  have HG3 : Hid ((W2.alloc (.cells #[.int .i64 0, .slice none 0 0] 41)).heap[W2.heap.size]? = some (.cells #[.int .i64 0, .slice none 0 0] 41)) := heap_alloc_new W2 _
  have hg3 : g < W2.heap.size := heap_lt HX2.out
  clear hal
  generalize W2.heap.size = g3 at HG3 hg3 ⊢
  generalize W2.alloc (.cells #[.int .i64 0, .slice none 0 0] 41) = W3 at HB3 HX3 HG3 HO3 ⊢
  simp only [Act.put, List.setIfInBounds_toArray, List.set_cons_zero, List.set_cons_succ]
  refine wpAny_only 10 (by kernel_rfl) rfl (by kernel_rfl) ?_
  refine wp_storeD (.tmp 3) (.tmp 16) rfl rfl g3 fmt A2 ps.length c2 (by kernel_rfl) (by kernel_rfl) HG3.out ?_
  have HB4 := Lib.hid ((HB3.out.setCell (p := ⟨g3, 0, none⟩) (Nat.le_trans hgw (Nat.le_of_lt hg3)) (.int .i64 fmt)).setCell (p := ⟨g3, 1, none⟩) (Nat.le_trans hgw (Nat.le_of_lt hg3)) (.slice A2 ps.length c2))
  have HX4 := Lib.hid ((storeD_out (u0 := .int .i64 fmt) (u1 := .slice A2 ps.length c2) (Nat.ne_of_lt hg3)).trans HX3.out)
  have HG4 := Lib.hid (storeD_at (u0 := .int .i64 fmt) (u1 := .slice A2 ps.length c2) HG3.out)
  have HO4 := Lib.hid (own_same (w' := (W3.setCell ⟨g3, 0, none⟩ (.int .i64 fmt)).setCell ⟨g3, 1, none⟩ (.slice A2 ps.length c2)) HO3.out fun j hj => storeD_out (fun e => own_apart HO3.out HG3.out (by decide) j hj e))
  generalize (W3.setCell ⟨g3, 0, none⟩ (.int .i64 fmt)).setCell ⟨g3, 1, none⟩ (.slice A2 ps.length c2) = W4 at HB4 HX4 HG4 HO4 ⊢
  simp only [Act.put, List.setIfInBounds_toArray, List.set_cons_zero, List.set_cons_succ]
  refine wpAny_at (i := 11) (v := .int .i64 0) (some 4) rfl rfl (by kernel_rfl) (by kernel_rfl) (by kernel_rfl) (fun _ _ _ h => h) (by kernel_rfl) (fun _ => ex_assign _ _ rfl (by kernel_rfl)) ?_
  simp only [Act.put, List.setIfInBounds_toArray, List.set_cons_zero, List.set_cons_succ]
  refine wpAny_at (i := 12) (v := .int .i64 0) (some 5) rfl rfl (by kernel_rfl) (by kernel_rfl) (by kernel_rfl) (fun _ _ _ h => h) (by kernel_rfl) (fun _ => ex_assign _ _ rfl (by kernel_rfl)) ?_
  simp only [Act.put, List.setIfInBounds_toArray, List.set_cons_zero, List.set_cons_succ]
  refine wpAny_done (by kernel_rfl) ?_ _
  obtain ⟨x0, x1, _⟩ := bx2 HX4.out
  obtain ⟨z0, z1, _⟩ := bx2 HG4.out
  have HXB := HB4
  have HOB := Lib.hid (OwnE.rd ptC_three HO4.out)
  have CEE := Lib.hid (CE.out _ _ W4 HOB.out (RdE.below HP.out HB4.out (Nat.le_refl _)))
  rotate_left 1
  refine wp_of_valw (ex_allocD rfl) ?_
  have hal := (Below.refl W1.heap.size W1).alloc (Nat.le_refl _) (.cells #[.int .i64 0, .slice none 0 0] 41)
  have HB2 := Lib.hid (HB1.out.trans (hal.mono HB1.out.size))
  have HX2 := Lib.hid (heap_step HX1.out hal)
  have HG2 : Hid ((W1.alloc (.cells #[.int .i64 0, .slice none 0 0] 41)).heap[W1.heap.size]? = some (.cells #[.int .i64 0, .slice none 0 0] 41)) := heap_alloc_new W1 _
  have hg3 : g < W1.heap.size := heap_lt HX1.out
  clear hal
  generalize W1.heap.size = g3 at HG2 hg3 ⊢
  generalize W1.alloc (.cells #[.int .i64 0, .slice none 0 0] 41) = W2 at HB2 HX2 HG2 ⊢
  simp only [Act.put, List.setIfInBounds_toArray, List.set_cons_zero, List.set_cons_succ]
  refine wpAny_only 4 (by kernel_rfl) rfl (by kernel_rfl) ?_
  refine wp_of_call (ex_call2 (.tmp 12) (.tmp 14) _ (.int .i64 fmt) (.string data) rfl (by kernel_rfl) (by kernel_rfl) (enters_of Tryz.func28 (by kernel_rfl) rfl _ _)) (CP.out W2 (below_cell0 HM.out HB2.out)) ?_
  rintro e W3 ⟨A2, c2, rfl, ho, hb⟩
  have HB3 := Lib.hid (HB2.out.trans (hb.mono HB2.out.size))
  have HX3 := Lib.hid (heap_step HX2.out hb)
  have HG3 := Lib.hid (heap_step HG2.out hb)
  have HO3 := Lib.hid (own_base ho HB2.out.size)
  clear ho hb
  refine ⟨.tuple #[.agg #[.int .i64 fmt, .slice A2 ps.length c2], .int .i64 0, .int .i64 0], rfl, ?_⟩
  simp only [Act.put, List.setIfInBounds_toArray, List.set_cons_zero, List.set_cons_succ]
  refine wpAny_at (i := 5) (v := .tuple #[.agg #[.int .i64 fmt, .slice A2 ps.length c2], .int .i64 0, .int .i64 0]) (some 10) rfl rfl (by kernel_rfl) (by kernel_rfl) (by kernel_rfl) (fun _ _ _ h => h) (by kernel_rfl) (fun _ => ex_move _ _ rfl (by kernel_rfl)) ?_
  simp only [Act.put, List.setIfInBounds_toArray, List.set_cons_zero, List.set_cons_succ]
  refine wpAny_at (i := 6) (v := .agg #[.int .i64 fmt, .slice A2 ps.length c2]) (some 16) rfl rfl (by kernel_rfl) (by kernel_rfl) (by kernel_rfl) (fun _ _ _ h => h) (by kernel_rfl) (fun _ => ex_extract _ 0 #[.agg #[.int .i64 fmt, .slice A2 ps.length c2], .int .i64 0, .int .i64 0] (.agg #[.int .i64 fmt, .slice A2 ps.length c2]) rfl (by kernel_rfl) rfl) ?_
  simp only [Act.put, List.setIfInBounds_toArray, List.set_cons_zero, List.set_cons_succ]
  refine wpAny_at (i := 7) (v := .int .i64 0) (some 17) rfl rfl (by kernel_rfl) (by kernel_rfl) (by kernel_rfl) (fun _ _ _ h => h) (by kernel_rfl) (fun _ => ex_extract _ 1 #[.agg #[.int .i64 fmt, .slice A2 ps.length c2], .int .i64 0, .int .i64 0] (.int .i64 0) rfl (by kernel_rfl) rfl) ?_
  simp only [Act.put, List.setIfInBounds_toArray, List.set_cons_zero, List.set_cons_succ]
  refine wpAny_at (i := 8) (v := .int .i64 0) (some 18) rfl rfl (by kernel_rfl) (by kernel_rfl) (by kernel_rfl) (fun _ _ _ h => h) (by kernel_rfl) (fun _ => ex_extract _ 2 #[.agg #[.int .i64 fmt, .slice A2 ps.length c2], .int .i64 0, .int .i64 0] (.int .i64 0) rfl (by kernel_rfl) rfl) ?_
  simp only [Act.put, List.setIfInBounds_toArray, List.set_cons_zero, List.set_cons_succ]
  refine wpAny_only 10 (by kernel_rfl) rfl (by kernel_rfl) ?_
  refine wp_storeD (.tmp 3) (.tmp 16) rfl rfl g3 fmt A2 ps.length c2 (by kernel_rfl) (by kernel_rfl) HG3.out ?_
  have HB4 := Lib.hid ((HB3.out.setCell (p := ⟨g3, 0, none⟩) (Nat.le_trans hgw (Nat.le_of_lt hg3)) (.int .i64 fmt)).setCell (p := ⟨g3, 1, none⟩) (Nat.le_trans hgw (Nat.le_of_lt hg3)) (.slice A2 ps.length c2))
  have HX4 := Lib.hid ((storeD_out (u0 := .int .i64 fmt) (u1 := .slice A2 ps.length c2) (Nat.ne_of_lt hg3)).trans HX3.out)
  have HG4 := Lib.hid (storeD_at (u0 := .int .i64 fmt) (u1 := .slice A2 ps.length c2) HG3.out)
  have HO4 := Lib.hid (own_same (w' := (W3.setCell ⟨g3, 0, none⟩ (.int .i64 fmt)).setCell ⟨g3, 1, none⟩ (.slice A2 ps.length c2)) HO3.out fun j hj => storeD_out (fun e => own_apart HO3.out HG3.out (by decide) j hj e))
  generalize (W3.setCell ⟨g3, 0, none⟩ (.int .i64 fmt)).setCell ⟨g3, 1, none⟩ (.slice A2 ps.length c2) = W4 at HB4 HX4 HG4 HO4 ⊢
  simp only [Act.put, List.setIfInBounds_toArray, List.set_cons_zero, List.set_cons_succ]
  refine wpAny_at (i := 11) (v := .int .i64 0) (some 4) rfl rfl (by kernel_rfl) (by kernel_rfl) (by kernel_rfl) (fun _ _ _ h => h) (by kernel_rfl) (fun _ => ex_assign _ _ rfl (by kernel_rfl)) ?_
  simp only [Act.put, List.setIfInBounds_toArray, List.set_cons_zero, List.set_cons_succ]
  refine wpAny_at (i := 12) (v := .int .i64 0) (some 5) rfl rfl (by kernel_rfl) (by kernel_rfl) (by kernel_rfl) (fun _ _ _ h => h) (by kernel_rfl) (fun _ => ex_assign _ _ rfl (by kernel_rfl)) ?_
  simp only [Act.put, List.setIfInBounds_toArray, List.set_cons_zero, List.set_cons_succ]
  refine wpAny_done (by kernel_rfl) ?_ _
  obtain ⟨x0, x1, _⟩ := bx2 HX4.out
  obtain ⟨z0, z1, _⟩ := bx2 HG4.out
  have HXB := HB4
  have HOB := Lib.hid (OwnE.rd ptC_three HO4.out)
  have CEE := Lib.hid (CE.out _ _ W4 HOB.out (RdE.below HP.out HB4.out (Nat.le_refl _)))
  rotate_left 1
  refine wp_of_valw (ex_allocD rfl) ?_
  have hal := (Below.refl W0.heap.size W0).alloc (Nat.le_refl _) (.cells #[.int .i64 0, .slice none 0 0] 41)
  have HB1 := Lib.hid (HB0.out.trans (hal.mono HB0.out.size))
  have HX1 := Lib.hid (heap_step HX0.out hal)
  have HG1 : Hid ((W0.alloc (.cells #[.int .i64 0, .slice none 0 0] 41)).heap[W0.heap.size]? = some (.cells #[.int .i64 0, .slice none 0 0] 41)) := heap_alloc_new W0 _
  have hg3 : g < W0.heap.size := heap_lt HX0.out
  clear hal
  generalize W0.heap.size = g3 at HG1 hg3 ⊢
  generalize W0.alloc (.cells #[.int .i64 0, .slice none 0 0] 41) = W1 at HB1 HX1 HG1 ⊢
  simp only [Act.put, List.setIfInBounds_toArray, List.set_cons_zero, List.set_cons_succ]
  refine wpAny_only 3 (by kernel_rfl) rfl (by kernel_rfl) ?_
  refine wp_of_call (ex_call1 (.tmp 13) _ (.agg #[.int .i64 fmt, .slice A ps.length c]) rfl (by kernel_rfl) (enters_of Tryz.func24 (by kernel_rfl) rfl _ _)) (CB.out W1 (RdE.below HP.out HB1.out (Nat.le_refl _))) ?_
  rintro e W2 ⟨rfl, hb⟩
  have HB2 := Lib.hid (HB1.out.trans (hb.mono HB1.out.size))
  have HX2 := Lib.hid (heap_step HX1.out hb)
  have HG2 := Lib.hid (heap_step HG1.out hb)
  clear hb
  refine ⟨.string data, rfl, ?_⟩
  simp only [Act.put, List.setIfInBounds_toArray, List.set_cons_zero, List.set_cons_succ]
  refine wpAny_only 4 (by kernel_rfl) rfl (by kernel_rfl) ?_
  refine wp_of_call (ex_call2 (.tmp 12) (.tmp 14) _ (.int .i64 fmt) (.string data) rfl (by kernel_rfl) (by kernel_rfl) (enters_of Tryz.func28 (by kernel_rfl) rfl _ _)) (CP.out W2 (below_cell0 HM.out HB2.out)) ?_
  rintro e W3 ⟨A2, c2, rfl, ho, hb⟩
  have HB3 := Lib.hid (HB2.out.trans (hb.mono HB2.out.size))
  have HX3 := Lib.hid (heap_step HX2.out hb)
  have HG3 := Lib.hid (heap_step HG2.out hb)
  have HO3 := Lib.hid (own_base ho HB2.out.size)
  clear ho hb
  refine ⟨.tuple #[.agg #[.int .i64 fmt, .slice A2 ps.length c2], .int .i64 0, .int .i64 0], rfl, ?_⟩
  simp only [Act.put, List.setIfInBounds_toArray, List.set_cons_zero, List.set_cons_succ]
  refine wpAny_at (i := 5) (v := .tuple #[.agg #[.int .i64 fmt, .slice A2 ps.length c2], .int .i64 0, .int .i64 0]) (some 10) rfl rfl (by kernel_rfl) (by kernel_rfl) (by kernel_rfl) (fun _ _ _ h => h) (by kernel_rfl) (fun _ => ex_move _ _ rfl (by kernel_rfl)) ?_
  simp only [Act.put, List.setIfInBounds_toArray, List.set_cons_zero, List.set_cons_succ]
  refine wpAny_at (i := 6) (v := .agg #[.int .i64 fmt, .slice A2 ps.length c2]) (some 16) rfl rfl (by kernel_rfl) (by kernel_rfl) (by kernel_rfl) (fun _ _ _ h => h) (by kernel_rfl) (fun _ => ex_extract _ 0 #[.agg #[.int .i64 fmt, .slice A2 ps.length c2], .int .i64 0, .int .i64 0] (.agg #[.int .i64 fmt, .slice A2 ps.length c2]) rfl (by kernel_rfl) rfl) ?_
  simp only [Act.put, List.setIfInBounds_toArray, List.set_cons_zero, List.set_cons_succ]
  refine wpAny_at (i := 7) (v := .int .i64 0) (some 17) rfl rfl (by kernel_rfl) (by kernel_rfl) (by kernel_rfl) (fun _ _ _ h => h) (by kernel_rfl) (fun _ => ex_extract _ 1 #[.agg #[.int .i64 fmt, .slice A2 ps.length c2], .int .i64 0, .int .i64 0] (.int .i64 0) rfl (by kernel_rfl) rfl) ?_
  simp only [Act.put, List.setIfInBounds_toArray, List.set_cons_zero, List.set_cons_succ]
  refine wpAny_at (i := 8) (v := .int .i64 0) (some 18) rfl rfl (by kernel_rfl) (by kernel_rfl) (by kernel_rfl) (fun _ _ _ h => h) (by kernel_rfl) (fun _ => ex_extract _ 2 #[.agg #[.int .i64 fmt, .slice A2 ps.length c2], .int .i64 0, .int .i64 0] (.int .i64 0) rfl (by kernel_rfl) rfl) ?_
  simp only [Act.put, List.setIfInBounds_toArray, List.set_cons_zero, List.set_cons_succ]
  refine wpAny_only 10 (by kernel_rfl) rfl (by kernel_rfl) ?_
  refine wp_storeD (.tmp 3) (.tmp 16) rfl rfl g3 fmt A2 ps.length c2 (by kernel_rfl) (by kernel_rfl) HG3.out ?_
  have HB4 := Lib.hid ((HB3.out.setCell (p := ⟨g3, 0, none⟩) (Nat.le_trans hgw (Nat.le_of_lt hg3)) (.int .i64 fmt)).setCell (p := ⟨g3, 1, none⟩) (Nat.le_trans hgw (Nat.le_of_lt hg3)) (.slice A2 ps.length c2))
  have HX4 := Lib.hid ((storeD_out (u0 := .int .i64 fmt) (u1 := .slice A2 ps.length c2) (Nat.ne_of_lt hg3)).trans HX3.out)
  have HG4 := Lib.hid (storeD_at (u0 := .int .i64 fmt) (u1 := .slice A2 ps.length c2) HG3.out)
  have HO4 := Lib.hid (own_same (w' := (W3.setCell ⟨g3, 0, none⟩ (.int .i64 fmt)).setCell ⟨g3, 1, none⟩ (.slice A2 ps.length c2)) HO3.out fun j hj => storeD_out (fun e => own_apart HO3.out HG3.out (by decide) j hj e))
  generalize (W3.setCell ⟨g3, 0, none⟩ (.int .i64 fmt)).setCell ⟨g3, 1, none⟩ (.slice A2 ps.length c2) = W4 at HB4 HX4 HG4 HO4 ⊢
  simp only [Act.put, List.setIfInBounds_toArray, List.set_cons_zero, List.set_cons_succ]
  refine wpAny_at (i := 11) (v := .int .i64 0) (some 4) rfl rfl (by kernel_rfl) (by kernel_rfl) (by kernel_rfl) (fun _ _ _ h => h) (by kernel_rfl) (fun _ => ex_assign _ _ rfl (by kernel_rfl)) ?_
  simp only [Act.put, List.setIfInBounds_toArray, List.set_cons_zero, List.set_cons_succ]
  refine wpAny_at (i := 12) (v := .int .i64 0) (some 5) rfl rfl (by kernel_rfl) (by kernel_rfl) (by kernel_rfl) (fun _ _ _ h => h) (by kernel_rfl) (fun _ => ex_assign _ _ rfl (by kernel_rfl)) ?_
  simp only [Act.put, List.setIfInBounds_toArray, List.set_cons_zero, List.set_cons_succ]
  refine wpAny_done (by kernel_rfl) ?_ _
  obtain ⟨x0, x1, _⟩ := bx2 HX4.out
  obtain ⟨z0, z1, _⟩ := bx2 HG4.out
  have HXB := HB4
  have HOB := Lib.hid (OwnE.rd ptC_three HO4.out)
  have CEE := Lib.hid (CE.out _ _ W4 HOB.out (RdE.below HP.out HB4.out (Nat.le_refl _)))
  rotate_left 1
  refine wp_of_call (ex_call1 (.tmp 13) _ (.agg #[.int .i64 fmt, .slice A ps.length c]) rfl (by kernel_rfl) (enters_of Tryz.func24 (by kernel_rfl) rfl _ _)) (CB.out W0 (RdE.below HP.out HB0.out (Nat.le_refl _))) ?_
  rintro e W1 ⟨rfl, hb⟩
  have HB1 := Lib.hid (HB0.out.trans (hb.mono HB0.out.size))
  have HX1 := Lib.hid (heap_step HX0.out hb)
  clear hb
  refine ⟨.string data, rfl, ?_⟩
  simp only [Act.put, List.setIfInBounds_toArray, List.set_cons_zero, List.set_cons_succ]
  refine wpAny_two 1 9 (by kernel_rfl) rfl rfl (by kernel_rfl) (by kernel_rfl) ?_ ?_
  refine wp_of_val (v := .int .i64 fmt) (ex_load 3 _ (.pointer (some ⟨g, 0, none⟩)) _ rfl (by kernel_rfl) (ldT_int (bx2 HX1.out).1)) ?_
  simp only [Act.put, List.setIfInBounds_toArray, List.set_cons_zero, List.set_cons_succ]
  refine wpAny_two 4 9 (by kernel_rfl) rfl rfl (by kernel_rfl) (by kernel_rfl) ?_ ?_
  refine wp_of_call (ex_call2 (.tmp 12) (.tmp 14) _ (.int .i64 fmt) (.string data) rfl (by kernel_rfl) (by kernel_rfl) (enters_of Tryz.func28 (by kernel_rfl) rfl _ _)) (CP.out W1 (below_cell0 HM.out HB1.out)) ?_
  rintro e W2 ⟨A2, c2, rfl, ho, hb⟩
  have HB2 := Lib.hid (HB1.out.trans (hb.mono HB1.out.size))
  have HX2 := Lib.hid (heap_step HX1.out hb)
  have HO2 := Lib.hid (own_base ho HB1.out.size)
  clear ho hb
  refine ⟨.tuple #[.agg #[.int .i64 fmt, .slice A2 ps.length c2], .int .i64 0, .int .i64 0], rfl, ?_⟩
  simp only [Act.put, List.setIfInBounds_toArray, List.set_cons_zero, List.set_cons_succ]
  refine wpAny_at (i := 5) (v := .tuple #[.agg #[.int .i64 fmt, .slice A2 ps.length c2], .int .i64 0, .int .i64 0]) (some 10) rfl rfl (by kernel_rfl) (by kernel_rfl) (by kernel_rfl) (fun _ _ _ h => h) (by kernel_rfl) (fun _ => ex_move _ _ rfl (by kernel_rfl)) ?_
  simp only [Act.put, List.setIfInBounds_toArray, List.set_cons_zero, List.set_cons_succ]
  refine wpAny_at (i := 6) (v := .agg #[.int .i64 fmt, .slice A2 ps.length c2]) (some 16) rfl rfl (by kernel_rfl) (by kernel_rfl) (by kernel_rfl) (fun _ _ _ h => h) (by kernel_rfl) (fun _ => ex_extract _ 0 #[.agg #[.int .i64 fmt, .slice A2 ps.length c2], .int .i64 0, .int .i64 0] (.agg #[.int .i64 fmt, .slice A2 ps.length c2]) rfl (by kernel_rfl) rfl) ?_
  simp only [Act.put, List.setIfInBounds_toArray, List.set_cons_zero, List.set_cons_succ]
  refine wpAny_at (i := 7) (v := .int .i64 0) (some 17) rfl rfl (by kernel_rfl) (by kernel_rfl) (by kernel_rfl) (fun _ _ _ h => h) (by kernel_rfl) (fun _ => ex_extract _ 1 #[.agg #[.int .i64 fmt, .slice A2 ps.length c2], .int .i64 0, .int .i64 0] (.int .i64 0) rfl (by kernel_rfl) rfl) ?_
  simp only [Act.put, List.setIfInBounds_toArray, List.set_cons_zero, List.set_cons_succ]
  refine wpAny_at (i := 8) (v := .int .i64 0) (some 18) rfl rfl (by kernel_rfl) (by kernel_rfl) (by kernel_rfl) (fun _ _ _ h => h) (by kernel_rfl) (fun _ => ex_extract _ 2 #[.agg #[.int .i64 fmt, .slice A2 ps.length c2], .int .i64 0, .int .i64 0] (.int .i64 0) rfl (by kernel_rfl) rfl) ?_
  simp only [Act.put, List.setIfInBounds_toArray, List.set_cons_zero, List.set_cons_succ]
  refine wpAny_only 9 (by kernel_rfl) rfl (by kernel_rfl) ?_
  refine wp_of_valw (ex_allocD rfl) ?_
  have hal := (Below.refl W2.heap.size W2).alloc (Nat.le_refl _) (.cells #[.int .i64 0, .slice none 0 0] 41)
  have HB3 := Lib.hid (HB2.out.trans (hal.mono HB2.out.size))
  have HX3 := Lib.hid (heap_step HX2.out hal)
  have HO3 := Lib.hid (own_step HO2.out hal)
  have HG3 : Hid ((W2.alloc (.cells #[.int .i64 0, .slice none 0 0] 41)).heap[W2.heap.size]? = some (.cells #[.int .i64 0, .slice none 0 0] 41)) := heap_alloc_new W2 _
  have hg3 : g < W2.heap.size := heap_lt HX2.out
  clear hal
  generalize W2.heap.size = g3 at HG3 hg3 ⊢
  generalize W2.alloc (.cells #[.int .i64 0, .slice none 0 0] 41) = W3 at HB3 HX3 HG3 HO3 ⊢
  simp only [Act.put, List.setIfInBounds_toArray, List.set_cons_zero, List.set_cons_succ]
  refine wpAny_only 10 (by kernel_rfl) rfl (by kernel_rfl) ?_
  refine wp_storeD (.tmp 3) (.tmp 16) rfl rfl g3 fmt A2 ps.length c2 (by kernel_rfl) (by kernel_rfl) HG3.out ?_
  have HB4 := Lib.hid ((HB3.out.setCell (p := ⟨g3, 0, none⟩) (Nat.le_trans hgw (Nat.le_of_lt hg3)) (.int .i64 fmt)).setCell (p := ⟨g3, 1, none⟩) (Nat.le_trans hgw (Nat.le_of_lt hg3)) (.slice A2 ps.length c2))
  have HX4 := Lib.hid ((storeD_out (u0 := .int .i64 fmt) (u1 := .slice A2 ps.length c2) (Nat.ne_of_lt hg3)).trans HX3.out)
  have HG4 := Lib.hid (storeD_at (u0 := .int .i64 fmt) (u1 := .slice A2 ps.length c2) HG3.out)
  have HO4 := Lib.hid (own_same (w' := (W3.setCell ⟨g3, 0, none⟩ (.int .i64 fmt)).setCell ⟨g3, 1, none⟩ (.slice A2 ps.length c2)) HO3.out fun j hj => storeD_out (fun e => own_apart HO3.out HG3.out (by decide) j hj e))
  generalize (W3.setCell ⟨g3, 0, none⟩ (.int .i64 fmt)).setCell ⟨g3, 1, none⟩ (.slice A2 ps.length c2) = W4 at HB4 HX4 HG4 HO4 ⊢
  simp only [Act.put, List.setIfInBounds_toArray, List.set_cons_zero, List.set_cons_succ]
  refine wpAny_at (i := 11) (v := .int .i64 0) (some 4) rfl rfl (by kernel_rfl) (by kernel_rfl) (by kernel_rfl) (fun _ _ _ h => h) (by kernel_rfl) (fun _ => ex_assign _ _ rfl (by kernel_rfl)) ?_
  simp only [Act.put, List.setIfInBounds_toArray, List.set_cons_zero, List.set_cons_succ]
  refine wpAny_at (i := 12) (v := .int .i64 0) (some 5) rfl rfl (by kernel_rfl) (by kernel_rfl) (by kernel_rfl) (fun _ _ _ h => h) (by kernel_rfl) (fun _ => ex_assign _ _ rfl (by kernel_rfl)) ?_
  simp only [Act.put, List.setIfInBounds_toArray, List.set_cons_zero, List.set_cons_succ]
  refine wpAny_done (by kernel_rfl) ?_ _
  obtain ⟨x0, x1, _⟩ := bx2 HX4.out
  obtain ⟨z0, z1, _⟩ := bx2 HG4.out
  have HXB := HB4
  have HOB := Lib.hid (OwnE.rd ptC_three HO4.out)
  have CEE := Lib.hid (CE.out _ _ W4 HOB.out (RdE.below HP.out HB4.out (Nat.le_refl _)))
  rotate_left 1
  refine wp_of_valw (ex_allocD rfl) ?_
  have hal := (Below.refl W1.heap.size W1).alloc (Nat.le_refl _) (.cells #[.int .i64 0, .slice none 0 0] 41)
  have HB2 := Lib.hid (HB1.out.trans (hal.mono HB1.out.size))
  have HX2 := Lib.hid (heap_step HX1.out hal)
  have HG2 : Hid ((W1.alloc (.cells #[.int .i64 0, .slice none 0 0] 41)).heap[W1.heap.size]? = some (.cells #[.int .i64 0, .slice none 0 0] 41)) := heap_alloc_new W1 _
  have hg3 : g < W1.heap.size := heap_lt HX1.out
  clear hal
  generalize W1.heap.size = g3 at HG2 hg3 ⊢
  generalize W1.alloc (.cells #[.int .i64 0, .slice none 0 0] 41) = W2 at HB2 HX2 HG2 ⊢
  simp only [Act.put, List.setIfInBounds_toArray, List.set_cons_zero, List.set_cons_succ]
  refine wpAny_only 4 (by kernel_rfl) rfl (by kernel_rfl) ?_
  refine wp_of_call (ex_call2 (.tmp 12) (.tmp 14) _ (.int .i64 fmt) (.string data) rfl (by kernel_rfl) (by kernel_rfl) (enters_of Tryz.func28 (by kernel_rfl) rfl _ _)) (CP.out W2 (below_cell0 HM.out HB2.out)) ?_
  rintro e W3 ⟨A2, c2, rfl, ho, hb⟩
  have HB3 := Lib.hid (HB2.out.trans (hb.mono HB2.out.size))
  have HX3 := Lib.hid (heap_step HX2.out hb)
  have HG3 := Lib.hid (heap_step HG2.out hb)
  have HO3 := Lib.hid (own_base ho HB2.out.size)
  clear ho hb
  refine ⟨.tuple #[.agg #[.int .i64 fmt, .slice A2 ps.length c2], .int .i64 0, .int .i64 0], rfl, ?_⟩
  simp only [Act.put, List.setIfInBounds_toArray, List.set_cons_zero, List.set_cons_succ]
  refine wpAny_at (i := 5) (v := .tuple #[.agg #[.int .i64 fmt, .slice A2 ps.length c2], .int .i64 0, .int .i64 0]) (some 10) rfl rfl (by kernel_rfl) (by kernel_rfl) (by kernel_rfl) (fun _ _ _ h => h) (by kernel_rfl) (fun _ => ex_move _ _ rfl (by kernel_rfl)) ?_
  simp only [Act.put, List.setIfInBounds_toArray, List.set_cons_zero, List.set_cons_succ]
  refine wpAny_at (i := 6) (v := .agg #[.int .i64 fmt, .slice A2 ps.length c2]) (some 16) rfl rfl (by kernel_rfl) (by kernel_rfl) (by kernel_rfl) (fun _ _ _ h => h) (by kernel_rfl) (fun _ => ex_extract _ 0 #[.agg #[.int .i64 fmt, .slice A2 ps.length c2], .int .i64 0, .int .i64 0] (.agg #[.int .i64 fmt, .slice A2 ps.length c2]) rfl (by kernel_rfl) rfl) ?_
  simp only [Act.put, List.setIfInBounds_toArray, List.set_cons_zero, List.set_cons_succ]
  refine wpAny_at (i := 7) (v := .int .i64 0) (some 17) rfl rfl (by kernel_rfl) (by kernel_rfl) (by kernel_rfl) (fun _ _ _ h => h) (by kernel_rfl) (fun _ => ex_extract _ 1 #[.agg #[.int .i64 fmt, .slice A2 ps.length c2], .int .i64 0, .int .i64 0] (.int .i64 0) rfl (by kernel_rfl) rfl) ?_
  simp only [Act.put, List.setIfInBounds_toArray, List.set_cons_zero, List.set_cons_succ]
  refine wpAny_at (i := 8) (v := .int .i64 0) (some 18) rfl rfl (by kernel_rfl) (by kernel_rfl) (by kernel_rfl) (fun _ _ _ h => h) (by kernel_rfl) (fun _ => ex_extract _ 2 #[.agg #[.int .i64 fmt, .slice A2 ps.length c2], .int .i64 0, .int .i64 0] (.int .i64 0) rfl (by kernel_rfl) rfl) ?_
  simp only [Act.put, List.setIfInBounds_toArray, List.set_cons_zero, List.set_cons_succ]
  refine wpAny_only 10 (by kernel_rfl) rfl (by kernel_rfl) ?_
  refine wp_storeD (.tmp 3) (.tmp 16) rfl rfl g3 fmt A2 ps.length c2 (by kernel_rfl) (by kernel_rfl) HG3.out ?_
  have HB4 := Lib.hid ((HB3.out.setCell (p := ⟨g3, 0, none⟩) (Nat.le_trans hgw (Nat.le_of_lt hg3)) (.int .i64 fmt)).setCell (p := ⟨g3, 1, none⟩) (Nat.le_trans hgw (Nat.le_of_lt hg3)) (.slice A2 ps.length c2))
  have HX4 := Lib.hid ((storeD_out (u0 := .int .i64 fmt) (u1 := .slice A2 ps.length c2) (Nat.ne_of_lt hg3)).trans HX3.out)
  have HG4 := Lib.hid (storeD_at (u0 := .int .i64 fmt) (u1 := .slice A2 ps.length c2) HG3.out)
  have HO4 := Lib.hid (own_same (w' := (W3.setCell ⟨g3, 0, none⟩ (.int .i64 fmt)).setCell ⟨g3, 1, none⟩ (.slice A2 ps.length c2)) HO3.out fun j hj => storeD_out (fun e => own_apart HO3.out HG3.out (by decide) j hj e))
  generalize (W3.setCell ⟨g3, 0, none⟩ (.int .i64 fmt)).setCell ⟨g3, 1, none⟩ (.slice A2 ps.length c2) = W4 at HB4 HX4 HG4 HO4 ⊢
  simp only [Act.put, List.setIfInBounds_toArray, List.set_cons_zero, List.set_cons_succ]
  refine wpAny_at (i := 11) (v := .int .i64 0) (some 4) rfl rfl (by kernel_rfl) (by kernel_rfl) (by kernel_rfl) (fun _ _ _ h => h) (by kernel_rfl) (fun _ => ex_assign _ _ rfl (by kernel_rfl)) ?_
  simp only [Act.put, List.setIfInBounds_toArray, List.set_cons_zero, List.set_cons_succ]
  refine wpAny_at (i := 12) (v := .int .i64 0) (some 5) rfl rfl (by kernel_rfl) (by kernel_rfl) (by kernel_rfl) (fun _ _ _ h => h) (by kernel_rfl) (fun _ => ex_assign _ _ rfl (by kernel_rfl)) ?_
  simp only [Act.put, List.setIfInBounds_toArray, List.set_cons_zero, List.set_cons_succ]
  refine wpAny_done (by kernel_rfl) ?_ _
  obtain ⟨x0, x1, _⟩ := bx2 HX4.out
  obtain ⟨z0, z1, _⟩ := bx2 HG4.out
  have HXB := HB4
  have HOB := Lib.hid (OwnE.rd ptC_three HO4.out)
  have CEE := Lib.hid (CE.out _ _ W4 HOB.out (RdE.below HP.out HB4.out (Nat.le_refl _)))
  rotate_left 1
  refine wp_of_valw (ex_allocD rfl) ?_
  have hal := (Below.refl W1.heap.size W1).alloc (Nat.le_refl _) (.cells #[.int .i64 0, .slice none 0 0] 41)
  have HB2 := Lib.hid (HB1.out.trans (hal.mono HB1.out.size))
  have HX2 := Lib.hid (heap_step HX1.out hal)
  have HG2 : Hid ((W1.alloc (.cells #[.int .i64 0, .slice none 0 0] 41)).heap[W1.heap.size]? = some (.cells #[.int .i64 0, .slice none 0 0] 41)) := heap_alloc_new W1 _
  have hg3 : g < W1.heap.size := heap_lt HX1.out
  clear hal
  generalize W1.heap.size = g3 at HG2 hg3 ⊢
  generalize W1.alloc (.cells #[.int .i64 0, .slice none 0 0] 41) = W2 at HB2 HX2 HG2 ⊢
  simp only [Act.put, List.setIfInBounds_toArray, List.set_cons_zero, List.set_cons_succ]
  refine wpAny_only 1 (by kernel_rfl) rfl (by kernel_rfl) ?_
  refine wp_of_val (v := .int .i64 fmt) (ex_load 3 _ (.pointer (some ⟨g, 0, none⟩)) _ rfl (by kernel_rfl) (ldT_int (bx2 HX2.out).1)) ?_
  simp only [Act.put, List.setIfInBounds_toArray, List.set_cons_zero, List.set_cons_succ]
  refine wpAny_only 4 (by kernel_rfl) rfl (by kernel_rfl) ?_
  refine wp_of_call (ex_call2 (.tmp 12) (.tmp 14) _ (.int .i64 fmt) (.string data) rfl (by kernel_rfl) (by kernel_rfl) (enters_of Tryz.func28 (by kernel_rfl) rfl _ _)) (CP.out W2 (below_cell0 HM.out HB2.out)) ?_
  rintro e W3 ⟨A2, c2, rfl, ho, hb⟩
  have HB3 := Lib.hid (HB2.out.trans (hb.mono HB2.out.size))
  have HX3 := Lib.hid (heap_step HX2.out hb)
  have HG3 := Lib.hid (heap_step HG2.out hb)
  have HO3 := Lib.hid (own_base ho HB2.out.size)
  clear ho hb
  refine ⟨.tuple #[.agg #[.int .i64 fmt, .slice A2 ps.length c2], .int .i64 0, .int .i64 0], rfl, ?_⟩
  simp only [Act.put, List.setIfInBounds_toArray, List.set_cons_zero, List.set_cons_succ]
  refine wpAny_at (i := 5) (v := .tuple #[.agg #[.int .i64 fmt, .slice A2 ps.length c2], .int .i64 0, .int .i64 0]) (some 10) rfl rfl (by kernel_rfl) (by kernel_rfl) (by kernel_rfl) (fun _ _ _ h => h) (by kernel_rfl) (fun _ => ex_move _ _ rfl (by kernel_rfl)) ?_
  simp only [Act.put, List.setIfInBounds_toArray, List.set_cons_zero, List.set_cons_succ]
  refine wpAny_at (i := 6) (v := .agg #[.int .i64 fmt, .slice A2 ps.length c2]) (some 16) rfl rfl (by kernel_rfl) (by kernel_rfl) (by kernel_rfl) (fun _ _ _ h => h) (by kernel_rfl) (fun _ => ex_extract _ 0 #[.agg #[.int .i64 fmt, .slice A2 ps.length c2], .int .i64 0, .int .i64 0] (.agg #[.int .i64 fmt, .slice A2 ps.length c2]) rfl (by kernel_rfl) rfl) ?_
  simp only [Act.put, List.setIfInBounds_toArray, List.set_cons_zero, List.set_cons_succ]
  refine wpAny_at (i := 7) (v := .int .i64 0) (some 17) rfl rfl (by kernel_rfl) (by kernel_rfl) (by kernel_rfl) (fun _ _ _ h => h) (by kernel_rfl) (fun _ => ex_extract _ 1 #[.agg #[.int .i64 fmt, .slice A2 ps.length c2], .int .i64 0, .int .i64 0] (.int .i64 0) rfl (by kernel_rfl) rfl) ?_
  simp only [Act.put, List.setIfInBounds_toArray, List.set_cons_zero, List.set_cons_succ]
  refine wpAny_at (i := 8) (v := .int .i64 0) (some 18) rfl rfl (by kernel_rfl) (by kernel_rfl) (by kernel_rfl) (fun _ _ _ h => h) (by kernel_rfl) (fun _ => ex_extract _ 2 #[.agg #[.int .i64 fmt, .slice A2 ps.length c2], .int .i64 0, .int .i64 0] (.int .i64 0) rfl (by kernel_rfl) rfl) ?_
  simp only [Act.put, List.setIfInBounds_toArray, List.set_cons_zero, List.set_cons_succ]
  refine wpAny_only 10 (by kernel_rfl) rfl (by kernel_rfl) ?_
  refine wp_storeD (.tmp 3) (.tmp 16) rfl rfl g3 fmt A2 ps.length c2 (by kernel_rfl) (by kernel_rfl) HG3.out ?_
  have HB4 := Lib.hid ((HB3.out.setCell (p := ⟨g3, 0, none⟩) (Nat.le_trans hgw (Nat.le_of_lt hg3)) (.int .i64 fmt)).setCell (p := ⟨g3, 1, none⟩) (Nat.le_trans hgw (Nat.le_of_lt hg3)) (.slice A2 ps.length c2))
  have HX4 := Lib.hid ((storeD_out (u0 := .int .i64 fmt) (u1 := .slice A2 ps.length c2) (Nat.ne_of_lt hg3)).trans HX3.out)
  have HG4 := Lib.hid (storeD_at (u0 := .int .i64 fmt) (u1 := .slice A2 ps.length c2) HG3.out)
  have HO4 := Lib.hid (own_same (w' := (W3.setCell ⟨g3, 0, none⟩ (.int .i64 fmt)).setCell ⟨g3, 1, none⟩ (.slice A2 ps.length c2)) HO3.out fun j hj => storeD_out (fun e => own_apart HO3.out HG3.out (by decide) j hj e))
  generalize (W3.setCell ⟨g3, 0, none⟩ (.int .i64 fmt)).setCell ⟨g3, 1, none⟩ (.slice A2 ps.length c2) = W4 at HB4 HX4 HG4 HO4 ⊢
  simp only [Act.put, List.setIfInBounds_toArray, List.set_cons_zero, List.set_cons_succ]
  refine wpAny_at (i := 11) (v := .int .i64 0) (some 4) rfl rfl (by kernel_rfl) (by kernel_rfl) (by kernel_rfl) (fun _ _ _ h => h) (by kernel_rfl) (fun _ => ex_assign _ _ rfl (by kernel_rfl)) ?_
  simp only [Act.put, List.setIfInBounds_toArray, List.set_cons_zero, List.set_cons_succ]
  refine wpAny_at (i := 12) (v := .int .i64 0) (some 5) rfl rfl (by kernel_rfl) (by kernel_rfl) (by kernel_rfl) (fun _ _ _ h => h) (by kernel_rfl) (fun _ => ex_assign _ _ rfl (by kernel_rfl)) ?_
  simp only [Act.put, List.setIfInBounds_toArray, List.set_cons_zero, List.set_cons_succ]
  refine wpAny_done (by kernel_rfl) ?_ _
  obtain ⟨x0, x1, _⟩ := bx2 HX4.out
  obtain ⟨z0, z1, _⟩ := bx2 HG4.out
  have HXB := HB4
  have HOB := Lib.hid (OwnE.rd ptC_three HO4.out)
  have CEE := Lib.hid (CE.out _ _ W4 HOB.out (RdE.below HP.out HB4.out (Nat.le_refl _)))
  rotate_left 1
  refine wp_of_valw (ex_allocD rfl) ?_
  have hal := (Below.refl W0.heap.size W0).alloc (Nat.le_refl _) (.cells #[.int .i64 0, .slice none 0 0] 41)
  have HB1 := Lib.hid (HB0.out.trans (hal.mono HB0.out.size))
  have HX1 := Lib.hid (heap_step HX0.out hal)
  have HG1 : Hid ((W0.alloc (.cells #[.int .i64 0, .slice none 0 0] 41)).heap[W0.heap.size]? = some (.cells #[.int .i64 0, .slice none 0 0] 41)) := heap_alloc_new W0 _
  have hg3 : g < W0.heap.size := heap_lt HX0.out
  clear hal
  generalize W0.heap.size = g3 at HG1 hg3 ⊢
  generalize W0.alloc (.cells #[.int .i64 0, .slice none 0 0] 41) = W1 at HB1 HX1 HG1 ⊢
  simp only [Act.put, List.setIfInBounds_toArray, List.set_cons_zero, List.set_cons_succ]
  refine wpAny_two 1 3 (by kernel_rfl) rfl rfl (by kernel_rfl) (by kernel_rfl) ?_ ?_
  refine wp_of_val (v := .int .i64 fmt) (ex_load 3 _ (.pointer (some ⟨g, 0, none⟩)) _ rfl (by kernel_rfl) (ldT_int (bx2 HX1.out).1)) ?_
  simp only [Act.put, List.setIfInBounds_toArray, List.set_cons_zero, List.set_cons_succ]
  refine wpAny_only 3 (by kernel_rfl) rfl (by kernel_rfl) ?_
  refine wp_of_call (ex_call1 (.tmp 13) _ (.agg #[.int .i64 fmt, .slice A ps.length c]) rfl (by kernel_rfl) (enters_of Tryz.func24 (by kernel_rfl) rfl _ _)) (CB.out W1 (RdE.below HP.out HB1.out (Nat.le_refl _))) ?_
  rintro e W2 ⟨rfl, hb⟩
  have HB2 := Lib.hid (HB1.out.trans (hb.mono HB1.out.size))
  have HX2 := Lib.hid (heap_step HX1.out hb)
  have HG2 := Lib.hid (heap_step HG1.out hb)
  clear hb
  refine ⟨.string data, rfl, ?_⟩
  simp only [Act.put, List.setIfInBounds_toArray, List.set_cons_zero, List.set_cons_succ]
  refine wpAny_only 4 (by kernel_rfl) rfl (by kernel_rfl) ?_
  refine wp_of_call (ex_call2 (.tmp 12) (.tmp 14) _ (.int .i64 fmt) (.string data) rfl (by kernel_rfl) (by kernel_rfl) (enters_of Tryz.func28 (by kernel_rfl) rfl _ _)) (CP.out W2 (below_cell0 HM.out HB2.out)) ?_
  rintro e W3 ⟨A2, c2, rfl, ho, hb⟩
  have HB3 := Lib.hid (HB2.out.trans (hb.mono HB2.out.size))
  have HX3 := Lib.hid (heap_step HX2.out hb)
  have HG3 := Lib.hid (heap_step HG2.out hb)
  have HO3 := Lib.hid (own_base ho HB2.out.size)
  clear ho hb
  refine ⟨.tuple #[.agg #[.int .i64 fmt, .slice A2 ps.length c2], .int .i64 0, .int .i64 0], rfl, ?_⟩
  simp only [Act.put, List.setIfInBounds_toArray, List.set_cons_zero, List.set_cons_succ]
  refine wpAny_at (i := 5) (v := .tuple #[.agg #[.int .i64 fmt, .slice A2 ps.length c2], .int .i64 0, .int .i64 0]) (some 10) rfl rfl (by kernel_rfl) (by kernel_rfl) (by kernel_rfl) (fun _ _ _ h => h) (by kernel_rfl) (fun _ => ex_move _ _ rfl (by kernel_rfl)) ?_
  simp only [Act.put, List.setIfInBounds_toArray, List.set_cons_zero, List.set_cons_succ]
  refine wpAny_at (i := 6) (v := .agg #[.int .i64 fmt, .slice A2 ps.length c2]) (some 16) rfl rfl (by kernel_rfl) (by kernel_rfl) (by kernel_rfl) (fun _ _ _ h => h) (by kernel_rfl) (fun _ => ex_extract _ 0 #[.agg #[.int .i64 fmt, .slice A2 ps.length c2], .int .i64 0, .int .i64 0] (.agg #[.int .i64 fmt, .slice A2 ps.length c2]) rfl (by kernel_rfl) rfl) ?_
  simp only [Act.put, List.setIfInBounds_toArray, List.set_cons_zero, List.set_cons_succ]
  refine wpAny_at (i := 7) (v := .int .i64 0) (some 17) rfl rfl (by kernel_rfl) (by kernel_rfl) (by kernel_rfl) (fun _ _ _ h => h) (by kernel_rfl) (fun _ => ex_extract _ 1 #[.agg #[.int .i64 fmt, .slice A2 ps.length c2], .int .i64 0, .int .i64 0] (.int .i64 0) rfl (by kernel_rfl) rfl) ?_
  simp only [Act.put, List.setIfInBounds_toArray, List.set_cons_zero, List.set_cons_succ]
  refine wpAny_at (i := 8) (v := .int .i64 0) (some 18) rfl rfl (by kernel_rfl) (by kernel_rfl) (by kernel_rfl) (fun _ _ _ h => h) (by kernel_rfl) (fun _ => ex_extract _ 2 #[.agg #[.int .i64 fmt, .slice A2 ps.length c2], .int .i64 0, .int .i64 0] (.int .i64 0) rfl (by kernel_rfl) rfl) ?_
  simp only [Act.put, List.setIfInBounds_toArray, List.set_cons_zero, List.set_cons_succ]
  refine wpAny_only 10 (by kernel_rfl) rfl (by kernel_rfl) ?_
  refine wp_storeD (.tmp 3) (.tmp 16) rfl rfl g3 fmt A2 ps.length c2 (by kernel_rfl) (by kernel_rfl) HG3.out ?_
  have HB4 := Lib.hid ((HB3.out.setCell (p := ⟨g3, 0, none⟩) (Nat.le_trans hgw (Nat.le_of_lt hg3)) (.int .i64 fmt)).setCell (p := ⟨g3, 1, none⟩) (Nat.le_trans hgw (Nat.le_of_lt hg3)) (.slice A2 ps.length c2))
  have HX4 := Lib.hid ((storeD_out (u0 := .int .i64 fmt) (u1 := .slice A2 ps.length c2) (Nat.ne_of_lt hg3)).trans HX3.out)
  have HG4 := Lib.hid (storeD_at (u0 := .int .i64 fmt) (u1 := .slice A2 ps.length c2) HG3.out)
  have HO4 := Lib.hid (own_same (w' := (W3.setCell ⟨g3, 0, none⟩ (.int .i64 fmt)).setCell ⟨g3, 1, none⟩ (.slice A2 ps.length c2)) HO3.out fun j hj => storeD_out (fun e => own_apart HO3.out HG3.out (by decide) j hj e))
  generalize (W3.setCell ⟨g3, 0, none⟩ (.int .i64 fmt)).setCell ⟨g3, 1, none⟩ (.slice A2 ps.length c2) = W4 at HB4 HX4 HG4 HO4 ⊢
  simp only [Act.put, List.setIfInBounds_toArray, List.set_cons_zero, List.set_cons_succ]
  refine wpAny_at (i := 11) (v := .int .i64 0) (some 4) rfl rfl (by kernel_rfl) (by kernel_rfl) (by kernel_rfl) (fun _ _ _ h => h) (by kernel_rfl) (fun _ => ex_assign _ _ rfl (by kernel_rfl)) ?_
  simp only [Act.put, List.setIfInBounds_toArray, List.set_cons_zero, List.set_cons_succ]
  refine wpAny_at (i := 12) (v := .int .i64 0) (some 5) rfl rfl (by kernel_rfl) (by kernel_rfl) (by kernel_rfl) (fun _ _ _ h => h) (by kernel_rfl) (fun _ => ex_assign _ _ rfl (by kernel_rfl)) ?_
  simp only [Act.put, List.setIfInBounds_toArray, List.set_cons_zero, List.set_cons_succ]
  refine wpAny_done (by kernel_rfl) ?_ _
  obtain ⟨x0, x1, _⟩ := bx2 HX4.out
  obtain ⟨z0, z1, _⟩ := bx2 HG4.out
  have HXB := HB4
  have HOB := Lib.hid (OwnE.rd ptC_three HO4.out)
  have CEE := Lib.hid (CE.out _ _ W4 HOB.out (RdE.below HP.out HB4.out (Nat.le_refl _)))
  rotate_left 1
  refine wp_of_call (ex_call1 (.tmp 13) _ (.agg #[.int .i64 fmt, .slice A ps.length c]) rfl (by kernel_rfl) (enters_of Tryz.func24 (by kernel_rfl) rfl _ _)) (CB.out W1 (RdE.below HP.out HB1.out (Nat.le_refl _))) ?_
  rintro e W2 ⟨rfl, hb⟩
  have HB2 := Lib.hid (HB1.out.trans (hb.mono HB1.out.size))
  have HX2 := Lib.hid (heap_step HX1.out hb)
  have HG2 := Lib.hid (heap_step HG1.out hb)
  clear hb
  refine ⟨.string data, rfl, ?_⟩
  simp only [Act.put, List.setIfInBounds_toArray, List.set_cons_zero, List.set_cons_succ]
  refine wpAny_only 1 (by kernel_rfl) rfl (by kernel_rfl) ?_
  refine wp_of_val (v := .int .i64 fmt) (ex_load 3 _ (.pointer (some ⟨g, 0, none⟩)) _ rfl (by kernel_rfl) (ldT_int (bx2 HX2.out).1)) ?_
  simp only [Act.put, List.setIfInBounds_toArray, List.set_cons_zero, List.set_cons_succ]
  refine wpAny_only 4 (by kernel_rfl) rfl (by kernel_rfl) ?_
  refine wp_of_call (ex_call2 (.tmp 12) (.tmp 14) _ (.int .i64 fmt) (.string data) rfl (by kernel_rfl) (by kernel_rfl) (enters_of Tryz.func28 (by kernel_rfl) rfl _ _)) (CP.out W2 (below_cell0 HM.out HB2.out)) ?_
  rintro e W3 ⟨A2, c2, rfl, ho, hb⟩
  have HB3 := Lib.hid (HB2.out.trans (hb.mono HB2.out.size))
  have HX3 := Lib.hid (heap_step HX2.out hb)
  have HG3 := Lib.hid (heap_step HG2.out hb)
  have HO3 := Lib.hid (own_base ho HB2.out.size)
  clear ho hb
  refine ⟨.tuple #[.agg #[.int .i64 fmt, .slice A2 ps.length c2], .int .i64 0, .int .i64 0], rfl, ?_⟩
  simp only [Act.put, List.setIfInBounds_toArray, List.set_cons_zero, List.set_cons_succ]
  refine wpAny_at (i := 5) (v := .tuple #[.agg #[.int .i64 fmt, .slice A2 ps.length c2], .int .i64 0, .int .i64 0]) (some 10) rfl rfl (by kernel_rfl) (by kernel_rfl) (by kernel_rfl) (fun _ _ _ h => h) (by kernel_rfl) (fun _ => ex_move _ _ rfl (by kernel_rfl)) ?_
  simp only [Act.put, List.setIfInBounds_toArray, List.set_cons_zero, List.set_cons_succ]
  refine wpAny_at (i := 6) (v := .agg #[.int .i64 fmt, .slice A2 ps.length c2]) (some 16) rfl rfl (by kernel_rfl) (by kernel_rfl) (by kernel_rfl) (fun _ _ _ h => h) (by kernel_rfl) (fun _ => ex_extract _ 0 #[.agg #[.int .i64 fmt, .slice A2 ps.length c2], .int .i64 0, .int .i64 0] (.agg #[.int .i64 fmt, .slice A2 ps.length c2]) rfl (by kernel_rfl) rfl) ?_
  simp only [Act.put, List.setIfInBounds_toArray, List.set_cons_zero, List.set_cons_succ]
  refine wpAny_at (i := 7) (v := .int .i64 0) (some 17) rfl rfl (by kernel_rfl) (by kernel_rfl) (by kernel_rfl) (fun _ _ _ h => h) (by kernel_rfl) (fun _ => ex_extract _ 1 #[.agg #[.int .i64 fmt, .slice A2 ps.length c2], .int .i64 0, .int .i64 0] (.int .i64 0) rfl (by kernel_rfl) rfl) ?_
  simp only [Act.put, List.setIfInBounds_toArray, List.set_cons_zero, List.set_cons_succ]
  refine wpAny_at (i := 8) (v := .int .i64 0) (some 18) rfl rfl (by kernel_rfl) (by kernel_rfl) (by kernel_rfl) (fun _ _ _ h => h) (by kernel_rfl) (fun _ => ex_extract _ 2 #[.agg #[.int .i64 fmt, .slice A2 ps.length c2], .int .i64 0, .int .i64 0] (.int .i64 0) rfl (by kernel_rfl) rfl) ?_
  simp only [Act.put, List.setIfInBounds_toArray, List.set_cons_zero, List.set_cons_succ]
  refine wpAny_only 10 (by kernel_rfl) rfl (by kernel_rfl) ?_
  refine wp_storeD (.tmp 3) (.tmp 16) rfl rfl g3 fmt A2 ps.length c2 (by kernel_rfl) (by kernel_rfl) HG3.out ?_
  have HB4 := Lib.hid ((HB3.out.setCell (p := ⟨g3, 0, none⟩) (Nat.le_trans hgw (Nat.le_of_lt hg3)) (.int .i64 fmt)).setCell (p := ⟨g3, 1, none⟩) (Nat.le_trans hgw (Nat.le_of_lt hg3)) (.slice A2 ps.length c2))
  have HX4 := Lib.hid ((storeD_out (u0 := .int .i64 fmt) (u1 := .slice A2 ps.length c2) (Nat.ne_of_lt hg3)).trans HX3.out)
  have HG4 := Lib.hid (storeD_at (u0 := .int .i64 fmt) (u1 := .slice A2 ps.length c2) HG3.out)
  have HO4 := Lib.hid (own_same (w' := (W3.setCell ⟨g3, 0, none⟩ (.int .i64 fmt)).setCell ⟨g3, 1, none⟩ (.slice A2 ps.length c2)) HO3.out fun j hj => storeD_out (fun e => own_apart HO3.out HG3.out (by decide) j hj e))
  generalize (W3.setCell ⟨g3, 0, none⟩ (.int .i64 fmt)).setCell ⟨g3, 1, none⟩ (.slice A2 ps.length c2) = W4 at HB4 HX4 HG4 HO4 ⊢
  simp only [Act.put, List.setIfInBounds_toArray, List.set_cons_zero, List.set_cons_succ]
  refine wpAny_at (i := 11) (v := .int .i64 0) (some 4) rfl rfl (by kernel_rfl) (by kernel_rfl) (by kernel_rfl) (fun _ _ _ h => h) (by kernel_rfl) (fun _ => ex_assign _ _ rfl (by kernel_rfl)) ?_
  simp only [Act.put, List.setIfInBounds_toArray, List.set_cons_zero, List.set_cons_succ]
  refine wpAny_at (i := 12) (v := .int .i64 0) (some 5) rfl rfl (by kernel_rfl) (by kernel_rfl) (by kernel_rfl) (fun _ _ _ h => h) (by kernel_rfl) (fun _ => ex_assign _ _ rfl (by kernel_rfl)) ?_
  simp only [Act.put, List.setIfInBounds_toArray, List.set_cons_zero, List.set_cons_succ]
  refine wpAny_done (by kernel_rfl) ?_ _
  obtain ⟨x0, x1, _⟩ := bx2 HX4.out
  obtain ⟨z0, z1, _⟩ := bx2 HG4.out
  have HXB := HB4
  have HOB := Lib.hid (OwnE.rd ptC_three HO4.out)
  have CEE := Lib.hid (CE.out _ _ W4 HOB.out (RdE.below HP.out HB4.out (Nat.le_refl _)))
  rotate_left 1
  refine wp_of_valw (ex_allocD rfl) ?_
  have hal := (Below.refl W0.heap.size W0).alloc (Nat.le_refl _) (.cells #[.int .i64 0, .slice none 0 0] 41)
  have HB1 := Lib.hid (HB0.out.trans (hal.mono HB0.out.size))
  have HX1 := Lib.hid (heap_step HX0.out hal)
  have HG1 : Hid ((W0.alloc (.cells #[.int .i64 0, .slice none 0 0] 41)).heap[W0.heap.size]? = some (.cells #[.int .i64 0, .slice none 0 0] 41)) := heap_alloc_new W0 _
  have hg3 : g < W0.heap.size := heap_lt HX0.out
  clear hal
  generalize W0.heap.size = g3 at HG1 hg3 ⊢
  generalize W0.alloc (.cells #[.int .i64 0, .slice none 0 0] 41) = W1 at HB1 HX1 HG1 ⊢
  simp only [Act.put, List.setIfInBounds_toArray, List.set_cons_zero, List.set_cons_succ]
  refine wpAny_two 1 2 (by kernel_rfl) rfl rfl (by kernel_rfl) (by kernel_rfl) ?_ ?_
  refine wp_of_val (v := .int .i64 fmt) (ex_load 3 _ (.pointer (some ⟨g, 0, none⟩)) _ rfl (by kernel_rfl) (ldT_int (bx2 HX1.out).1)) ?_
  simp only [Act.put, List.setIfInBounds_toArray, List.set_cons_zero, List.set_cons_succ]
  refine wpAny_only 2 (by kernel_rfl) rfl (by kernel_rfl) ?_
  refine wp_of_val (v := .agg #[.int .i64 fmt, .slice A ps.length c]) (ex_load 41 _ (.pointer (some ⟨g, 0, none⟩)) _ rfl (by kernel_rfl) (ldT_doc (bx2 HX1.out).1 (bx2 HX1.out).2.1)) ?_
  simp only [Act.put, List.setIfInBounds_toArray, List.set_cons_zero, List.set_cons_succ]
  refine wpAny_only 3 (by kernel_rfl) rfl (by kernel_rfl) ?_
  refine wp_of_call (ex_call1 (.tmp 13) _ (.agg #[.int .i64 fmt, .slice A ps.length c]) rfl (by kernel_rfl) (enters_of Tryz.func24 (by kernel_rfl) rfl _ _)) (CB.out W1 (RdE.below HP.out HB1.out (Nat.le_refl _))) ?_
  rintro e W2 ⟨rfl, hb⟩
  have HB2 := Lib.hid (HB1.out.trans (hb.mono HB1.out.size))
  have HX2 := Lib.hid (heap_step HX1.out hb)
  have HG2 := Lib.hid (heap_step HG1.out hb)
  clear hb
  refine ⟨.string data, rfl, ?_⟩
  simp only [Act.put, List.setIfInBounds_toArray, List.set_cons_zero, List.set_cons_succ]
  refine wpAny_only 4 (by kernel_rfl) rfl (by kernel_rfl) ?_
  refine wp_of_call (ex_call2 (.tmp 12) (.tmp 14) _ (.int .i64 fmt) (.string data) rfl (by kernel_rfl) (by kernel_rfl) (enters_of Tryz.func28 (by kernel_rfl) rfl _ _)) (CP.out W2 (below_cell0 HM.out HB2.out)) ?_
  rintro e W3 ⟨A2, c2, rfl, ho, hb⟩
  have HB3 := Lib.hid (HB2.out.trans (hb.mono HB2.out.size))
  have HX3 := Lib.hid (heap_step HX2.out hb)
  have HG3 := Lib.hid (heap_step HG2.out hb)
  have HO3 := Lib.hid (own_base ho HB2.out.size)
  clear ho hb
  refine ⟨.tuple #[.agg #[.int .i64 fmt, .slice A2 ps.length c2], .int .i64 0, .int .i64 0], rfl, ?_⟩
  simp only [Act.put, List.setIfInBounds_toArray, List.set_cons_zero, List.set_cons_succ]
  refine wpAny_at (i := 5) (v := .tuple #[.agg #[.int .i64 fmt, .slice A2 ps.length c2], .int .i64 0, .int .i64 0]) (some 10) rfl rfl (by kernel_rfl) (by kernel_rfl) (by kernel_rfl) (fun _ _ _ h => h) (by kernel_rfl) (fun _ => ex_move _ _ rfl (by kernel_rfl)) ?_
  simp only [Act.put, List.setIfInBounds_toArray, List.set_cons_zero, List.set_cons_succ]
  refine wpAny_at (i := 6) (v := .agg #[.int .i64 fmt, .slice A2 ps.length c2]) (some 16) rfl rfl (by kernel_rfl) (by kernel_rfl) (by kernel_rfl) (fun _ _ _ h => h) (by kernel_rfl) (fun _ => ex_extract _ 0 #[.agg #[.int .i64 fmt, .slice A2 ps.length c2], .int .i64 0, .int .i64 0] (.agg #[.int .i64 fmt, .slice A2 ps.length c2]) rfl (by kernel_rfl) rfl) ?_
  simp only [Act.put, List.setIfInBounds_toArray, List.set_cons_zero, List.set_cons_succ]
  refine wpAny_at (i := 7) (v := .int .i64 0) (some 17) rfl rfl (by kernel_rfl) (by kernel_rfl) (by kernel_rfl) (fun _ _ _ h => h) (by kernel_rfl) (fun _ => ex_extract _ 1 #[.agg #[.int .i64 fmt, .slice A2 ps.length c2], .int .i64 0, .int .i64 0] (.int .i64 0) rfl (by kernel_rfl) rfl) ?_
  simp only [Act.put, List.setIfInBounds_toArray, List.set_cons_zero, List.set_cons_succ]
  refine wpAny_at (i := 8) (v := .int .i64 0) (some 18) rfl rfl (by kernel_rfl) (by kernel_rfl) (by kernel_rfl) (fun _ _ _ h => h) (by kernel_rfl) (fun _ => ex_extract _ 2 #[.agg #[.int .i64 fmt, .slice A2 ps.length c2], .int .i64 0, .int .i64 0] (.int .i64 0) rfl (by kernel_rfl) rfl) ?_
  simp only [Act.put, List.setIfInBounds_toArray, List.set_cons_zero, List.set_cons_succ]
  refine wpAny_only 10 (by kernel_rfl) rfl (by kernel_rfl) ?_
  refine wp_storeD (.tmp 3) (.tmp 16) rfl rfl g3 fmt A2 ps.length c2 (by kernel_rfl) (by kernel_rfl) HG3.out ?_
  have HB4 := Lib.hid ((HB3.out.setCell (p := ⟨g3, 0, none⟩) (Nat.le_trans hgw (Nat.le_of_lt hg3)) (.int .i64 fmt)).setCell (p := ⟨g3, 1, none⟩) (Nat.le_trans hgw (Nat.le_of_lt hg3)) (.slice A2 ps.length c2))
  have HX4 := Lib.hid ((storeD_out (u0 := .int .i64 fmt) (u1 := .slice A2 ps.length c2) (Nat.ne_of_lt hg3)).trans HX3.out)
  have HG4 := Lib.hid (storeD_at (u0 := .int .i64 fmt) (u1 := .slice A2 ps.length c2) HG3.out)
  have HO4 := Lib.hid (own_same (w' := (W3.setCell ⟨g3, 0, none⟩ (.int .i64 fmt)).setCell ⟨g3, 1, none⟩ (.slice A2 ps.length c2)) HO3.out fun j hj => storeD_out (fun e => own_apart HO3.out HG3.out (by decide) j hj e))
  generalize (W3.setCell ⟨g3, 0, none⟩ (.int .i64 fmt)).setCell ⟨g3, 1, none⟩ (.slice A2 ps.length c2) = W4 at HB4 HX4 HG4 HO4 ⊢
  simp only [Act.put, List.setIfInBounds_toArray, List.set_cons_zero, List.set_cons_succ]
  refine wpAny_at (i := 11) (v := .int .i64 0) (some 4) rfl rfl (by kernel_rfl) (by kernel_rfl) (by kernel_rfl) (fun _ _ _ h => h) (by kernel_rfl) (fun _ => ex_assign _ _ rfl (by kernel_rfl)) ?_
  simp only [Act.put, List.setIfInBounds_toArray, List.set_cons_zero, List.set_cons_succ]
  refine wpAny_at (i := 12) (v := .int .i64 0) (some 5) rfl rfl (by kernel_rfl) (by kernel_rfl) (by kernel_rfl) (fun _ _ _ h => h) (by kernel_rfl) (fun _ => ex_assign _ _ rfl (by kernel_rfl)) ?_
  simp only [Act.put, List.setIfInBounds_toArray, List.set_cons_zero, List.set_cons_succ]
  refine wpAny_done (by kernel_rfl) ?_ _
  obtain ⟨x0, x1, _⟩ := bx2 HX4.out
  obtain ⟨z0, z1, _⟩ := bx2 HG4.out
  have HXB := HB4
  have HOB := Lib.hid (OwnE.rd ptC_three HO4.out)
  have CEE := Lib.hid (CE.out _ _ W4 HOB.out (RdE.below HP.out HB4.out (Nat.le_refl _)))
  rotate_left 1
  refine wp_of_val (v := .agg #[.int .i64 fmt, .slice A ps.length c]) (ex_load 41 _ (.pointer (some ⟨g, 0, none⟩)) _ rfl (by kernel_rfl) (ldT_doc (bx2 HX1.out).1 (bx2 HX1.out).2.1)) ?_
  simp only [Act.put, List.setIfInBounds_toArray, List.set_cons_zero, List.set_cons_succ]
  refine wpAny_two 1 3 (by kernel_rfl) rfl rfl (by kernel_rfl) (by kernel_rfl) ?_ ?_
  refine wp_of_val (v := .int .i64 fmt) (ex_load 3 _ (.pointer (some ⟨g, 0, none⟩)) _ rfl (by kernel_rfl) (ldT_int (bx2 HX1.out).1)) ?_
  simp only [Act.put, List.setIfInBounds_toArray, List.set_cons_zero, List.set_cons_succ]
  refine wpAny_only 3 (by kernel_rfl) rfl (by kernel_rfl) ?_
  refine wp_of_call (ex_call1 (.tmp 13) _ (.agg #[.int .i64 fmt, .slice A ps.length c]) rfl (by kernel_rfl) (enters_of Tryz.func24 (by kernel_rfl) rfl _ _)) (CB.out W1 (RdE.below HP.out HB1.out (Nat.le_refl _))) ?_
  rintro e W2 ⟨rfl, hb⟩
  have HB2 := Lib.hid (HB1.out.trans (hb.mono HB1.out.size))
  have HX2 := Lib.hid (heap_step HX1.out hb)
  have HG2 := Lib.hid (heap_step HG1.out hb)
  clear hb
  refine ⟨.string data, rfl, ?_⟩
  simp only [Act.put, List.setIfInBounds_toArray, List.set_cons_zero, List.set_cons_succ]
  refine wpAny_only 4 (by kernel_rfl) rfl (by kernel_rfl) ?_
  refine wp_of_call (ex_call2 (.tmp 12) (.tmp 14) _ (.int .i64 fmt) (.string data) rfl (by kernel_rfl) (by kernel_rfl) (enters_of Tryz.func28 (by kernel_rfl) rfl _ _)) (CP.out W2 (below_cell0 HM.out HB2.out)) ?_
  rintro e W3 ⟨A2, c2, rfl, ho, hb⟩
  have HB3 := Lib.hid (HB2.out.trans (hb.mono HB2.out.size))
  have HX3 := Lib.hid (heap_step HX2.out hb)
  have HG3 := Lib.hid (heap_step HG2.out hb)
  have HO3 := Lib.hid (own_base ho HB2.out.size)
  clear ho hb
  refine ⟨.tuple #[.agg #[.int .i64 fmt, .slice A2 ps.length c2], .int .i64 0, .int .i64 0], rfl, ?_⟩
  simp only [Act.put, List.setIfInBounds_toArray, List.set_cons_zero, List.set_cons_succ]
  refine wpAny_at (i := 5) (v := .tuple #[.agg #[.int .i64 fmt, .slice A2 ps.length c2], .int .i64 0, .int .i64 0]) (some 10) rfl rfl (by kernel_rfl) (by kernel_rfl) (by kernel_rfl) (fun _ _ _ h => h) (by kernel_rfl) (fun _ => ex_move _ _ rfl (by kernel_rfl)) ?_
  simp only [Act.put, List.setIfInBounds_toArray, List.set_cons_zero, List.set_cons_succ]
  refine wpAny_at (i := 6) (v := .agg #[.int .i64 fmt, .slice A2 ps.length c2]) (some 16) rfl rfl (by kernel_rfl) (by kernel_rfl) (by kernel_rfl) (fun _ _ _ h => h) (by kernel_rfl) (fun _ => ex_extract _ 0 #[.agg #[.int .i64 fmt, .slice A2 ps.length c2], .int .i64 0, .int .i64 0] (.agg #[.int .i64 fmt, .slice A2 ps.length c2]) rfl (by kernel_rfl) rfl) ?_
  simp only [Act.put, List.setIfInBounds_toArray, List.set_cons_zero, List.set_cons_succ]
  refine wpAny_at (i := 7) (v := .int .i64 0) (some 17) rfl rfl (by kernel_rfl) (by kernel_rfl) (by kernel_rfl) (fun _ _ _ h => h) (by kernel_rfl) (fun _ => ex_extract _ 1 #[.agg #[.int .i64 fmt, .slice A2 ps.length c2], .int .i64 0, .int .i64 0] (.int .i64 0) rfl (by kernel_rfl) rfl) ?_
  simp only [Act.put, List.setIfInBounds_toArray, List.set_cons_zero, List.set_cons_succ]
  refine wpAny_at (i := 8) (v := .int .i64 0) (some 18) rfl rfl (by kernel_rfl) (by kernel_rfl) (by kernel_rfl) (fun _ _ _ h => h) (by kernel_rfl) (fun _ => ex_extract _ 2 #[.agg #[.int .i64 fmt, .slice A2 ps.length c2], .int .i64 0, .int .i64 0] (.int .i64 0) rfl (by kernel_rfl) rfl) ?_
  simp only [Act.put, List.setIfInBounds_toArray, List.set_cons_zero, List.set_cons_succ]
  refine wpAny_only 10 (by kernel_rfl) rfl (by kernel_rfl) ?_
  refine wp_storeD (.tmp 3) (.tmp 16) rfl rfl g3 fmt A2 ps.length c2 (by kernel_rfl) (by kernel_rfl) HG3.out ?_
  have HB4 := Lib.hid ((HB3.out.setCell (p := ⟨g3, 0, none⟩) (Nat.le_trans hgw (Nat.le_of_lt hg3)) (.int .i64 fmt)).setCell (p := ⟨g3, 1, none⟩) (Nat.le_trans hgw (Nat.le_of_lt hg3)) (.slice A2 ps.length c2))
  have HX4 := Lib.hid ((storeD_out (u0 := .int .i64 fmt) (u1 := .slice A2 ps.length c2) (Nat.ne_of_lt hg3)).trans HX3.out)
  have HG4 := Lib.hid (storeD_at (u0 := .int .i64 fmt) (u1 := .slice A2 ps.length c2) HG3.out)
  have HO4 := Lib.hid (own_same (w' := (W3.setCell ⟨g3, 0, none⟩ (.int .i64 fmt)).setCell ⟨g3, 1, none⟩ (.slice A2 ps.length c2)) HO3.out fun j hj => storeD_out (fun e => own_apart HO3.out HG3.out (by decide) j hj e))
  generalize (W3.setCell ⟨g3, 0, none⟩ (.int .i64 fmt)).setCell ⟨g3, 1, none⟩ (.slice A2 ps.length c2) = W4 at HB4 HX4 HG4 HO4 ⊢
  simp only [Act.put, List.setIfInBounds_toArray, List.set_cons_zero, List.set_cons_succ]
  refine wpAny_at (i := 11) (v := .int .i64 0) (some 4) rfl rfl (by kernel_rfl) (by kernel_rfl) (by kernel_rfl) (fun _ _ _ h => h) (by kernel_rfl) (fun _ => ex_assign _ _ rfl (by kernel_rfl)) ?_
  simp only [Act.put, List.setIfInBounds_toArray, List.set_cons_zero, List.set_cons_succ]
  refine wpAny_at (i := 12) (v := .int .i64 0) (some 5) rfl rfl (by kernel_rfl) (by kernel_rfl) (by kernel_rfl) (fun _ _ _ h => h) (by kernel_rfl) (fun _ => ex_assign _ _ rfl (by kernel_rfl)) ?_
  simp only [Act.put, List.setIfInBounds_toArray, List.set_cons_zero, List.set_cons_succ]
  refine wpAny_done (by kernel_rfl) ?_ _
  obtain ⟨x0, x1, _⟩ := bx2 HX4.out
  obtain ⟨z0, z1, _⟩ := bx2 HG4.out
  have HXB := HB4
  have HOB := Lib.hid (OwnE.rd ptC_three HO4.out)
  have CEE := Lib.hid (CE.out _ _ W4 HOB.out (RdE.below HP.out HB4.out (Nat.le_refl _)))
  rotate_left 1
  refine wp_of_call (ex_call1 (.tmp 13) _ (.agg #[.int .i64 fmt, .slice A ps.length c]) rfl (by kernel_rfl) (enters_of Tryz.func24 (by kernel_rfl) rfl _ _)) (CB.out W1 (RdE.below HP.out HB1.out (Nat.le_refl _))) ?_
  rintro e W2 ⟨rfl, hb⟩
  have HB2 := Lib.hid (HB1.out.trans (hb.mono HB1.out.size))
  have HX2 := Lib.hid (heap_step HX1.out hb)
  have HG2 := Lib.hid (heap_step HG1.out hb)
  clear hb
  refine ⟨.string data, rfl, ?_⟩
  simp only [Act.put, List.setIfInBounds_toArray, List.set_cons_zero, List.set_cons_succ]
  refine wpAny_only 1 (by kernel_rfl) rfl (by kernel_rfl) ?_
  refine wp_of_val (v := .int .i64 fmt) (ex_load 3 _ (.pointer (some ⟨g, 0, none⟩)) _ rfl (by kernel_rfl) (ldT_int (bx2 HX2.out).1)) ?_
  simp only [Act.put, List.setIfInBounds_toArray, List.set_cons_zero, List.set_cons_succ]
  refine wpAny_only 4 (by kernel_rfl) rfl (by kernel_rfl) ?_
  refine wp_of_call (ex_call2 (.tmp 12) (.tmp 14) _ (.int .i64 fmt) (.string data) rfl (by kernel_rfl) (by kernel_rfl) (enters_of Tryz.func28 (by kernel_rfl) rfl _ _)) (CP.out W2 (below_cell0 HM.out HB2.out)) ?_
  rintro e W3 ⟨A2, c2, rfl, ho, hb⟩
  have HB3 := Lib.hid (HB2.out.trans (hb.mono HB2.out.size))
  have HX3 := Lib.hid (heap_step HX2.out hb)
  have HG3 := Lib.hid (heap_step HG2.out hb)
  have HO3 := Lib.hid (own_base ho HB2.out.size)
  clear ho hb
  refine ⟨.tuple #[.agg #[.int .i64 fmt, .slice A2 ps.length c2], .int .i64 0, .int .i64 0], rfl, ?_⟩
  simp only [Act.put, List.setIfInBounds_toArray, List.set_cons_zero, List.set_cons_succ]
  refine wpAny_at (i := 5) (v := .tuple #[.agg #[.int .i64 fmt, .slice A2 ps.length c2], .int .i64 0, .int .i64 0]) (some 10) rfl rfl (by kernel_rfl) (by kernel_rfl) (by kernel_rfl) (fun _ _ _ h => h) (by kernel_rfl) (fun _ => ex_move _ _ rfl (by kernel_rfl)) ?_
  simp only [Act.put, List.setIfInBounds_toArray, List.set_cons_zero, List.set_cons_succ]
  refine wpAny_at (i := 6) (v := .agg #[.int .i64 fmt, .slice A2 ps.length c2]) (some 16) rfl rfl (by kernel_rfl) (by kernel_rfl) (by kernel_rfl) (fun _ _ _ h => h) (by kernel_rfl) (fun _ => ex_extract _ 0 #[.agg #[.int .i64 fmt, .slice A2 ps.length c2], .int .i64 0, .int .i64 0] (.agg #[.int .i64 fmt, .slice A2 ps.length c2]) rfl (by kernel_rfl) rfl) ?_
  simp only [Act.put, List.setIfInBounds_toArray, List.set_cons_zero, List.set_cons_succ]
  refine wpAny_at (i := 7) (v := .int .i64 0) (some 17) rfl rfl (by kernel_rfl) (by kernel_rfl) (by kernel_rfl) (fun _ _ _ h => h) (by kernel_rfl) (fun _ => ex_extract _ 1 #[.agg #[.int .i64 fmt, .slice A2 ps.length c2], .int .i64 0, .int .i64 0] (.int .i64 0) rfl (by kernel_rfl) rfl) ?_
  simp only [Act.put, List.setIfInBounds_toArray, List.set_cons_zero, List.set_cons_succ]
  refine wpAny_at (i := 8) (v := .int .i64 0) (some 18) rfl rfl (by kernel_rfl) (by kernel_rfl) (by kernel_rfl) (fun _ _ _ h => h) (by kernel_rfl) (fun _ => ex_extract _ 2 #[.agg #[.int .i64 fmt, .slice A2 ps.length c2], .int .i64 0, .int .i64 0] (.int .i64 0) rfl (by kernel_rfl) rfl) ?_
  simp only [Act.put, List.setIfInBounds_toArray, List.set_cons_zero, List.set_cons_succ]
  refine wpAny_only 10 (by kernel_rfl) rfl (by kernel_rfl) ?_
  refine wp_storeD (.tmp 3) (.tmp 16) rfl rfl g3 fmt A2 ps.length c2 (by kernel_rfl) (by kernel_rfl) HG3.out ?_
  have HB4 := Lib.hid ((HB3.out.setCell (p := ⟨g3, 0, none⟩) (Nat.le_trans hgw (Nat.le_of_lt hg3)) (.int .i64 fmt)).setCell (p := ⟨g3, 1, none⟩) (Nat.le_trans hgw (Nat.le_of_lt hg3)) (.slice A2 ps.length c2))
  have HX4 := Lib.hid ((storeD_out (u0 := .int .i64 fmt) (u1 := .slice A2 ps.length c2) (Nat.ne_of_lt hg3)).trans HX3.out)
  have HG4 := Lib.hid (storeD_at (u0 := .int .i64 fmt) (u1 := .slice A2 ps.length c2) HG3.out)
  have HO4 := Lib.hid (own_same (w' := (W3.setCell ⟨g3, 0, none⟩ (.int .i64 fmt)).setCell ⟨g3, 1, none⟩ (.slice A2 ps.length c2)) HO3.out fun j hj => storeD_out (fun e => own_apart HO3.out HG3.out (by decide) j hj e))
  generalize (W3.setCell ⟨g3, 0, none⟩ (.int .i64 fmt)).setCell ⟨g3, 1, none⟩ (.slice A2 ps.length c2) = W4 at HB4 HX4 HG4 HO4 ⊢
  simp only [Act.put, List.setIfInBounds_toArray, List.set_cons_zero, List.set_cons_succ]
  refine wpAny_at (i := 11) (v := .int .i64 0) (some 4) rfl rfl (by kernel_rfl) (by kernel_rfl) (by kernel_rfl) (fun _ _ _ h => h) (by kernel_rfl) (fun _ => ex_assign _ _ rfl (by kernel_rfl)) ?_
  simp only [Act.put, List.setIfInBounds_toArray, List.set_cons_zero, List.set_cons_succ]
  refine wpAny_at (i := 12) (v := .int .i64 0) (some 5) rfl rfl (by kernel_rfl) (by kernel_rfl) (by kernel_rfl) (fun _ _ _ h => h) (by kernel_rfl) (fun _ => ex_assign _ _ rfl (by kernel_rfl)) ?_
  simp only [Act.put, List.setIfInBounds_toArray, List.set_cons_zero, List.set_cons_succ]
  refine wpAny_done (by kernel_rfl) ?_ _
  obtain ⟨x0, x1, _⟩ := bx2 HX4.out
  obtain ⟨z0, z1, _⟩ := bx2 HG4.out
  have HXB := HB4
  have HOB := Lib.hid (OwnE.rd ptC_three HO4.out)
  have CEE := Lib.hid (CE.out _ _ W4 HOB.out (RdE.below HP.out HB4.out (Nat.le_refl _)))
  all_goals (
    go_wp2_with (go_at_call 105; refine (CEE.out).mono ?_; rintro e w9 ⟨rfl, n9, rfl⟩)
    go_ret
    exact ⟨rfl, below_drewN HXB.out _⟩)

end Go.Proofs.YtfkojnofbpdjdaaGreatDoor

namespace Go.Proofs.YtfkojnofbpdjdaaGreatDoor
set_option maxRecDepth 100000
open Go.RowKit

set_option maxRecDepth 100000 in
set_option maxHeartbeats 4000000 in
theorem content_any (m fmt : Int) (hf : FmtOk fmt) (ps : List Pt) (f : List Tk) (k : Nat) (hk : k < ps.length) (hun : ps[k].un = true) (hd : DecOk m fmt ps[k].raw f) (A : Option Addr) (c : Nat) (w : World) (hm : w.cell? ⟨0, 0, none⟩ = some (.int .i64 m)) (h : RdE ptC 3 w (.slice A ps.length c) ps) (hl : ps.length ≤ 100000) :
    Calls Tryz.prog 27 #[.agg #[.int .i64 fmt, .slice A ps.length c], .int .i64 k] w (DDecRet f w) := by
  have CK := Lib.hid (fun w => known_any fmt hf w)
  have CD := Lib.hid (fun w hm => dec_any fmt hf ps[k].raw f w (hd w hm))
  have HM := Lib.hid hm
  have HA := Lib.hid ((Below.refl w.heap.size w).alloc (Nat.le_refl _) (.cells #[.int .i64 fmt, .slice A ps.length c] 41))
  obtain ⟨b, o, rfl, hb, c0, c1, c2⟩ := RdP.at_ (h.below HA.out (Nat.le_refl _)) k hk
  rw [hun] at c0
  generalize ps[k].raw = x2 at *
  generalize ps[k].key = x1 at *
  clear h hd hm hun
  go_enter Tryz.func27, Tryz.ntmps27
  go_wp2_with (first
    | (go_at_call 55; refine (CK.out _).mono ?_; rintro e w' ⟨rfl, rfl⟩))
  go_region_with (go_at_call 56; refine (CD.out _ (by exact below_cell0 HM.out (below_drewN HA.out 1))).mono ?_; rintro e w1 ⟨v, rfl, ho, hb⟩; obtain ⟨A2, c2, rfl⟩ := own_shape ho; have hz := HA.out.size; have HO := Lib.hid (own_base ho hz); have HB := Lib.hid ((below_drewN HA.out 1).trans (hb.mono hz)); clear ho hb)
  all_goals (
    go_wp2_with fail
    go_ret2
    exact ⟨_, rfl, HO.out, HB.out⟩)

end Go.Proofs.YtfkojnofbpdjdaaGreatDoor

namespace Go.Proofs.YtfkojnofbpdjdaaGreatDoor
set_option maxRecDepth 100000
open Go.RowKit

set_option maxRecDepth 100000 in
set_option maxHeartbeats 4000000 in
theorem iplain_any (f : List Tk) (v : Value) (w : World) (h1 : RdT w v f) (hl : lenI f ≤ 1000000000) (hfl : f.length ≤ 1000000) :
    Calls Tryz.prog 60 #[v] w fun e w' => e = .returned (.string (plS f)) ∧ Below w.heap.size w w' := by
  obtain ⟨A, c, rfl, _, _⟩ := h1.shape
  have H1 := Lib.hid h1
  clear h1
  obtain ⟨i8, hi8, hz8, hs8, hb8⟩ := info_parts u8_info
  have HI8 := Lib.hid hi8
  have HZ8 := Lib.hid hz8
  have HS8 := Lib.hid hs8
  have HB8 := Lib.hid hb8
  clear hi8 hz8 hs8 hb8
  go_enter Tryz.func60, Tryz.ntmps60
  go_wp2_with fail
  obtain ⟨wo, HWO⟩ : ∃ wo, Hid (wo = w) := ⟨w, rfl⟩
  go_loopg [3, 5, 8] f.length (fun gk bv xv jv wr => ∃ (k : Nat) (bs : ByteArray), jv = .int .i64 k ∧ k ≤ f.length ∧ Hid (bs = plS (f.take k)) ∧ Hid (wr.ownsRow w.heap.size 5 1 bv bs.size (Go.Lib.strCells bs)) ∧ Hid (Below w.heap.size w wr) ∧ f.length - k ≤ gk)
  case atStart => exact ⟨0, ⟨#[]⟩, rfl, Nat.zero_le _, by (show _ = _); rw [List.take_zero]; rfl, World.ownsRow_nil _ _ _ _, Below.refl _ _, by omega⟩
  case round =>
    clear HWO
    obtain ⟨k, bs, rfl, hk, HS, HO, HB, hgk⟩ := hrel
    obtain ⟨A2, c2, hv2⟩ := own_shape HO.out
    subst hv2
    have hsz := HB.out.size
    by_cases hkl : k < f.length
    · have hki : (k : Int) < (f.length : Int) := by omega
      have hk0 : (0 : Int) ≤ (k : Int) := by omega
      obtain ⟨b, o, rfl, hbl, q1, q2, q3⟩ := RdT.at_ H1.out k hkl
      rw [← HB.out.cell (p := ⟨b, o + k * 3, none⟩) hbl] at q1
      rw [← HB.out.cell (p := ⟨b, o + k * 3 + 1, none⟩) hbl] at q2
      rw [← HB.out.cell (p := ⟨b, o + k * 3 + 2, none⟩) hbl] at q3
      have hbl2 : b < wr.heap.size := by omega
      have hss : bs.size ≤ lenI (f.take k) := by
        rw [HS.out, plS_size]
        exact plI_len _
      have hle := lenI_le f (k + 1)
      rw [lenI_take f k hkl] at hle
      have hsl : bs.size + wdI f[k] ≤ 1000000000 := by omega
      unfold wdI at hsl
      clear hle hss
      have c1 := Lib.hid (plS_text f k hkl)
      have c5 := Lib.hid (plS_slot f k hkl)
      have c0 := Lib.hid (plS_none f k hkl)
      rw [← HS.out] at c1 c5 c0
      generalize f[k] = x at q1 q2 q3 hsl c1 c5 c0
      obtain ⟨xk, xt, xd⟩ := x
      simp only at q1 q2 q3 hsl c1 c5 c0
      have HW1 := Lib.hid ((Below.refl wr.heap.size wr).alloc (Nat.le_refl _) (.cells #[.int .i64 xk, .string xt, .int .i64 xd] 31))
      have HX : Hid ((wr.alloc (.cells #[.int .i64 xk, .string xt, .int .i64 xd] 31)).heap[wr.heap.size]? = some (.cells #[.int .i64 xk, .string xt, .int .i64 xd] 31)) := heap_alloc_new wr _
      go_upto_region 5 with fail
      generalize wr.alloc (.cells #[.int .i64 xk, .string xt, .int .i64 xd] 31) = w1 at HW1 HX ⊢
      obtain ⟨g, hg⟩ : ∃ g, Hid (g = wr.heap.size) := ⟨_, rfl⟩
      rw [← hg.out] at HX ⊢
      have hgl : g < w1.heap.size := (Array.getElem?_eq_some_iff.1 HX.out).1
      clear q1 q2 q3
      obtain ⟨x0, x1, x2, _⟩ := bx3 HX.out
      have HO1 := Lib.hid (own_below HO.out HW1.out (Nat.le_refl _))
      have HB1 := Lib.hid (HB.out.trans (HW1.out.mono HB.out.size))
      have hz1 := HB1.out.size
      by_cases hx : xk = 1
      · subst hx
        simp only [if_true] at hsl
        have hxs : xt.size ≤ 1000000000 := by omega
        go_wp2_with (at_builtin; go_must (refine Go.Lib.wpList_append_own_string _ rfl (.tmp 16) (.tmp 18) 89 9 rfl w.heap.size 5 i8 Tryz.underlying89 Tryz.underlying9 HI8.out HZ8.out HS8.out HB8.out _ bs.size _ rfl (by exact HO1.out) xt rfl (by unfold maxLen; omega) (by omega) (by exact hz1) ?_); intro v7 w7 hown7 hgr7 _)
        have hB7 := HB1.out.grown hgr7 (by exact hz1) (fun q hq => (HO1.out.lt q hq).1)
        rw [str_cells_append] at hown7
        have hown8 : Hid (w7.ownsRow w.heap.size 5 1 v7 (bs ++ xt).size (Go.Lib.strCells (bs ++ xt))) := by
          show World.ownsRow _ _ _ _ _ _ _
          rw [ByteArray.size_append]
          exact hown7
        go_roundg (f.length - (k + 1))
        case measure => omega
        case rel => exact ⟨k + 1, bs ++ xt, rfl, by omega, c1.out (by first | trivial | rfl), hown8.out, hB7, by omega⟩
      · rw [if_neg hx] at hsl
        have t1 : (xk == 1) = false := by simpa using hx
        by_cases h5 : xk = 5
        · subst h5
          go_wp2_with (at_builtin; go_must (refine wpList_app1 rfl (.tmp 22) (.tmp 23) 89 5 rfl Tryz.underlying89 _ 1 1 u8_info rfl (by decide) w.heap.size _ bs.size _ rfl (by exact World.ownsRow.alloc HO1.out _) ⟨w1.heap.size, 0, none⟩ 1 [.int .u8 255] rfl rfl (by exact cells_at _ _ rfl _ _) (by intro u hu; rw [List.mem_singleton.1 hu]; rfl) (by omega) (by decide) (by simp; omega) ?_); intro g9 cap9 w9 hown9 hg9 hbel9 hgr9)
          have HB9 := Lib.hid (hbel9 w.heap.size w (Nat.le_refl _) (HB1.out.alloc hz1 _))
          have e255 : Go.Lib.strCells bs ++ [Value.int .u8 255] = Go.Lib.strCells (bs ++ (⟨#[255]⟩ : ByteArray)) := by
            rw [← str_cells_append]
            rfl
          rw [e255] at hown9
          have hown8 : Hid (w9.ownsRow w.heap.size 5 1 (.slice (some ⟨g9, 0, none⟩) (bs.size + 1) cap9) (bs ++ (⟨#[255]⟩ : ByteArray)).size (Go.Lib.strCells (bs ++ (⟨#[255]⟩ : ByteArray)))) := by
            show World.ownsRow _ _ _ _ _ _ _
            rw [ByteArray.size_append]
            exact hown9
          go_roundg (f.length - (k + 1))
          case measure => omega
          case rel => exact ⟨k + 1, bs ++ (⟨#[255]⟩ : ByteArray), rfl, by omega, c5.out (by first | trivial | rfl), hown8.out, HB9.out, by omega⟩
        · have t5 : (xk == 5) = false := by simpa using h5
          go_wp2_with fail
          go_roundg (f.length - (k + 1))
          case measure => omega
          case rel => exact ⟨k + 1, bs, rfl, by omega, c0.out hx h5, HO1.out, HB1.out, by omega⟩
    · obtain rfl : k = f.length := by omega
      have e : Hid (bs = plS f) := by (show _ = _); rw [HS.out, List.take_length]
      by_cases h0 : 0 < bs.size
      · have hcv := run_string_own bs 89 9 Tryz.underlying89 Tryz.underlying5 Tryz.underlying9 HO.out rfl h0
        go_wp2_with fail
        go_ret
        exact ⟨by rw [← e.out]; rfl, HB.out⟩
      · have hcv : (convert 89 9 (.slice A2 bs.size c2)).run Tryz.prog wr = .ok (.string bs) wr := by
          have hz : bs.size = 0 := by omega
          have hb0 : bs = ⟨#[]⟩ := by
            cases bs with
            | mk d =>
              have : d.size = 0 := hz
              rw [Array.eq_empty_of_size_eq_zero this]
          rw [hz, hb0]
          cases A2 with
          | some a2 => exact run_convert_bytes_back wr 89 9 5 a2 c2 [] Tryz.underlying89 Tryz.underlying5 Tryz.underlying9 (fun j hj => by simp at hj)
          | none =>
            rw [run_convert_bytes_string (P := Tryz.prog) wr 89 9 5 none 0 c2 Tryz.underlying89 Tryz.underlying5 Tryz.underlying9]
            simp [Conv.bytesToString]
            rfl
        go_wp2_with fail
        go_ret
        exact ⟨by rw [← e.out]; rfl, HB.out⟩

end Go.Proofs.YtfkojnofbpdjdaaGreatDoor

namespace Go.Proofs.YtfkojnofbpdjdaaGreatDoor
set_option maxRecDepth 100000
open Go.RowKit

set_option maxRecDepth 100000 in
set_option maxHeartbeats 8000000 in
theorem place5_any (f : List Tk) (v : Value) (off : Int) (w : World) (h1 : RdT w v f) (hl : lenI f ≤ 1000000) (hfl : f.length ≤ 100000) :
    Calls Tryz.prog 61 #[v, .int .i64 off] w fun e w' => e = .returned (.int .i64 (placeF f off)) ∧ Below w.heap.size w w' := by
  obtain ⟨A, c, rfl, _, _⟩ := h1.shape
  have HPL := Lib.hid (iplain_any f _ w h1 (by omega) (by omega))
  have HNL := Lib.hid (fun (u : World) (h : Below w.heap.size w u) => norm_anyL f _ u (RdE.below h1 h (Nat.le_refl _)) hfl hl)
  have hps := plS_size f
  have hpl := plI_len f
  obtain ⟨V, HV⟩ : ∃ V, Hid (placeF f off = V) := ⟨_, rfl⟩
  rw [HV.out]
  unfold placeF at HV
  clear h1
  by_cases h0 : off < 0
  · rw [if_pos (Or.inl h0)] at HV
    go_enter Tryz.func61, Tryz.ntmps61
    go_wp2_with fail
    go_ret
    exact ⟨by rw [← HV.out]; rfl, Below.refl _ _⟩
  obtain ⟨o, rfl⟩ : ∃ o : Nat, off = (o : Int) := ⟨off.toNat, by omega⟩
  by_cases h2 : (plI f).length < o
  · rw [if_pos (Or.inr (by omega))] at HV
    generalize plS f = s at HPL hps
    have h2i : (s.size : Int) < (o : Int) := by omega
    go_enter Tryz.func61, Tryz.ntmps61
    go_wp2_with (go_at_call 60; refine HPL.out.mono ?_; rintro e w1 ⟨rfl, hb1⟩)
    go_ret
    exact ⟨by rw [← HV.out]; rfl, hb1⟩
  · rw [if_neg (by omega)] at HV
    rw [Int.toNat_natCast, ← posI_norm] at HV
    have htot : o ≤ cntP (posI (normL f)) := by rw [posI_norm, cntP_pos]; omega
    have hnl := normL_length f
    have hlg : lenI (normL f) ≤ 1000000 := by rw [← posI_len, posI_norm, posI_len]; exact hl
    generalize plS f = s at HPL hps
    have HWD := Lib.hid (normal_wd (normL f) (normL_normal f))
    generalize normL f = g at HNL HV htot hnl hlg HWD
    have hgl : g.length ≤ 100000 := by omega
    have h2i : ¬ (s.size : Int) < (o : Int) := by omega
    have ho0 : ¬ (o : Int) < 0 := by omega
    have ho1 : o ≤ 1000000 := by omega
    go_enter Tryz.func61, Tryz.ntmps61
    go_upto_region 5 with (first
      | (go_at_call 60; refine HPL.out.mono ?_; rintro e w1 ⟨rfl, hb1⟩; have HB1 := Lib.hid hb1)
      | (go_at_call 104; refine (HNL.out _ HB1.out).mono ?_; rintro e w2 ⟨v2, rfl, ho2, hb2⟩; obtain ⟨A2, c2, hv2⟩ := own_shape ho2; subst hv2; have HB2 := Lib.hid (HB1.out.trans (hb2.mono HB1.out.size)); have HR2 := Lib.hid (OwnE.rd tkC_three ho2)))
    clear hb1 ho2 hb2 HNL HPL hps hpl HB1
    obtain ⟨wo, HWO⟩ : ∃ wo, Hid (wo = w2) := ⟨w2, rfl⟩
    go_loopg [1, 5, 6, 7] g.length (fun gk rv av iv xv wr => ∃ i a r : Nat, rv = .int .i64 r ∧ av = .int .i64 a ∧ iv = .int .i64 i ∧ i ≤ g.length ∧ a ≤ 1000000 ∧ Hid (a + lenI (g.drop i) = lenI g) ∧ Hid (r ≤ cntP (posI (g.drop i))) ∧ r ≤ 1000000 ∧ Hid (((a + placeP (posI (g.drop i)) r : Nat) : Int) = V) ∧ Hid (Below w2.heap.size w2 wr) ∧ g.length - i ≤ gk)
    case atStart => exact ⟨0, 0, o, rfl, rfl, rfl, Nat.zero_le _, by omega, by (show _ = _); rw [List.drop_zero]; omega, by (show _ ≤ _); rw [List.drop_zero]; exact htot, ho1, by (show _ = _); rw [List.drop_zero, Nat.zero_add]; exact HV.out, Below.refl _ _, by omega⟩
    case round =>
      clear HWO HV htot
      obtain ⟨i, a, r, rfl, rfl, rfl, hi, ha, HLN, HCN, hr, HVV, HB, hgk⟩ := hrel
      by_cases hr0 : 0 < r
      · have hr0i : (0 : Int) < (r : Int) := by omega
        have hil : i < g.length := by
          rcases Nat.lt_or_ge i g.length with h | h
          · exact h
          · exfalso
            have h2 := HCN.out
            rw [List.drop_eq_nil_of_le h] at h2
            simp [posI, cntP] at h2
            omega
        have hii : (i : Int) < (g.length : Int) := by omega
        have hi0 : (0 : Int) ≤ (i : Int) := by omega
        have hsz := HB.out.size
        obtain ⟨b, ob, rfl, hbl, q1, q2, q3⟩ := RdT.at_ HR2.out i hil
        rw [← HB.out.cell (p := ⟨b, ob + i * 3, none⟩) hbl] at q1
        rw [← HB.out.cell (p := ⟨b, ob + i * 3 + 1, none⟩) hbl] at q2
        rw [← HB.out.cell (p := ⟨b, ob + i * 3 + 2, none⟩) hbl] at q3
        have hbl2 : b < wr.heap.size := by omega
        have HD := Lib.hid (posI_drop g i hil)
        rw [HD.out] at HVV HCN
        rw [List.drop_eq_getElem_cons hil, lenI] at HLN
        rw [cntP_app, cntP_item] at HCN
        clear HD
        generalize g[i] = x at q1 q2 q3 HVV HCN HLN
        obtain ⟨xk, xt, xd⟩ := x
        simp only at q1 q2 q3
        have HX : Hid ((wr.alloc (.cells #[.int .i64 xk, .string xt, .int .i64 xd] 31)).heap[wr.heap.size]? = some (.cells #[.int .i64 xk, .string xt, .int .i64 xd] 31)) := heap_alloc_new wr _
        have HB1 := Lib.hid (HB.out.alloc hsz (.cells #[.int .i64 xk, .string xt, .int .i64 xd] 31))
        go_upto_region 8 with fail
        generalize wr.alloc (.cells #[.int .i64 xk, .string xt, .int .i64 xd] 31) = w3 at HX HB1 ⊢
        obtain ⟨q, hq⟩ : ∃ q, Hid (q = wr.heap.size) := ⟨_, rfl⟩
        rw [← hq.out] at HX ⊢
        have hql : q < w3.heap.size := (Array.getElem?_eq_some_iff.1 HX.out).1
        clear q1 q2 q3
        obtain ⟨x0, x1, x2, _⟩ := bx3 HX.out
        by_cases hx : xk = 1
        · subst hx
          have hby : byI ⟨1, xt, xd⟩ = xt.data.toList := rfl
          have hps1 : psI ⟨1, xt, xd⟩ = List.replicate xt.size (true, false) := rfl
          have hw1 : wdI ⟨1, xt, xd⟩ = xt.size := rfl
          rw [hw1] at HLN
          rw [hby] at HCN
          rw [hps1] at HVV
          have hxs : xt.size ≤ 1000000 := by have := HLN.out; omega
          by_cases hrs : r < xt.size
          · have hrsi : (r : Int) < (xt.size : Int) := by omega
            have HVQ : Hid (((a + r : Nat) : Int) = V) := by
              show _ = _
              rw [← HVV.out, placeP_in _ _ _ hrs hr0]
            go_wp2_with fail
            go_ret
            refine ⟨?_, HB2.out.trans (HB1.out.mono HB2.out.size)⟩
            rw [← HVQ.out]
            rfl
          · have hrsi : ¬ (r : Int) < (xt.size : Int) := by omega
            have HL2 : Hid (a + xt.size + lenI (g.drop (i + 1)) = lenI g) := by show _ = _; rw [← HLN.out]; omega
            have hax : a + xt.size ≤ 1000000 := by have := HL2.out; omega
            have HC2 : Hid (r - xt.size ≤ cntP (posI (g.drop (i + 1)))) := by
              have h := HCN.out
              have e : xt.data.toList.length = xt.size := by simp
              rw [e] at h
              show _ ≤ _
              omega
            have HV2 : Hid (((a + xt.size + placeP (posI (g.drop (i + 1))) (r - xt.size) : Nat) : Int) = V) := by
              show _ = _
              rw [← HVV.out, placeP_text _ _ _ (by omega)]
              congr 1
              omega
            have e1 : ((r - xt.size : Nat) : Int) = (r : Int) - (xt.size : Int) := by omega
            go_upto_region 11 with fail
            go_region
            have HB3 : Hid (Below w2.heap.size w2 w3.drew) := below_drewN HB1.out 1
            go_wp2_with fail
            go_roundg (g.length - (i + 1))
            case measure => omega
            case rel => exact ⟨i + 1, a + xt.size, r - xt.size, by rw [e1], rfl, rfl, by omega, hax, HL2.out, HC2.out, by omega, HV2.out, HB3.out, by omega⟩
        · have t1 : (xk == 1) = false := by simpa using hx
          have hw1 : wdI ⟨xk, xt, xd⟩ = 1 := by
            unfold wdI
            exact if_neg hx
          rw [hw1] at HLN
          have HL2 : Hid (a + 1 + lenI (g.drop (i + 1)) = lenI g) := by show _ = _; rw [← HLN.out]; omega
          have hax : a + 1 ≤ 1000000 := by have := HL2.out; omega
          obtain ⟨r', rfl⟩ : ∃ r', r = r' + 1 := ⟨r - 1, by omega⟩
          by_cases h5 : xk = 5
          · subst h5
            have HC2 : Hid (r' ≤ cntP (posI (g.drop (i + 1)))) := by
              have h := HCN.out
              have e : (byI ⟨5, xt, xd⟩).length = 1 := rfl
              rw [e] at h
              show _ ≤ _
              omega
            have HV2 : Hid (((a + 1 + placeP (posI (g.drop (i + 1))) r' : Nat) : Int) = V) := by
              show _ = _
              rw [← HVV.out, placeP_slot _ rfl]
              congr 1
              omega
            go_wp2_with fail
            go_roundg (g.length - (i + 1))
            case measure => omega
            case rel => exact ⟨i + 1, a + 1, r', rfl, rfl, rfl, by omega, hax, HL2.out, HC2.out, by omega, HV2.out, HB1.out, by omega⟩
          · have t5 : (xk == 5) = false := by simpa using h5
            have HC2 : Hid (r' + 1 ≤ cntP (posI (g.drop (i + 1)))) := by
              have h := HCN.out
              have e : (byI ⟨xk, xt, xd⟩).length = 0 := by unfold byI; simp [hx, h5]
              rw [e] at h
              show _ ≤ _
              omega
            have HV2 : Hid (((a + 1 + placeP (posI (g.drop (i + 1))) (r' + 1) : Nat) : Int) = V) := by
              show _ = _
              rw [← HVV.out, placeP_tag _ hx h5]
              congr 1
              omega
            go_wp2_with fail
            go_roundg (g.length - (i + 1))
            case measure => omega
            case rel => exact ⟨i + 1, a + 1, r' + 1, rfl, rfl, rfl, by omega, hax, HL2.out, HC2.out, by omega, HV2.out, HB1.out, by omega⟩
      · obtain rfl : r = 0 := by omega
        have HBL := Lib.hid (HB2.out.trans (HB.out.mono HB2.out.size))
        have hsz := HB.out.size
        have HVC : Hid (((a + clP (posI (g.drop i)) : Nat) : Int) = V) := by
          have h := HVV.out
          rw [placeP] at h
          exact h
        clear HCN HVV hgk
        go_wp2_with fail
        go_loopg [5, 6] (g.length - i) (fun gk av iv wx => ∃ i a : Nat, av = .int .i64 a ∧ iv = .int .i64 i ∧ i ≤ g.length ∧ a ≤ 1000000 ∧ Hid (a + lenI (g.drop i) = lenI g) ∧ Hid (((a + clP (posI (g.drop i)) : Nat) : Int) = V) ∧ wx = wr ∧ g.length - i ≤ gk)
        case atStart => exact ⟨i, a, rfl, rfl, hi, ha, HLN.out, HVC.out, rfl, Nat.le_refl _⟩
        case round =>
          clear HLN HVC
          obtain ⟨j, e, rfl, rfl, hj, he, HLN, HVC, rfl, hgk⟩ := hrel
          by_cases hjl : j < g.length
          · have hji : (j : Int) < (g.length : Int) := by omega
            have hj0 : (0 : Int) ≤ (j : Int) := by omega
            obtain ⟨b, ob, rfl, hbl, q1, _, _⟩ := RdT.at_ HR2.out j hjl
            rw [← HB.out.cell (p := ⟨b, ob + j * 3, none⟩) hbl] at q1
            rw [posI_drop g j hjl] at HVC
            rw [List.drop_eq_getElem_cons hjl, lenI] at HLN
            have hwd := HWD.out _ (List.getElem_mem hjl)
            generalize g[j] = x at q1 HVC HLN hwd
            have hw1 : x.k = 3 → wdI x = 1 := fun h => by unfold wdI; rw [if_neg (by omega)]
            by_cases h3 : x.k = 3
            · rw [clP_close x h3] at HVC
              rw [hw1 h3] at HLN
              have hL2 : e + 1 + lenI (g.drop (j + 1)) = lenI g := by rw [← HLN.out]; omega
              have he1 : e + 1 ≤ 1000000 := by omega
              have HL3 := Lib.hid hL2
              clear hL2 hw1
              rw [h3] at q1
              go_wp2_with fail
              go_roundg (g.length - (j + 1))
              case measure => omega
              case rel => exact ⟨j + 1, e + 1, rfl, rfl, by omega, he1, HL3.out, by (show _ = _); rw [← HVC.out]; congr 1; omega, rfl, by omega⟩
            · rw [clP_other x h3 hwd] at HVC
              have t3 : (x.k == 3) = false := by simpa using h3
              clear hw1
              go_wp2_with fail
              go_ret
              refine ⟨?_, HBL.out⟩
              rw [← HVC.out]
              rfl
          · obtain rfl : j = g.length := by omega
            have e9 : clP (posI (g.drop g.length)) = 0 := by rw [List.drop_length]; rfl
            rw [e9] at HVC
            go_wp2_with fail
            go_ret
            refine ⟨?_, HBL.out⟩
            rw [← HVC.out]
            rfl

end Go.Proofs.YtfkojnofbpdjdaaGreatDoor

namespace Go.Proofs.YtfkojnofbpdjdaaGreatDoor
set_option maxRecDepth 100000
open Go.RowKit

/-- The last k bytes of a string, backwards. -/
def rvS (s : ByteArray) (k : Nat) : ByteArray := ⟨((s.data.toList.drop (s.size - k)).reverse).toArray⟩
theorem rv_size (s : ByteArray) : (rvS s s.size).size = s.size := by
  show ((s.data.toList.drop (s.size - s.size)).reverse).length = _
  rw [Nat.sub_self, List.drop_zero, List.length_reverse, ← Lib.size_eq]
theorem rv_bt (s : ByteArray) (k : Nat) (hk : k < s.size) : bt (rvS s s.size) k = bt s (s.size - 1 - k) := by
  have hl : s.data.toList.length = s.size := (Lib.size_eq s).symm
  unfold bt rvS
  simp only
  rw [Nat.sub_self, List.drop_zero, List.getD_eq_getElem?_getD, List.getD_eq_getElem?_getD, List.getElem?_reverse (by omega), hl]
end Go.Proofs.YtfkojnofbpdjdaaGreatDoor

namespace Go.Proofs.YtfkojnofbpdjdaaGreatDoor
set_option maxRecDepth 100000
open Go.RowKit

theorem u8_info6 : (Tryz.prog.info? 5).map (fun i => (i.zero, i.size, i.bytes)) = some (some (.int .u8 0), 1, 1) := by kernel_rfl
theorem run_rev (s : ByteArray) (src dst : TypeId) {e : TypeId} (hs : Tryz.prog.underlying src = some (.slice e)) (he : Tryz.prog.underlying e = some (.int .u8)) (hd : Tryz.prog.underlying dst = some .string) (w : World) (g : Nat)
    (h : w.rowIs g e s.size (fun j => .int .u8 (bt s (s.size - 1 - j) : Int))) : (convert src dst (.slice (some ⟨g, 0, none⟩) s.size s.size)).run Tryz.prog w = .ok (.string (rvS s s.size)) w := by
  have hl : s.data.toList.length = s.size := (Lib.size_eq s).symm
  have := run_convert_bytes_back (P := Tryz.prog) w src dst e ⟨g, 0, none⟩ s.size s.data.toList.reverse hs he hd (fun j hj => by
    have hj2 : j < s.size := by simpa [hl] using hj
    rw [Addr.add_lit, Nat.zero_add, h.cell hj2]
    congr 2
    rw [List.getElem_reverse]
    unfold bt
    rw [List.getD_eq_getElem?_getD, List.getElem?_eq_getElem (by omega)]
    simp [hl])
  rw [List.length_reverse, hl] at this
  rw [this]
  congr 2
  unfold rvS
  rw [Nat.sub_self, List.drop_zero]

set_option maxRecDepth 100000 in
set_option maxHeartbeats 8000000 in
theorem reversed_any (s : ByteArray) (w : World) (hs : s.size ≤ 1048576) : Calls Tryz.prog 101 #[.string s] w fun e w' => e = .returned (.string (rvS s s.size)) ∧ Below w.heap.size w w' := by
  have hmk := fun w => run_make_row' (P := Tryz.prog) 89 5 (.int .u8 0) 1 Tryz.underlying89 u8_info6 rfl .i64 .i64 s.size (by omega) (by omega) w
  have HCV := Lib.hid (run_rev s 89 9 Tryz.underlying89 Tryz.underlying5 Tryz.underlying9)
  go_enter Tryz.func101, Tryz.ntmps101
  have HR0 : Hid ((w.alloc (.cells (madeCells #[.int .u8 0] s.size) 5)).rowIs w.heap.size 5 s.size (fun j => .int .u8 (if j < 0 then (bt s (s.size - 1 - j) : Int) else 0))) := (World.rowIs_made w (.int .u8 0) s.size 5).congr fun j _ => by rw [if_neg (Nat.not_lt_zero j)]
  have HB0 := Lib.hid ((Below.refl w.heap.size w).alloc (Nat.le_refl _) (.cells (madeCells #[.int .u8 0] s.size) 5))
  go_upto_region 2 with fail
  generalize hg : w.heap.size = g at HR0 ⊢
  generalize w.alloc (.cells (madeCells #[.int .u8 0] s.size) 5) = w1 at HR0 HB0 ⊢
  go_wp2_with fail
  go_loopg [10] s.size (fun gk kv wr => ∃ k : Nat, k ≤ s.size ∧ kv = .int .i64 k ∧ Hid (wr.rowIs g 5 s.size (fun j => .int .u8 (if j < k then (bt s (s.size - 1 - j) : Int) else 0))) ∧ Hid (Below w.heap.size w wr) ∧ s.size - k ≤ gk)
  case atStart => exact ⟨0, by omega, rfl, HR0.out, HB0.out, by omega⟩
  case round =>
    clear HR0 HB0
    obtain ⟨k, hk, rfl, HR, HB, hgk⟩ := hrel
    by_cases hkl : k < s.size
    · have hki : (k : Int) < (s.size : Int) := by omega
      obtain ⟨j, hj⟩ : ∃ j, j + k + 1 = s.size := ⟨s.size - 1 - k, by omega⟩
      have r0 := HR.out.cell (i := k) hkl
      have rf := HR.out.frozen k
      rw [if_neg (Nat.lt_irrefl k)] at r0
      have hjs : (j : Int) < (s.size : Int) := by omega
      have hjl : j < s.size := by omega
      have hj0 : (0 : Int) ≤ (j : Int) := by omega
      have HR1 : Hid ((wr.setCell ⟨g, k, none⟩ (.int .u8 (s[j].toNat : Int))).rowIs g 5 s.size (fun j => .int .u8 (if j < k + 1 then (bt s (s.size - 1 - j) : Int) else 0))) := (HR.out.set k (.int .u8 (s[j].toNat : Int))).congr fun i hi => by
        by_cases h : i = k
        · rw [if_pos h, if_pos (by omega), h, show s.size - 1 - k = j by omega, bt_get s j hjl]
        · rw [if_neg h]
          by_cases h2 : i < k
          · rw [if_pos h2, if_pos (by omega)]
          · rw [if_neg h2, if_neg (by omega)]
      obtain ⟨z, hz⟩ : ∃ z : Int, z = (s.size : Int) - 1 - (k : Int) := ⟨_, rfl⟩
      have hzj : z = (j : Int) := by omega
      subst hzj
      have hz2 : (s.size : Int) - 1 - (k : Int) = (j : Int) := hz.symm
      clear hz
      go_wp2_with fail
      go_roundg (s.size - (k + 1))
      case measure => omega
      case rel => exact ⟨k + 1, by omega, by go_num, HR1.out, HB.out.setCell (p := ⟨g, k, none⟩) (show w.heap.size ≤ g by omega) _, Nat.le_refl _⟩
    · obtain rfl : k = s.size := by omega
      have hki : ¬ (s.size : Int) < (s.size : Int) := by omega
      have hcv := HCV.out wr g (HR.out.congr fun j hj => by rw [if_pos hj])
      go_wp2_with fail
      go_ret
      exact ⟨rfl, hg ▸ HB.out⟩

end Go.Proofs.YtfkojnofbpdjdaaGreatDoor
