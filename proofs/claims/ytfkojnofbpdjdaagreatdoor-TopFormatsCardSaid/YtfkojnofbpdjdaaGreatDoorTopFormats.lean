
/-
  TopFormats: a fragment without tags in the three formats.
-/
import Derived.Test.YtfkojnofbpdjdaaGreatDoorPackF7
set_option linter.unusedVariables false
set_option linter.unusedSimpArgs false
namespace Go.Proofs.YtfkojnofbpdjdaaGreatDoor
set_option maxRecDepth 100000
open Go.RowKit

theorem bytes_le1024 : ∀ (f : List Tk), (∀ x ∈ f, x.t.size ≤ 1024) → bytesOf f ≤ 1024 * f.length
  | [], _ => by simp [bytesOf]
  | x :: f, h => by
    rw [show x :: f = [x] ++ f from rfl, bytesOf_append, bytesOf_one]
    have h1 := h x (by simp)
    have h2 := bytes_le1024 f fun y hy => h y (by simp [hy])
    simp
    omega
theorem step_len (out : List Tk) (x : Tk) : (normStep out x).length ≤ out.length + 1 := by
  by_cases hk : x.k = 1
  · by_cases h2 : x.t.size = 0
    · rw [step_empty out x hk h2]; omega
    · rcases List.eq_nil_or_concat out with rfl | ⟨o, y, rfl⟩
      · rw [step_first x hk h2]; simp
      · rw [List.concat_eq_append]
        by_cases hy : y.k = 1
        · rw [step_join o y x hk h2 hy]; simp
        · rw [step_new o y x hk h2 hy]; simp
  · rw [step_other out x hk]; simp
theorem norm_lenT (f : List Tk) : (normL f).length ≤ f.length := by
  suffices h : ∀ (g out : List Tk), (g.foldl normStep out).length ≤ out.length + g.length by
    have := h f []
    simpa [normL] using this
  intro g
  induction g with
  | nil => intro out; simp
  | cons x g ih =>
    intro out
    rw [List.foldl_cons]
    have h1 := ih (normStep out x)
    have h2 := step_len out x
    simp
    omega
theorem encF_lenT (fmt : Int) : ∀ (f : List Tk), (∀ x ∈ f, x.t.size ≤ 1024) → (encF fmt f).length ≤ 5123 * f.length
  | [], _ => by simp [encF]
  | x :: f, h => by
    have h1 := encE_len fmt x
    have h2 := encF_lenT fmt f fun y hy => h y (by simp [hy])
    have h3 := h x (by simp)
    rw [show encF fmt (x :: f) = encE fmt x ++ encF fmt f from rfl, List.length_append, List.length_cons]
    omega

/-- The fragment of the statement. -/
def fmtF (L : List Int) (s : ByteArray) : List Tk := normL ((fragG false L 0 ((6 : Nat) : Int)).1 ++ [⟨1, s, 0⟩])
theorem fmtF_ok (L : List Int) (s : ByteArray) (hs : s.size ≤ 200) : Normal (fmtF L s) ∧ (∀ x ∈ fmtF L s, PlainOk x) ∧ (fmtF L s).length ≤ 9 ∧ lenI (fmtF L s) ≤ 400 := by
  obtain ⟨h1, h2, h3, h4⟩ := fragG_plain L 0 6 (by decide)
  refine ⟨normL_normal _, plain_norm _ fun y hy => ?_, ?_, ?_⟩
  · rcases List.mem_append.1 hy with hy | hy
    · exact h2 y hy
    · rw [List.mem_singleton.1 hy]; exact .inl rfl
  · have := norm_lenT ((fragG false L 0 ((6 : Nat) : Int)).1 ++ [⟨1, s, 0⟩])
    unfold fmtF
    rw [List.length_append, List.length_singleton] at this
    omega
  · unfold fmtF
    rw [lenI_norm, lenI_appD]
    have : lenI [(⟨1, s, 0⟩ : Tk)] = s.size := by simp [lenI, wdI]
    omega
theorem fmtF_rdb (fmt : Int) (hf : fmt = 1 ∨ fmt = 2 ∨ fmt = 3) (L : List Int) (s : ByteArray) (hs : s.size ≤ 200) : Rdb fmt (ofL (encF fmt (fmtF L s))) (tsF fmt (fmtF L s)) ∧ RawOk fmt (tsF fmt (fmtF L s)) := by
  obtain ⟨h1, h2, h3, h4⟩ := fmtF_ok L s hs
  have hr := plain_raw fmt hf _ h2 (by omega)
  have hv := plain_val _ h1 h2 (by omega)
  refine ⟨⟨by rw [raw_tsF]; simp [ofL], hr.els, hr.len, ?_⟩, hr⟩
  rw [size_ofL]
  have := encF_lenT fmt _ (val_size _ hv)
  omega

theorem hB_fragP (w : World) (A : Option Addr) (n c : Nat) (W : World) (hb : But w.heap.size (w.alloc (.cells #[.slice A n c, .int .i64 0] 29)) W) : Below w.heap.size w W :=
  ((Below.refl w.heap.size w).alloc (Nat.le_refl _) _).trans ⟨hb.os, hb.tape, hb.output, hb.size, fun k hk => hb.block k (by simp; omega) (by omega)⟩

set_option maxRecDepth 100000 in
set_option maxHeartbeats 8000000 in
theorem topFormats_any (m : Int) (L : List Int) (s : ByteArray) (A : Option Addr) (c : Nat) (w : World) (hm : w.cell? ⟨0, 0, none⟩ = some (.int .i64 m)) (h : RdE intC 1 w (.slice A L.length c) L) (hin : ∀ x ∈ L, IntIn x) :
    Calls Tryz.prog 3 #[.slice A L.length c, .string s] w (fun e w' => e = .returned (.bool true) ∧ Below w.heap.size w w') := by
  have CK := Lib.hid (fun (W : World) (hW : Below w.heap.size w W) => topKnown_any m W (below_cell0 hm hW))
  have HB0 := Lib.hid (Below.refl w.heap.size w)
  by_cases h1 : 100 < L.length
  · have h1i : (100 : Int) < (L.length : Int) := by omega
    clear h hin hm
    go_enter Tryz.func3, Tryz.ntmps3
    go_wp2_with (go_at_call 7; refine (CK.out _ (by exact HB0.out)).mono ?_; rintro e w1 ⟨rfl, hb1⟩; have HB1 := Lib.hid hb1; clear hb1)
    go_ret
    exact ⟨rfl, HB1.out⟩
  by_cases h2 : 200 < s.size
  · have h1i : ¬ (100 : Int) < (L.length : Int) := by omega
    have h2i : (200 : Int) < (s.size : Int) := by omega
    clear h hin hm
    go_enter Tryz.func3, Tryz.ntmps3
    go_wp2_with (go_at_call 7; refine (CK.out _ (by exact HB0.out)).mono ?_; rintro e w1 ⟨rfl, hb1⟩; have HB1 := Lib.hid hb1; clear hb1)
    go_ret
    exact ⟨rfl, HB1.out⟩
  have h1i : ¬ (100 : Int) < (L.length : Int) := by omega
  have h2i : ¬ (200 : Int) < (s.size : Int) := by omega
  have hs : s.size ≤ 200 := by omega
  obtain ⟨f1, f2, f3, f4⟩ := fmtF_ok L s hs
  obtain ⟨g1, g2, g3, g4⟩ := fragG_plain L 0 6 (by decide)
  have hv := plain_val _ f1 f2 (by omega)
  have hgv := plain_val _ g1 g2 (by omega)
  have hgb := bytes_le1024 _ (val_size _ hgv)
  have R1 := fmtF_rdb 1 (.inl rfl) L s hs
  have R2 := fmtF_rdb 2 (.inr (.inl rfl)) L s hs
  have R3 := fmtF_rdb 3 (.inr (.inr rfl)) L s hs
  have hN : Nums (w.alloc (.cells #[.slice A L.length c, .int .i64 0] 29)) w.heap.size L 0 :=
    ⟨_, w, Array.getElem?_push_size, h, Nat.le_refl _, fun k hk => Below.heap_alloc _ _ _ hk, hin⟩
  have CF := Lib.hid (fragmentP_any L w.heap.size 6 _ hN (by decide))
  have CCT := Lib.hid (fun (v u : Value) (W : World) (ha : RdT W v (fragG false L 0 ((6 : Nat) : Int)).1) (hb : RdT W u [⟨1, s, 0⟩]) => rconcat_any (fragG false L 0 ((6 : Nat) : Int)).1 [⟨1, s, 0⟩] v u W ha hb (by rw [List.length_singleton]; omega) (by rw [bytesOf_one]; show _ + s.size ≤ _; omega))
  have HM : Hid (∀ W, Below w.heap.size w W → W.cell? ⟨0, 0, none⟩ = some (.int .i64 m)) := fun W hW => below_cell0 hm hW
  change Hid (∀ (v u : Value) (W : World), RdT W v (fragG false L 0 ((6 : Nat) : Int)).1 → RdT W u [⟨1, s, 0⟩] → Calls Tryz.prog 8 #[v, u] W (RetOwn 31 tkC 3 W (fmtF L s))) at CCT
  have EK := Lib.hid (fun (v : Value) (W : World) (hW : Below w.heap.size w W) (ha : RdT W v (fmtF L s)) => mkEncode_any _ v m W (HM.out W hW) ha hv (plain_noblock _ f2))
  have ER := Lib.hid (fun (v : Value) (W : World) (hW : Below w.heap.size w W) (ha : RdT W v (fmtF L s)) => rsEncode_any _ v m W (HM.out W hW) ha hv f2)
  have ES := Lib.hid (fun (v : Value) (W : World) (hW : Below w.heap.size w W) (ha : RdT W v (fmtF L s)) => shEncode_any _ v m W (HM.out W hW) ha hv f2)
  have DK := Lib.hid (fun (W : World) (hW : Below w.heap.size w W) => mkDecode_any _ _ m W (HM.out W hW) R1.1 R1.2.num)
  have DR := Lib.hid (fun (W : World) => rsDecode_any _ _ W R2.1 R2.2.cont)
  have DS := Lib.hid (fun (W : World) => shDecode_any _ _ W R3.1)
  rw [plain_back _ _ f1] at DK DR DS
  have CM := Lib.hid (fun (v u : Value) (W : World) (ha : RdT W v (fmtF L s)) (hb : RdT W u (fmtF L s)) => same3_yes _ v u W ha hb (by omega))
  have hsub := hB_fragP w A L.length c
  clear f1 f2 f3 f4 g1 g2 g3 g4 hv hgv hgb R1 R2 R3 hN h hin hm h1 h2
  generalize fmtF L s = F at *
  generalize ofL (encF 1 F) = e1 at *
  generalize ofL (encF 2 F) = e2 at *
  generalize ofL (encF 3 F) = e3 at *
  generalize (fragG false L 0 ((6 : Nat) : Int)).1 = G0 at *
  go_enter Tryz.func3, Tryz.ntmps3
  go_wp2_with (go_at_call 9; refine (CF.out).mono ?_; rintro e W1 ⟨v1, rfl, ho1, hbut⟩; obtain ⟨A1, c1, rfl⟩ := own_shape ho1; have HB1 := Lib.hid (hsub W1 hbut); have HG1 := Lib.hid (RdE.below (OwnE.rd tkC_three ho1) ((Below.refl W1.heap.size W1).alloc (Nat.le_refl _) (.cells #[.int .i64 1, .string s, .int .i64 0] 31)) (Nat.le_refl _)); have HI1 : Hid (RdT (W1.alloc (.cells #[.int .i64 1, .string s, .int .i64 0] 31)) (.slice (some ⟨W1.heap.size, 0, none⟩) 1 1) [⟨1, s, 0⟩]) := rdE_oneR tkC 3 tkC_three W1 _ rfl ⟨1, s, 0⟩ _; have HB2 := Lib.hid (HB1.out.alloc HB1.out.size (.cells #[.int .i64 1, .string s, .int .i64 0] 31)); clear ho1 hbut)
  go_upto_region 10 with (first
    | (go_at_call 8; refine (CCT.out _ _ _ (by exact HG1.out) (by exact HI1.out)).mono ?_; rintro e W3 ⟨v, rfl, ho, hb⟩; obtain ⟨A3, c3, rfl⟩ := own_shape ho; have HB3 := Lib.hid (HB2.out.trans (hb.mono HB2.out.size)); have HF3 := Lib.hid (OwnE.rd tkC_three ho); clear ho hb)
    | (go_at_call 10; refine (EK.out _ _ (by exact HB3.out) (by exact HF3.out)).mono ?_; rintro e W4 ⟨rfl, hb⟩; have HB4 := Lib.hid (HB3.out.trans (hb.mono HB3.out.size)); have HF4 := Lib.hid (RdE.below HF3.out hb (Nat.le_refl _)); clear hb)
    | (go_at_call 11; refine (ER.out _ _ (by exact HB4.out) (by exact HF4.out)).mono ?_; rintro e W5 ⟨rfl, hb⟩; have HB5 := Lib.hid (HB4.out.trans (hb.mono HB4.out.size)); have HF5 := Lib.hid (RdE.below HF4.out hb (Nat.le_refl _)); clear hb)
    | (go_at_call 12; refine (ES.out _ _ (by exact HB5.out) (by exact HF5.out)).mono ?_; rintro e W6 ⟨rfl, hb⟩; have HB6 := Lib.hid (HB5.out.trans (hb.mono HB5.out.size)); have HF6 := Lib.hid (RdE.below HF5.out hb (Nat.le_refl _)); clear hb)
    | (go_at_call 13; refine (DK.out _ (by exact HB6.out)).mono ?_; rintro e W7 ⟨v, rfl, ho, hb⟩; obtain ⟨A7, c7, rfl⟩ := own_shape ho; have HB7 := Lib.hid (HB6.out.trans (hb.mono HB6.out.size)); have HF7 := Lib.hid (RdE.below HF6.out hb (Nat.le_refl _)); have HK7 := Lib.hid (OwnE.rd tkC_three ho); clear ho hb)
    | (go_at_call 14; refine (DR.out _).mono ?_; rintro e W8 ⟨v, rfl, ho, hb⟩; obtain ⟨A8, c8, rfl⟩ := own_shape ho; have HB8 := Lib.hid (HB7.out.trans (hb.mono HB7.out.size)); have HF8 := Lib.hid (RdE.below HF7.out hb (Nat.le_refl _)); have HK8 := Lib.hid (RdE.below HK7.out hb (Nat.le_refl _)); have HR8 := Lib.hid (OwnE.rd tkC_three ho); clear ho hb)
    | (go_at_call 15; refine (DS.out _).mono ?_; rintro e W9 ⟨v, rfl, ho, hb⟩; obtain ⟨A9, c9, rfl⟩ := own_shape ho; have HB9 := Lib.hid (HB8.out.trans (hb.mono HB8.out.size)); have HF9 := Lib.hid (RdE.below HF8.out hb (Nat.le_refl _)); have HK9 := Lib.hid (RdE.below HK8.out hb (Nat.le_refl _)); have HR9 := Lib.hid (RdE.below HR8.out hb (Nat.le_refl _)); have HS9 := Lib.hid (OwnE.rd tkC_three ho); clear ho hb))
  have HD := Lib.hid (fun n => below_drewN HB9.out n)
  have HDF := Lib.hid (fun n => RdE.below HF9.out (below_drewN (Below.refl W9.heap.size W9) n) (Nat.le_refl _))
  have HDK := Lib.hid (fun n => RdE.below HK9.out (below_drewN (Below.refl W9.heap.size W9) n) (Nat.le_refl _))
  have HDR := Lib.hid (fun n => RdE.below HR9.out (below_drewN (Below.refl W9.heap.size W9) n) (Nat.le_refl _))
  have HDS := Lib.hid (fun n => RdE.below HS9.out (below_drewN (Below.refl W9.heap.size W9) n) (Nat.le_refl _))
  have M1 := Lib.hid (CM.out _ _ W9 HF9.out HK9.out)
  have M2 := Lib.hid (fun n => CM.out _ _ (W9.drewN n) (HDF.out n) (HDR.out n))
  have M3 := Lib.hid (fun n => CM.out _ _ (W9.drewN n) (HDF.out n) (HDS.out n))
  go_wp2_with fail
  refine (M1.out).mono ?_
  rintro e w' ⟨rfl, n1, rfl⟩
  go_wp2_with fail
  refine (M2.out _).mono ?_
  rintro e w' ⟨rfl, n2, rfl⟩
  rw [World.drewN_drewN]
  go_wp2_with fail
  refine (M3.out _).mono ?_
  rintro e w' ⟨rfl, n3, rfl⟩
  rw [World.drewN_drewN]
  go_wp2_with fail
  refine (CK.out _ (HD.out _)).mono ?_
  rintro e w' ⟨rfl, hb⟩
  have HZ := Lib.hid ((HD.out _).trans (hb.mono (HD.out _).size))
  clear hb
  go_wp2_with fail
  go_ret
  exact ⟨rfl, HZ.out⟩

theorem walk_TopFormats (A : Option Addr) (n c : Nat) (l : List Int) (s : ByteArray) (w : World) (hg : Got w) (h0 : n = l.length ∧ l.length ≤ maxLen ∧ RdE intC 1 w (.slice A n c) l ∧ ∀ x ∈ l, IntIn x) (h1 : s.size ≤ maxLen) :
    Calls Tryz.prog 3 #[.slice A n c, .string s] w fun e w' => e = .returned (.bool true) ∧ Below w.heap.size w w' := by
  obtain ⟨rfl, hlm, hr, hin⟩ := h0
  obtain ⟨m, hm⟩ := hg
  exact topFormats_any m l s A c w hm hr hin

end Go.Proofs.YtfkojnofbpdjdaaGreatDoor
