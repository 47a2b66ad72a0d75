/-
  Contracts and plain laws that this claim leans on, part 4.
-/
import Derived.Test.YtpboaadjbkaidaaDoorPackV3
import Derived.Test.YtpboaadjbkaidaaDoorPackV2
import Derived.Lib.SliceRun
import Derived.Test.YtpboaadjbkaidaaDoorPackV1
import Derived.Deep.LoopGhost
import Derived.Shelf.Strings.Cut
import Derived.Shelf.Strings.Split
import Derived.Shelf.Vars
import Derived.Test.YtpboaadjbkaidaaDoorProg
import Derived.Test.YtpboaadjbkaidaaDoorRows
import Derived.ProofKit
import Derived.LaidMore
import Derived.Lay
import Derived.SizedLaws
import Derived.Stop.Joined
set_option linter.unusedVariables false
set_option linter.unusedSimpArgs false
namespace Go.Proofs.YtpboaadjbkaidaaDoor
set_option maxRecDepth 100000
open Go.RowKit

/-- Block g holds n atoms, which may be written. -/
def RowA (w : World) (g n : Nat) (q : Nat → At) : Prop := g < w.heap.size ∧ ∀ t, t < n → w.rangeAt g (t * 34) (atC (q t)) ∧ w.there g (t * 34) 34
theorem RowA.congr {w : World} {g n : Nat} {q r : Nat → At} (h : RowA w g n q) (e : ∀ t, t < n → q t = r t) : RowA w g n r :=
  ⟨h.1, fun t ht => by rw [← e t ht]; exact h.2 t ht⟩
theorem RowA.drew {w : World} {g n : Nat} {q : Nat → At} (h : RowA w g n q) : RowA w.drew g n q := h
theorem setCells_size (g : Nat) : ∀ (vs : List Value) (o : Nat) (w : World), (w.setCells g o vs).heap.size = w.heap.size
  | [], _, _ => rfl
  | v :: r, o, w => by rw [World.setCells, setCells_size g r]; simp [World.setCell]
theorem below_setCells {B : Nat} {a : World} {g : Nat} (hg : B ≤ g) : ∀ (vs : List Value) (o : Nat) (w : World), Below B a w → Below B a (w.setCells g o vs)
  | [], _, _, h => h
  | v :: r, o, w, h => by rw [World.setCells]; exact below_setCells hg r _ _ (h.setCell (p := ⟨g, o, none⟩) hg v)
theorem RowA.set {w : World} {g n : Nat} {q : Nat → At} (h : RowA w g n q) (i : Nat) (hi : i < n) (x : At) : RowA (w.setCells g (i * 34) (atC x)) g n (fun t => if t = i then x else q t) :=
  ⟨by rw [setCells_size]; exact h.1, fun t ht => by
    refine ⟨?_, World.there_setCells (h.2 t ht).2 _ _ _⟩
    by_cases hti : t = i
    · subst hti
      show (w.setCells g (t * 34) (atC x)).rangeAt g (t * 34) (atC (if t = t then x else q t))
      rw [if_pos rfl]
      exact World.rangeAt_setCells_same w g (t * 34) (atC x) (by rw [atC_len]; exact (h.2 t ht).2)
    · show (w.setCells g (i * 34) (atC x)).rangeAt g (t * 34) (atC (if t = i then x else q t))
      rw [if_neg hti]
      refine World.rangeAt_setCells_apart (h.2 t ht).1 _ _ _ (.inr ?_)
      rw [atC_len, atC_len]
      omega⟩
def atAt (l : List At) (t : Nat) : At := l.getD t ⟨noP, 0, false⟩
theorem atAt_get (l : List At) (t : Nat) (h : t < l.length) : l[t]? = some (atAt l t) := by
  unfold atAt
  rw [List.getD_eq_getElem?_getD, List.getElem?_eq_getElem h]
  rfl
theorem RowA.of {w : World} {B g cap : Nat} {l : List At} (h : OwnE 26 atC 34 w B (.slice (some ⟨g, 0, none⟩) l.length cap) l) : RowA w g l.length (atAt l) ∧ B ≤ g := by
  obtain ⟨h0, h1 | ⟨g', cap', cur, hv, hbg, hg, hn, hm, hs, ht⟩⟩ := h
  · exact absurd h1.1 (by simp)
  injection hv with e1 _ _
  injection e1 with e1
  injection e1 with e1 _ _
  subst e1
  refine ⟨⟨(Array.getElem?_eq_some_iff.1 hg).1, fun t ht2 => ?_⟩, hbg⟩
  have hlt : ∀ j, j < 34 → t * 34 + j < l.length * 34 := fun j hj => by
    have : (t + 1) * 34 ≤ l.length * 34 := Nat.mul_le_mul_right _ ht2
    omega
  have hcell : ∀ j, j < 34 → w.cell? ⟨g, t * 34 + j, none⟩ = (atC (atAt l t))[j]? := fun j hj => by
    rw [cell_of_row _ _ _ _ _ _ hg]
    have h2 := flat_get atC 34 atC_len l t j (atAt l t) (atAt_get l t ht2) hj
    rw [← h2, ← ht, List.getElem?_take_of_lt (hlt j hj)]
    simp
  refine ⟨fun j v hj => ?_, fun j hj => ⟨?_, frozen_of_row _ _ _ _ _ hg⟩⟩
  · have hj34 : j < 34 := by rw [← atC_len (atAt l t)]; exact (List.getElem?_eq_some_iff.1 hj).1
    rw [hcell j hj34, hj]
  · rw [hcell j hj, List.getElem?_eq_getElem (by rw [atC_len]; exact hj)]
    rfl
theorem RowA.rd {w : World} {g n c : Nat} {q : Nat → At} (h : RowA w g n q) (l : List At) (hl : l.length = n) (hc : n ≤ c) (hq : ∀ t x, l[t]? = some x → q t = x) : RdE atC 34 w (.slice (some ⟨g, 0, none⟩) n c) l := by
  subst hl
  refine ⟨some ⟨g, 0, none⟩, c, rfl, hc, (fun e => by cases e), fun _ => ⟨g, 0, rfl, h.1, fun i x j u hi hj => ?_⟩⟩
  have hin := (List.getElem?_eq_some_iff.1 hi).1
  have := (h.2 i hin).1 j u (by rw [hq i x hi]; exact hj)
  rw [Nat.zero_add]
  exact this
/-- The first i and the last i exchanged. -/
def mirr (n i : Nat) (L : Nat → At) (t : Nat) : At := if t < i ∨ n ≤ t + i then L (n - 1 - t) else L t
theorem mirr_zero (n : Nat) (L : Nat → At) : ∀ t, t < n → L t = mirr n 0 L t := fun t ht => by
  unfold mirr
  rw [if_neg (by omega)]
theorem mirr_step (n i j : Nat) (L : Nat → At) (hj : j + i + 1 = n) (hij : i < j) : ∀ t, t < n →
    (if t = j then mirr n i L i else if t = i then mirr n i L j else mirr n i L t) = mirr n (i + 1) L t := fun t ht => by
  unfold mirr
  by_cases h1 : t = j
  · rw [if_pos h1, if_neg (show ¬ (i < i ∨ n ≤ i + i) by omega), if_pos (show t < i + 1 ∨ n ≤ t + (i + 1) by omega)]
    congr 1
    omega
  · rw [if_neg h1]
    by_cases h2 : t = i
    · rw [if_pos h2, if_neg (show ¬ (j < i ∨ n ≤ j + i) by omega), if_pos (show t < i + 1 ∨ n ≤ t + (i + 1) by omega)]
      congr 1
      omega
    · rw [if_neg h2]
      by_cases h3 : t < i ∨ n ≤ t + i
      · rw [if_pos h3, if_pos (show t < i + 1 ∨ n ≤ t + (i + 1) by omega)]
      · rw [if_neg h3, if_neg (show ¬ (t < i + 1 ∨ n ≤ t + (i + 1)) by omega)]
theorem mirr_end (n i : Nat) (L : Nat → At) (h1 : n ≤ 2 * i + 1) : ∀ t, t < n → mirr n i L t = L (n - 1 - t) := fun t ht => by
  unfold mirr
  by_cases h3 : t < i ∨ n ≤ t + i
  · rw [if_pos h3]
  · rw [if_neg h3]
    congr 1
    omega
theorem rev_at (l : List At) (t : Nat) (x : At) (h : l.reverse[t]? = some x) : atAt l (l.length - 1 - t) = x := by
  have ht : t < l.length := by simpa using (List.getElem?_eq_some_iff.1 h).1
  rw [List.getElem?_reverse ht, atAt_get l (l.length - 1 - t) (by omega)] at h
  exact Option.some.inj h
def RetRd (w : World) (B : Nat) (l : List At) (e : Ending) (w' : World) : Prop := ∃ v, e = .returned v ∧ RdE atC 34 w' v l ∧ Below B w w'
def RetOwnA (w : World) (l : List At) (e : Ending) (w' : World) : Prop := ∃ v, e = .returned v ∧ OwnE 26 atC 34 w' w.heap.size v l ∧ Below w.heap.size w w'

set_option maxRecDepth 100000 in
set_option maxHeartbeats 4000000 in
theorem clone_any (l : List At) (v : Value) (w : World) (hp : RdE atC 34 w v l) (hl : l.length ≤ 140737488355) :
    Calls Tryd.prog 83 #[v] w (RetOwnA w l) := by
  obtain ⟨R, HRR⟩ : ∃ R, Hid (R = RetOwnA w l) := ⟨_, rfl⟩
  rw [← HRR.out]
  have q22 : ∀ (w : World) (a : Option Addr) (n c n' c' : Nat), (binOp .eql 28 (.slice a n c) (.slice none n' c')).run Tryd.prog w = .ok (.bool a.isNone) w := fun w a n c n' c' => Lib.run_eql_slice_nil w _ _ a n c n' c' Tryd.underlying28
  obtain ⟨A, c, rfl, hlc, hn⟩ := hp.shape
  have HP := Lib.hid hp
  clear hp
  rcases A with _ | ad
  · have hc0 := hn rfl
    obtain rfl : l = [] := List.eq_nil_of_length_eq_zero (by omega)
    obtain rfl : c = 0 := hc0
    clear hn
    go_enter Tryd.func83, Tryd.ntmps83
    go_wp2_with fail
    rw [HRR.out]
    exact ⟨_, rfl, OwnE.nil, Below.refl _ _⟩
  · clear hn
    have HO : Hid (OwnE 26 atC 34 (w.alloc (.cells #[] 26)) w.heap.size (.slice (some ⟨w.heap.size, 0, none⟩) 0 0) []) := World.ownsRow_made (base := w.heap.size) (e := 26) (size := 34) w #[] 0 (Nat.le_refl _) (by decide) rfl
    have HQ := Lib.hid (HP.out.alloc (.cells #[] 26))
    go_enter Tryd.func83, Tryd.ntmps83
    go_wp2_with (refine wpList_appE rfl (.tmp 5) (.tmp 6) 28 26 rfl Tryd.underlying28 _ atC 34 48 atom_info rfl (by decide) atC_len atC_one w.heap.size (.slice (some ⟨w.heap.size, 0, none⟩) 0 0) [] rfl HO.out _ l rfl HQ.out (by simp only [List.length_nil]; omega) (by decide) (by simp) ?_; intro v1 w1 hown1 hbel1 hgrow1)
    rw [HRR.out]
    exact ⟨v1, rfl, hown1, hbel1 w.heap.size w (Nat.le_refl _) ((Below.refl _ w).alloc (Nat.le_refl _) _)⟩

set_option maxRecDepth 100000 in
set_option maxHeartbeats 8000000 in
theorem turn_any (B g c n : Nat) (L : Nat → At) (w : World) (hr : RowA w g n L) (hB : B ≤ g) (hn : n ≤ 140737488355) :
    Calls Tryd.prog 84 #[.slice (some ⟨g, 0, none⟩) n c] w fun e w' => e = .returned (.tuple #[]) ∧ RowA w' g n (fun t => L (n - 1 - t)) ∧ Below B w w' := by
  have hu := Tryd.underlying26
  have hi : (Tryd.prog.info? 26).map (·.size) = some 34 := atom_size
  have HR0 := Lib.hid (hr.congr (mirr_zero n L))
  have HB0 := Lib.hid (Below.refl B w)
  clear hr
  go_enter Tryd.func84, Tryd.ntmps84
  go_wp2_with fail
  obtain ⟨wo, HW⟩ : ∃ wo : World, Hid (wo = w) := ⟨w, rfl⟩
  go_loopg [2, 3] (n + 1) (fun m iv jv wr => ∃ i : Nat, iv = .int .i64 i ∧ jv = .int .i64 ((n : Int) - 1 - i) ∧ 2 * i ≤ n ∧ Hid (RowA wr g n (mirr n i L)) ∧ Hid (Below B w wr) ∧ n - i ≤ m)
  case atStart => exact ⟨0, rfl, by simp, by omega, HR0.out, HB0.out, by omega⟩
  case round =>
    clear HR0 HB0
    obtain ⟨i, rfl, rfl, hi2, HR, HB, hm⟩ := hrel
    by_cases hlt : 2 * i + 1 < n
    · have hlti : (i : Int) < (n : Int) - 1 - (i : Int) := by omega
      obtain ⟨j, hj⟩ : ∃ j, j + i + 1 = n := ⟨n - 1 - i, by omega⟩
      have hij : i < j := by omega
      have hin : (i : Int) < (n : Int) := by omega
      have hjn : (j : Int) < (n : Int) := by omega
      obtain ⟨k, hk⟩ : ∃ k : Int, k = (n : Int) - 1 - (i : Int) := ⟨_, rfl⟩
      rw [← hk] at hlti ⊢
      obtain rfl : k = (j : Int) := by omega
      clear hk
      have hji : (i : Int) < (j : Int) := by omega
      obtain ⟨q, HQ⟩ : ∃ q, Hid (q = mirr n i L) := ⟨_, rfl⟩
      have HST : Hid (∀ t, t < n → (if t = j then q i else if t = i then q j else q t) = mirr n (i + 1) L t) := by
        show _
        rw [HQ.out]
        exact mirr_step n i j L hj hij
      rw [← HQ.out] at HR
      clear HQ hlti
      have S1 : Hid (wr.drew.there g (i * 34) (atC (q j)).length) := by show World.there _ _ _ _; rw [atC_len]; exact (HR.out.drew.2 i (by omega)).2
      have HR1 := Lib.hid (HR.out.drew.set i (by omega) (q j))
      have S2 : Hid ((wr.drew.setCells g (i * 34) (atC (q j))).there g (j * 34) (atC (q i)).length) := by show World.there _ _ _ _; rw [atC_len]; exact (HR1.out.2 j (by omega)).2
      have HR2 := Lib.hid ((HR1.out.set j (by omega) (q i)).congr HST.out)
      have HB2 := Lib.hid (below_setCells hB (atC (q i)) (j * 34) _ (below_setCells hB (atC (q j)) (i * 34) _ HB.out.drew))
      have hsz1 : (Tryd.prog.info? 26).map (·.size) = some (atC (q j)).length := by rw [hi, atC_len]
      have hsz2 : (Tryd.prog.info? 26).map (·.size) = some (atC (q i)).length := by rw [hi, atC_len]
      have HI1 : Hid (∀ w, (Instr.indexAt 28 (.slice (some ⟨g, 0, none⟩) n c) (.int .i64 i)).run Tryd.prog w = .ok (.pointer (some ⟨g, i * 34, none⟩)) w) := fun w => by go_simp
      have HI2 : Hid (∀ w, (Instr.indexAt 28 (.slice (some ⟨g, 0, none⟩) n c) (.int .i64 j)).run Tryd.prog w = .ok (.pointer (some ⟨g, j * 34, none⟩)) w) := fun w => by go_simp
      go_wp2_with fail
      refine wp_region_at 16 #[false, false, false, false, false, false, false, false, false, false, false, false, false, false, false, false] rfl rfl (by kernel_rfl) ?_
      refine wpAny_at (i := 0) (v := .slice (some ⟨g, 0, none⟩) n c) (some 14) rfl rfl (by kernel_rfl) (by kernel_rfl) (by kernel_rfl) (fun _ _ _ h => h) (by kernel_rfl) (fun _ => ex_move _ _ rfl (by kernel_rfl)) ?_
      simp only [Act.put, List.setIfInBounds_toArray, List.set_cons_zero, List.set_cons_succ]
      refine wpAny_at (i := 1) (v := .int .i64 i) (some 15) rfl rfl (by kernel_rfl) (by kernel_rfl) (by kernel_rfl) (fun _ _ _ h => h) (by kernel_rfl) (fun _ => ex_move _ _ rfl (by kernel_rfl)) ?_
      simp only [Act.put, List.setIfInBounds_toArray, List.set_cons_zero, List.set_cons_succ]
      refine wpAny_at (i := 2) (v := .slice (some ⟨g, 0, none⟩) n c) (some 16) rfl rfl (by kernel_rfl) (by kernel_rfl) (by kernel_rfl) (fun _ _ _ h => h) (by kernel_rfl) (fun _ => ex_move _ _ rfl (by kernel_rfl)) ?_
      simp only [Act.put, List.setIfInBounds_toArray, List.set_cons_zero, List.set_cons_succ]
      refine wpAny_at (i := 3) (v := .int .i64 j) (some 17) rfl rfl (by kernel_rfl) (by kernel_rfl) (by kernel_rfl) (fun _ _ _ h => h) (by kernel_rfl) (fun _ => ex_move _ _ rfl (by kernel_rfl)) ?_
      simp only [Act.put, List.setIfInBounds_toArray, List.set_cons_zero, List.set_cons_succ]
      refine wpAny_at (i := 4) (v := .slice (some ⟨g, 0, none⟩) n c) (some 18) rfl rfl (by kernel_rfl) (by kernel_rfl) (by kernel_rfl) (fun _ _ _ h => h) (by kernel_rfl) (fun _ => ex_move _ _ rfl (by kernel_rfl)) ?_
      simp only [Act.put, List.setIfInBounds_toArray, List.set_cons_zero, List.set_cons_succ]
      refine wpAny_at (i := 5) (v := .int .i64 j) (some 19) rfl rfl (by kernel_rfl) (by kernel_rfl) (by kernel_rfl) (fun _ _ _ h => h) (by kernel_rfl) (fun _ => ex_move _ _ rfl (by kernel_rfl)) ?_
      simp only [Act.put, List.setIfInBounds_toArray, List.set_cons_zero, List.set_cons_succ]
      refine wpAny_at (i := 6) (v := .pointer (some ⟨g, j * 34, none⟩)) (some 20) rfl rfl (by kernel_rfl) (by kernel_rfl) (by kernel_rfl) (fun _ _ _ h => h) (by kernel_rfl) (fun _ => ex_indexAddr 28 _ _ (.slice (some ⟨g, 0, none⟩) n c) (.int .i64 j) _ rfl (by kernel_rfl) (by kernel_rfl) (HI2.out _)) ?_
      simp only [Act.put, List.setIfInBounds_toArray, List.set_cons_zero, List.set_cons_succ]
      refine wpAny_at (i := 8) (v := .slice (some ⟨g, 0, none⟩) n c) (some 22) rfl rfl (by kernel_rfl) (by kernel_rfl) (by kernel_rfl) (fun _ _ _ h => h) (by kernel_rfl) (fun _ => ex_move _ _ rfl (by kernel_rfl)) ?_
      simp only [Act.put, List.setIfInBounds_toArray, List.set_cons_zero, List.set_cons_succ]
      refine wpAny_at (i := 9) (v := .int .i64 i) (some 23) rfl rfl (by kernel_rfl) (by kernel_rfl) (by kernel_rfl) (fun _ _ _ h => h) (by kernel_rfl) (fun _ => ex_move _ _ rfl (by kernel_rfl)) ?_
      simp only [Act.put, List.setIfInBounds_toArray, List.set_cons_zero, List.set_cons_succ]
      refine wpAny_at (i := 10) (v := .pointer (some ⟨g, i * 34, none⟩)) (some 24) rfl rfl (by kernel_rfl) (by kernel_rfl) (by kernel_rfl) (fun _ _ _ h => h) (by kernel_rfl) (fun _ => ex_indexAddr 28 _ _ (.slice (some ⟨g, 0, none⟩) n c) (.int .i64 i) _ rfl (by kernel_rfl) (by kernel_rfl) (HI1.out _)) ?_
      simp only [Act.put, List.setIfInBounds_toArray, List.set_cons_zero, List.set_cons_succ]
      refine wpAny_loads 7 11 (some 21) (some 25) (by kernel_rfl) rfl rfl rfl rfl (by kernel_rfl) (by kernel_rfl) 26 (.tmp 20) rfl (g) (j * 34) (by kernel_rfl) (atC (q j)) _ ((HR.out.drew.2 j (by omega)).1) hu rfl (by rw [hi, atC_len]) 26 (.tmp 24) rfl (g) (i * 34) (by kernel_rfl) (atC (q i)) _ ((HR.out.drew.2 i (by omega)).1) hu rfl (by rw [hi, atC_len]) ?_ ?_
      · simp only [Act.put, List.setIfInBounds_toArray, List.set_cons_zero, List.set_cons_succ]
        refine wpAny_load 11 (some 25) (by kernel_rfl) rfl rfl (by kernel_rfl) 26 (.tmp 24) rfl (g) (i * 34) (by kernel_rfl) (atC (q i)) _ ((HR.out.drew.2 i (by omega)).1) hu rfl (by rw [hi, atC_len]) ?_
        simp only [Act.put, List.setIfInBounds_toArray, List.set_cons_zero, List.set_cons_succ]
        refine wpAny_at (i := 12) (v := .pointer (some ⟨g, i * 34, none⟩)) (some 26) rfl rfl (by kernel_rfl) (by kernel_rfl) (by kernel_rfl) (fun _ _ _ h => h) (by kernel_rfl) (fun _ => ex_indexAddr 28 _ _ (.slice (some ⟨g, 0, none⟩) n c) (.int .i64 i) _ rfl (by kernel_rfl) (by kernel_rfl) (HI1.out _)) ?_
        simp only [Act.put, List.setIfInBounds_toArray, List.set_cons_zero, List.set_cons_succ]
        refine wpAny_store 13 (by kernel_rfl) rfl rfl (by kernel_rfl) 26 (.tmp 26) (.tmp 21) rfl (g) (i * 34) (atC (q j)) (by kernel_rfl) (by kernel_rfl) (S1.out) (hsz1) (atC_oneA _) ?_
        simp only [Act.put, List.setIfInBounds_toArray, List.set_cons_zero, List.set_cons_succ]
        refine wpAny_at (i := 14) (v := .pointer (some ⟨g, j * 34, none⟩)) (some 27) rfl rfl (by kernel_rfl) (by kernel_rfl) (by kernel_rfl) (fun _ _ _ h => h) (by kernel_rfl) (fun _ => ex_indexAddr 28 _ _ (.slice (some ⟨g, 0, none⟩) n c) (.int .i64 j) _ rfl (by kernel_rfl) (by kernel_rfl) (HI2.out _)) ?_
        simp only [Act.put, List.setIfInBounds_toArray, List.set_cons_zero, List.set_cons_succ]
        refine wpAny_store 15 (by kernel_rfl) rfl rfl (by kernel_rfl) 26 (.tmp 27) (.tmp 25) rfl (g) (j * 34) (atC (q i)) (by kernel_rfl) (by kernel_rfl) (S2.out) (hsz2) (atC_oneA _) ?_
        simp only [Act.put, List.setIfInBounds_toArray, List.set_cons_zero, List.set_cons_succ]
        refine wpAny_done (by kernel_rfl) ?_ _
        go_wp2_with fail
        go_roundg (n - (i + 1))
        case measure => omega
        case rel => exact ⟨i + 1, by go_num, by (show Value.int .i64 _ = Value.int .i64 _); congr 1; omega, by omega, HR2.out, HB2.out, Nat.le_refl _⟩
      · simp only [Act.put, List.setIfInBounds_toArray, List.set_cons_zero, List.set_cons_succ]
        refine wpAny_load 7 (some 21) (by kernel_rfl) rfl rfl (by kernel_rfl) 26 (.tmp 20) rfl (g) (j * 34) (by kernel_rfl) (atC (q j)) _ ((HR.out.drew.2 j (by omega)).1) hu rfl (by rw [hi, atC_len]) ?_
        simp only [Act.put, List.setIfInBounds_toArray, List.set_cons_zero, List.set_cons_succ]
        refine wpAny_at (i := 12) (v := .pointer (some ⟨g, i * 34, none⟩)) (some 26) rfl rfl (by kernel_rfl) (by kernel_rfl) (by kernel_rfl) (fun _ _ _ h => h) (by kernel_rfl) (fun _ => ex_indexAddr 28 _ _ (.slice (some ⟨g, 0, none⟩) n c) (.int .i64 i) _ rfl (by kernel_rfl) (by kernel_rfl) (HI1.out _)) ?_
        simp only [Act.put, List.setIfInBounds_toArray, List.set_cons_zero, List.set_cons_succ]
        refine wpAny_store 13 (by kernel_rfl) rfl rfl (by kernel_rfl) 26 (.tmp 26) (.tmp 21) rfl (g) (i * 34) (atC (q j)) (by kernel_rfl) (by kernel_rfl) (S1.out) (hsz1) (atC_oneA _) ?_
        simp only [Act.put, List.setIfInBounds_toArray, List.set_cons_zero, List.set_cons_succ]
        refine wpAny_at (i := 14) (v := .pointer (some ⟨g, j * 34, none⟩)) (some 27) rfl rfl (by kernel_rfl) (by kernel_rfl) (by kernel_rfl) (fun _ _ _ h => h) (by kernel_rfl) (fun _ => ex_indexAddr 28 _ _ (.slice (some ⟨g, 0, none⟩) n c) (.int .i64 j) _ rfl (by kernel_rfl) (by kernel_rfl) (HI2.out _)) ?_
        simp only [Act.put, List.setIfInBounds_toArray, List.set_cons_zero, List.set_cons_succ]
        refine wpAny_store 15 (by kernel_rfl) rfl rfl (by kernel_rfl) 26 (.tmp 27) (.tmp 25) rfl (g) (j * 34) (atC (q i)) (by kernel_rfl) (by kernel_rfl) (S2.out) (hsz2) (atC_oneA _) ?_
        simp only [Act.put, List.setIfInBounds_toArray, List.set_cons_zero, List.set_cons_succ]
        refine wpAny_done (by kernel_rfl) ?_ _
        go_wp2_with fail
        go_roundg (n - (i + 1))
        case measure => omega
        case rel => exact ⟨i + 1, by go_num, by (show Value.int .i64 _ = Value.int .i64 _); congr 1; omega, by omega, HR2.out, HB2.out, Nat.le_refl _⟩
    · have hlti : ¬ (i : Int) < (n : Int) - 1 - (i : Int) := by omega
      have HE := Lib.hid (HR.out.congr (mirr_end n i L (by omega)))
      go_wp2_with fail
      go_end0
      exact ⟨rfl, HE.out, HB.out⟩

end Go.Proofs.YtpboaadjbkaidaaDoor

namespace Go.Proofs.YtpboaadjbkaidaaDoor
set_option maxRecDepth 100000
open Go.RowKit

set_option maxRecDepth 100000 in
set_option maxHeartbeats 4000000 in
theorem turn_nil (a : Option Addr) (c : Nat) (w : World) :
    Calls Tryd.prog 84 #[.slice a 0 c] w fun e w' => e = .returned (.tuple #[]) ∧ w = w' := by
  go_enter Tryd.func84, Tryd.ntmps84
  go_wp2_with fail
  go_loopg [2, 3] 0 (fun _ s2 s3 wr => s2 = .int .i64 0 ∧ s3 = .int .i64 (-1) ∧ w = wr)
  case atStart => exact ⟨rfl, rfl, rfl⟩
  case round =>
    obtain ⟨rfl, rfl, rfl⟩ := hrel
    go_wp2_with fail
    go_end0
    exact ⟨rfl, rfl⟩

set_option maxRecDepth 100000 in
set_option maxHeartbeats 4000000 in
theorem revp_any (l : List At) (v : Value) (w : World) (hp : RdE atC 34 w v l) (hl : l.length ≤ 140737488355) :
    Calls Tryd.prog 51 #[v] w (RetRd w w.heap.size l.reverse) := by
  obtain ⟨R, HRR⟩ : ∃ R, Hid (R = RetRd w w.heap.size l.reverse) := ⟨_, rfl⟩
  rw [← HRR.out]
  have HC := Lib.hid (clone_any l v w hp hl)
  clear hp
  go_enter Tryd.func51, Tryd.ntmps51
  go_upto_region 2 with (go_at_call 83; refine HC.out.mono ?_; rintro e w1 ⟨v1, rfl, hown, hb1⟩)
  have HB1 := Lib.hid hb1
  rcases hown.2 with ⟨rfl, h0⟩ | ⟨g, cap, cur, rfl, hbg, hh, hc, hcm, hs, htk⟩
  · obtain rfl : l = [] := List.eq_nil_of_length_eq_zero h0
    clear hown hb1 HC
    go_wp2_with (go_at_call 84; refine (turn_nil _ _ _).mono ?_; rintro e w' ⟨rfl, rfl⟩)
    rw [HRR.out]
    exact ⟨_, rfl, RdE.nil, HB1.out⟩
  · have hra := RowA.of hown
    have HT := Lib.hid (turn_any g g cap l.length (atAt l) w1 hra.1 (Nat.le_refl _) hl)
    have hgg := hra.2
    clear hra hown hh htk hs hcm hb1 HC
    go_wp2_with (go_at_call 84; refine HT.out.mono ?_; rintro e w2 ⟨rfl, hr2, hb2⟩)
    rw [HRR.out]
    refine ⟨_, rfl, hr2.rd l.reverse (by simp) hc (fun t x h => rev_at l t x h), HB1.out.trans (hb2.mono hgg)⟩

end Go.Proofs.YtpboaadjbkaidaaDoor

namespace Go.Proofs.YtpboaadjbkaidaaDoor
set_option maxRecDepth 100000
open Go.RowKit

/-- A slice value by its parts. -/
structure Sl where
  A : Option Addr
  n : Nat
  c : Nat
def Sl.v (x : Sl) : Value := .slice x.A x.n x.c
structure RuV where
  b : Bool
  u : Sl
  t : Sl
def ruC (x : RuV) : List Value := [.bool x.b, x.u.v, x.t.v]
theorem ruC_len (x : RuV) : (ruC x).length = 3 := rfl
theorem ruC_one (x : RuV) : ∀ v ∈ ruC x, v.oneCell' = true := by
  intro v hv
  simp [ruC, Sl.v] at hv
  rcases hv with rfl | rfl | rfl <;> rfl
structure TbV where
  nm : ByteArray
  pa : ByteArray
  r : Sl
def tbC (x : TbV) : List Value := [.string x.nm, .string x.pa, x.r.v]
theorem tbC_len (x : TbV) : (tbC x).length = 3 := rfl
theorem tbC_one (x : TbV) : ∀ v ∈ tbC x, v.oneCell' = true := by
  intro v hv
  simp [tbC, Sl.v] at hv
  rcases hv with rfl | rfl | rfl <;> rfl

/-- What holds as long as the blocks that are not in X read as they did. -/
def Keep (X : List Nat) (w : World) (φ : World → Prop) : Prop := ∀ w' : World, w.heap.size ≤ w'.heap.size → (∀ b, b < w.heap.size → b ∉ X → w'.heap[b]? = w.heap[b]?) → φ w'
theorem Keep.now {X : List Nat} {w : World} {φ : World → Prop} (h : Keep X w φ) : φ w := h w (Nat.le_refl _) (fun _ _ _ => rfl)
theorem Keep.step {X Y : List Nat} {w w' : World} {φ : World → Prop} (h : Keep X w φ) (hs : w.heap.size ≤ w'.heap.size) (hb : ∀ b, b < w.heap.size → b ∉ X → w'.heap[b]? = w.heap[b]? ∧ b ∉ Y) : Keep Y w' φ :=
  fun u hu hk => h u (Nat.le_trans hs hu) (fun b hlt hX => (hk b (Nat.lt_of_lt_of_le hlt hs) (hb b hlt hX).2).trans (hb b hlt hX).1)
theorem Keep.imp {X : List Nat} {w : World} {φ ψ : World → Prop} (h : Keep X w φ) (e : ∀ u, φ u → ψ u) : Keep X w ψ := fun u hu hk => e u (h u hu hk)
theorem Keep.and {X : List Nat} {w : World} {φ ψ : World → Prop} (h : Keep X w φ) (g : Keep X w ψ) : Keep X w fun u => φ u ∧ ψ u := fun u hu hk => ⟨h u hu hk, g u hu hk⟩

section
variable {α : Type} {e : TypeId} {f : α → List Value} {m : Nat} {w w' : World} {B : Nat} {v : Value} {l : List α}
/-- A slice whose block is not in X. -/
theorem RdE.keepX {X : List Nat} (h : RdE f m w v l) (hX : ∀ b o s n c, v = .slice (some ⟨b, o, s⟩) n c → b ∉ X) : Keep X w fun u => RdE f m u v l := fun u hu hk => by
  obtain ⟨A, c, hv, hc, hn, h⟩ := h
  refine ⟨A, c, hv, hc, hn, fun h0 => ?_⟩
  obtain ⟨b, o, rfl, hb, hx⟩ := h h0
  refine ⟨b, o, rfl, Nat.lt_of_lt_of_le hb hu, fun i x j y hi hj => ?_⟩
  rw [World.cell?_of_block (w := w) (hk b hb (hX _ _ _ _ _ hv))]
  exact hx i x j y hi hj
theorem OwnE.keepX {X : List Nat} (hm : ∀ x, (f x).length = m) (h : OwnE e f m w B v l) (hX : ∀ b ∈ X, b < B ∨ v.ownBlock ≠ some b) : Keep X w fun u => RdE f m u v l :=
  RdE.keepX (h.rd hm) fun b o s n c hv hb => by
    rcases h.2 with ⟨rfl, _⟩ | ⟨g, cap, cur, rfl, hg, _⟩
    · cases hv
    · injection hv with h1 _ _
      injection h1 with h1
      injection h1 with h1 _ _
      subst h1
      rcases hX _ hb with h2 | h2
      · omega
      · exact h2 rfl
end

/-- A slice that reads as rules. -/
def RdRu (w : World) (v : Value) (l : List Ru) : Prop := ∃ xs : List RuV, RdE ruC 3 w v xs ∧ xs.length = l.length ∧ ∀ (i : Nat) (x : RuV) (r : Ru), xs[i]? = some x → l[i]? = some r → x.b = r.br ∧ RdE atC 34 w x.u.v r.bf ∧ RdE atC 34 w x.t.v r.af
def RdTb (w : World) (v : Value) (l : List Tb) : Prop := ∃ xs : List TbV, RdE tbC 3 w v xs ∧ xs.length = l.length ∧ ∀ (i : Nat) (x : TbV) (t : Tb), xs[i]? = some x → l[i]? = some t → x.nm = t.nm ∧ x.pa = t.pa ∧ RdRu w x.r.v t.rs
theorem RdRu.below {w w' : World} {B : Nat} {v : Value} {l : List Ru} (h : RdRu w v l) (hb : Below B w w') (hB : w.heap.size ≤ B) : RdRu w' v l := by
  obtain ⟨xs, h1, h2, h3⟩ := h
  exact ⟨xs, h1.below hb hB, h2, fun i x r hx hr => ⟨(h3 i x r hx hr).1, (h3 i x r hx hr).2.1.below hb hB, (h3 i x r hx hr).2.2.below hb hB⟩⟩
theorem RdTb.below {w w' : World} {B : Nat} {v : Value} {l : List Tb} (h : RdTb w v l) (hb : Below B w w') (hB : w.heap.size ≤ B) : RdTb w' v l := by
  obtain ⟨xs, h1, h2, h3⟩ := h
  exact ⟨xs, h1.below hb hB, h2, fun i x r hx hr => ⟨(h3 i x r hx hr).1, (h3 i x r hx hr).2.1, (h3 i x r hx hr).2.2.below hb hB⟩⟩
theorem RdRu.shape {w : World} {v : Value} {l : List Ru} (h : RdRu w v l) : ∃ A c, v = .slice A l.length c := by
  obtain ⟨xs, h1, h2, _⟩ := h
  obtain ⟨A, c, hv, _⟩ := h1.shape
  exact ⟨A, c, by rw [← h2]; exact hv⟩
theorem RdTb.shape {w : World} {v : Value} {l : List Tb} (h : RdTb w v l) : ∃ A c, v = .slice A l.length c := by
  obtain ⟨xs, h1, h2, _⟩ := h
  obtain ⟨A, c, hv, _⟩ := h1.shape
  exact ⟨A, c, by rw [← h2]; exact hv⟩
theorem RdRu.nil {w : World} : RdRu w (.slice none 0 0) [] := ⟨[], RdE.nil, rfl, fun _ _ _ h => by simp at h⟩
theorem RdTb.nil {w : World} : RdTb w (.slice none 0 0) [] := ⟨[], RdE.nil, rfl, fun _ _ _ h => by simp at h⟩

end Go.Proofs.YtpboaadjbkaidaaDoor

namespace Go.Proofs.YtpboaadjbkaidaaDoor
set_option maxRecDepth 100000
open Go.RowKit

theorem ruC_oneA (x : RuV) : (ruC x).toArray.all (·.oneCell') = true := by
  rw [Array.all_eq_true_iff_forall_mem]
  intro v hv
  exact ruC_one x v (List.mem_toArray.1 hv)
theorem int_info6 : (Tryd.prog.info? 3).map (fun i => (i.zero, i.size, i.bytes)) = some (some (.int .i64 0), 1, 8) := by kernel_rfl
theorem intC_oneA (x : Int) : ∀ u ∈ intC x, u.oneCell' = true := by
  intro u hu
  simp [intC] at hu
  subst hu
  rfl
theorem ld_slice {w : World} {b o : Nat} {A : Option Addr} {n c : Nat} (h : w.cell? ⟨b, o, none⟩ = some (.slice A n c)) : (Instr.loadAt 28 (.pointer (some ⟨b, o, none⟩))).run Tryd.prog w = .ok (.slice A n c) w := by
  go_simp

set_option maxRecDepth 100000 in
set_option maxHeartbeats 8000000 in
theorem breaks_any (rs : List Ru) (v : Value) (s : ByteArray) (w : World) (ht : RdRu w v rs) (hl : rs.length ≤ 1000000) (hal : ∀ r ∈ rs, r.bf.length ≤ 1000000 ∧ r.af.length ≤ 1000000) :
    Calls Tryd.prog 16 #[v, .string s] w (RetOwn 3 intC 1 w (breaksF rs s)) := by
  obtain ⟨R, HRR⟩ : ∃ R, Hid (R = RetOwn 3 intC 1 w (breaksF rs s)) := ⟨_, rfl⟩
  rw [← HRR.out]
  obtain ⟨xs, hx0, hxl, hx⟩ := ht
  have hxa : xs.length ≤ rs.length := Nat.le_of_eq hxl
  have hxb : rs.length ≤ xs.length := Nat.le_of_eq hxl.symm
  clear hxl
  obtain ⟨Av, cv, rfl, hlc, _⟩ := hx0.shape
  by_cases h24 : 1024 < s.size
  · have h24i : (1024 : Int) < (s.size : Int) := by omega
    have e0 : breaksF rs s = [] := by unfold breaksF; rw [if_pos h24]
    go_enter Tryd.func16, Tryd.ntmps16
    go_wp2_with fail
    rw [HRR.out, e0]
    exact ⟨_, rfl, OwnE.nil, Below.refl _ _⟩
  have h24i : ¬ (1024 : Int) < (s.size : Int) := by omega
  have HX := Lib.hid hx0
  have HXR := Lib.hid hx
  clear hx0 hx
  have hu := Tryd.underlying30
  have hi : (Tryd.prog.info? 30).map (·.size) = some 3 := by kernel_rfl
  have hmk := fun w => run_make_row' (P := Tryd.prog) 86 4 (.bool false) 1 Tryd.underlying86 bool_info rfl .i64 .i64 (s.size + 1) (by omega) (by omega) w
  rw [show ((s.size + 1 : Nat) : Int) = (s.size : Int) + 1 by omega] at hmk
  have HRV := Lib.hid (reversed_any s w (by omega))
  have hbks : (rvS s s.size).size = s.size := rv_size s
  have HBT : Hid (∀ j, j < s.size → bt (rvS s s.size) j = bt s (s.size - 1 - j)) := rv_bt s
  generalize rvS s s.size = bk at HRV hbks HBT
  go_enter Tryd.func16, Tryd.ntmps16
  go_upto_region 4 with (go_at_call 49; refine HRV.out.mono ?_; rintro e w1 ⟨rfl, hb1⟩)
  have HB1 := Lib.hid hb1
  have HD1 : Hid ((w1.alloc (.cells (madeCells #[.bool false] (s.size + 1)) 4)).rowIs w1.heap.size 4 (s.size + 1) (fun j => .bool (false))) := World.rowIs_made w1 (.bool false) (s.size + 1) 4
  have HB2 := Lib.hid (HB1.out.alloc HB1.out.size (.cells (madeCells #[.bool false] (s.size + 1)) 4))
  clear hb1 HRV
  go_upto_region 5 with fail
  have hz1 := HB1.out.size
  generalize w1.heap.size = D at HD1 hz1 ⊢
  generalize w1.alloc (.cells (madeCells #[.bool false] (s.size + 1)) 4) = w2 at HD1 HB2 ⊢
  have HK1 : Hid ((w2.alloc (.cells (madeCells #[.bool false] (s.size + 1)) 4)).rowIs w2.heap.size 4 (s.size + 1) (fun j => .bool (false))) := World.rowIs_made w2 (.bool false) (s.size + 1) 4
  have HB3 := Lib.hid (HB2.out.alloc HB2.out.size (.cells (madeCells #[.bool false] (s.size + 1)) 4))
  have HD2 := Lib.hid (HD1.out.of_block (w' := w2.alloc (.cells (madeCells #[.bool false] (s.size + 1)) 4)) (Below.heap_alloc w2 _ D HD1.out.lt))
  have hDK : D < w2.heap.size := HD1.out.lt
  go_upto_region 6 with fail
  clear HD1 HB2 HB1
  generalize w2.heap.size = K at HK1 hDK ⊢
  generalize w2.alloc (.cells (madeCells #[.bool false] (s.size + 1)) 4) = w3 at HK1 HD2 HB3 ⊢
  go_wp2_with fail
  obtain ⟨wo, HWO⟩ : ∃ wo, Hid (wo = w3) := ⟨w3, rfl⟩
  go_loopg [31] xs.length (fun gk kv wr => ∃ k : Nat, kv = .int .i64 k ∧ k ≤ xs.length ∧ Hid (wr.rowIs D 4 (s.size + 1) (fun j => .bool (decide (0 < j ∧ j < s.size) && foundF (rs.take k) s j))) ∧ Hid (wr.rowIs K 4 (s.size + 1) (fun j => .bool (decide (0 < j ∧ j < s.size) && decideF (rs.take k) s j))) ∧ Hid (Below w.heap.size w wr) ∧ xs.length - k ≤ gk)
  case atStart => exact ⟨0, rfl, by omega, HD2.out.congr (fun j _ => by rw [List.take_zero]; show _ = Value.bool (_ && false); rw [Bool.and_false]), HK1.out.congr (fun j _ => by rw [List.take_zero]; show _ = Value.bool (_ && false); rw [Bool.and_false]), HB3.out, by omega⟩
  case round =>
    clear HD2 HK1 HB3 HWO
    obtain ⟨k, rfl, hk, HD, HK, HB, hgk⟩ := hrel
    by_cases hkl : k < xs.length
    · have hki : (k : Int) < (xs.length : Int) := by omega
      have hk0 : (0 : Int) ≤ (k : Int) := by omega
      obtain ⟨bp, o, rfl, hbl, hcell⟩ := HX.out.cells (by omega)
      have hxk : xs[k]? = some xs[k] := List.getElem?_eq_getElem hkl
      have hrk : rs[k]? = some (rs[k]'(by omega)) := List.getElem?_eq_getElem (by omega)
      have hrg : wr.rangeAt bp (o + k * 3) (ruC xs[k]) := fun j v hj => by
        rw [Nat.add_assoc]
        exact (HB.out.cell (p := ⟨bp, o + (k * 3 + j), none⟩) hbl).trans (hcell k _ j v hxk hj)
      obtain ⟨hbr, hbf, haf⟩ := HXR.out k _ _ hxk hrk
      have HTK : Hid (rs.take (k + 1) = rs.take k ++ [rs[k]'(by omega)]) := List.take_succ_eq_append_getElem (by omega)
      have hrl : (rs[k]'(by omega)).bf.length ≤ 140737488355328 ∧ (rs[k]'(by omega)).af.length ≤ 140737488355 := by have := hal _ (List.getElem_mem (show k < rs.length by omega)); omega
      have HU1 := Lib.hid (hbf.below HB.out (Nat.le_refl _))
      have HT1 := Lib.hid (haf.below HB.out (Nat.le_refl _))
      clear hcell hxk hrk hbf haf
      generalize xs[k] = y at hrg hbr HU1 HT1
      generalize rs[k]'(by omega) = r at hbr HU1 HT1 HTK hrl
      obtain ⟨yb, ⟨uA, un, uc⟩, ⟨tA, tn, tc⟩⟩ := y
      obtain rfl : yb = r.br := hbr
      have hz := HB.out.size
      have hz2 := HB.out.size
      have hq1 : bp < wr.heap.size := Nat.lt_of_lt_of_le hbl hz2
      have HQ : Hid (((wr.alloc (.cells #[.bool false, .slice none 0 0, .slice none 0 0] 30)).setRow wr.heap.size (ruC ⟨r.br, ⟨uA, un, uc⟩, ⟨tA, tn, tc⟩⟩).toArray).heap[wr.heap.size]? = some (.cells (ruC ⟨r.br, ⟨uA, un, uc⟩, ⟨tA, tn, tc⟩⟩).toArray 30)) := setRow_heap _ _ _ _ _ _ (heap_alloc_new wr _)
      have HB4 : Hid (Below w.heap.size w ((wr.alloc (.cells #[.bool false, .slice none 0 0, .slice none 0 0] 30)).setRow wr.heap.size (ruC ⟨r.br, ⟨uA, un, uc⟩, ⟨tA, tn, tc⟩⟩).toArray)) := below_setRow (HB.out.alloc hz _) hz _
      have HN4 : Hid (Below wr.heap.size wr ((wr.alloc (.cells #[.bool false, .slice none 0 0, .slice none 0 0] 30)).setRow wr.heap.size (ruC ⟨r.br, ⟨uA, un, uc⟩, ⟨tA, tn, tc⟩⟩).toArray)) := below_setRow ((Below.refl _ wr).alloc (Nat.le_refl _) _) (Nat.le_refl _) _
      go_upto_region 9 with (first
        | (refine wpList_load_mid rfl 30 (.tmp 33) rfl bp (o + k * 3) rfl (ruC ⟨r.br, ⟨uA, un, uc⟩, ⟨tA, tn, tc⟩⟩) _ hrg hu rfl (by rw [hi]; rfl) ?_)
        | (refine wpList_store_row rfl 30 (.tmp 9) (.tmp 34) rfl (wr.heap.size) (ruC ⟨r.br, ⟨uA, un, uc⟩, ⟨tA, tn, tc⟩⟩).toArray rfl rfl 30 _ (heap_alloc_new wr _) (by rw [hi]; rfl) rfl (ruC_oneA _) ?_))
      have HD4 := Lib.hid (HD.out.of_block (w' := (wr.alloc (.cells #[.bool false, .slice none 0 0, .slice none 0 0] 30)).setRow wr.heap.size (ruC ⟨r.br, ⟨uA, un, uc⟩, ⟨tA, tn, tc⟩⟩).toArray) (HN4.out.block _ HD.out.lt))
      have HK4 := Lib.hid (HK.out.of_block (w' := (wr.alloc (.cells #[.bool false, .slice none 0 0, .slice none 0 0] 30)).setRow wr.heap.size (ruC ⟨r.br, ⟨uA, un, uc⟩, ⟨tA, tn, tc⟩⟩).toArray) (HN4.out.block _ HK.out.lt))
      have HU4 := Lib.hid (HU1.out.below HN4.out (Nat.le_refl _))
      have HT4 := Lib.hid (HT1.out.below HN4.out (Nat.le_refl _))
      have hDq : D < wr.heap.size := HD.out.lt
      have hKq : K < wr.heap.size := HK.out.lt
      have hq4 : wr.heap.size < ((wr.alloc (.cells #[.bool false, .slice none 0 0, .slice none 0 0] 30)).setRow wr.heap.size (ruC ⟨r.br, ⟨uA, un, uc⟩, ⟨tA, tn, tc⟩⟩).toArray).heap.size := (Array.getElem?_eq_some_iff.1 HQ.out).1
      clear HD HK HB HN4 HU1 HT1 hrg hz hz2 hq1
      generalize wr.heap.size = q at HQ HB4 HD4 HK4 HU4 HT4 hDq hKq hq4 ⊢
      generalize (wr.alloc (.cells #[.bool false, .slice none 0 0, .slice none 0 0] 30)).setRow q (ruC ⟨r.br, ⟨uA, un, uc⟩, ⟨tA, tn, tc⟩⟩).toArray = wr4 at HQ HB4 HD4 HK4 HU4 HT4 hq4 ⊢
      change Hid (RdE atC 34 wr4 (.slice uA un uc) r.bf) at HU4
      change Hid (RdE atC 34 wr4 (.slice tA tn tc) r.af) at HT4
      have z0 : wr4.cell? ⟨q, 0, none⟩ = some (.bool r.br) := by rw [cell_of_row _ _ _ _ _ _ HQ.out]; rfl
      have z1 : wr4.cell? ⟨q, 1, none⟩ = some (.slice uA un uc) := by rw [cell_of_row _ _ _ _ _ _ HQ.out]; rfl
      have z2 : wr4.cell? ⟨q, 2, none⟩ = some (.slice tA tn tc) := by rw [cell_of_row _ _ _ _ _ _ HQ.out]; rfl
      have HL1 : Hid ((Instr.loadAt 28 (.pointer (some ⟨q, 1, none⟩))).run Tryd.prog wr4.drew = .ok (.slice uA un uc) wr4.drew) := ld_slice z1
      have HL2 : Hid ((Instr.loadAt 28 (.pointer (some ⟨q, 2, none⟩))).run Tryd.prog wr4.drew = .ok (.slice tA tn tc) wr4.drew) := ld_slice z2
      obtain ⟨hbl0, hal0⟩ := hrl
      refine wp_region_at 11 #[false, false, false, false, false, false, false, false, false, false, false] rfl rfl (by kernel_rfl) ?_
      refine wpAny_at (i := 0) (v := .pointer (some ⟨q, 1, none⟩)) (some 35) rfl rfl (by kernel_rfl) (by kernel_rfl) (by kernel_rfl) (fun _ _ _ h => h) (by kernel_rfl) (fun _ => ex_fieldAddr 30 _ 1 (.pointer (some ⟨q, 0, none⟩)) _ rfl (by kernel_rfl) (by go_simp)) ?_
      simp only [Act.put, List.setIfInBounds_toArray, List.set_cons_zero, List.set_cons_succ]
      refine wpAny_at (i := 2) (v := .string s) (some 37) rfl rfl (by kernel_rfl) (by kernel_rfl) (by kernel_rfl) (fun _ _ _ h => h) (by kernel_rfl) (fun _ => ex_move _ _ rfl (by kernel_rfl)) ?_
      simp only [Act.put, List.setIfInBounds_toArray, List.set_cons_zero, List.set_cons_succ]
      refine wpAny_at (i := 4) (v := .pointer (some ⟨q, 2, none⟩)) (some 39) rfl rfl (by kernel_rfl) (by kernel_rfl) (by kernel_rfl) (fun _ _ _ h => h) (by kernel_rfl) (fun _ => ex_fieldAddr 30 _ 2 (.pointer (some ⟨q, 0, none⟩)) _ rfl (by kernel_rfl) (by go_simp)) ?_
      simp only [Act.put, List.setIfInBounds_toArray, List.set_cons_zero, List.set_cons_succ]
      refine wpAny_at (i := 7) (v := .string bk) (some 42) rfl rfl (by kernel_rfl) (by kernel_rfl) (by kernel_rfl) (fun _ _ _ h => h) (by kernel_rfl) (fun _ => ex_move _ _ rfl (by kernel_rfl)) ?_
      simp only [Act.put, List.setIfInBounds_toArray, List.set_cons_zero, List.set_cons_succ]
      refine wpAny_vals 1 5 (some 36) (some 40) (.slice uA un uc) (.slice tA tn tc) (by kernel_rfl) rfl rfl rfl rfl (by kernel_rfl) (by kernel_rfl) (ex_load 28 _ (.pointer (some ⟨q, 1, none⟩)) _ rfl (by kernel_rfl) (HL1.out)) (ex_load 28 _ (.pointer (some ⟨q, 2, none⟩)) _ rfl (by kernel_rfl) (HL2.out)) ?_ ?_
      · simp only [Act.put, List.setIfInBounds_toArray, List.set_cons_zero, List.set_cons_succ]
        refine wpAny_callval 3 5 (some 38) (some 40) (.slice tA tn tc) (by kernel_rfl) rfl rfl rfl rfl (by kernel_rfl) (by kernel_rfl) 50 (#[.slice uA un uc, .string s]) (by go_simp) (ends_any r.bf s _ wr4.drew HU4.out (by omega) hbl0) (ex_load 28 _ (.pointer (some ⟨q, 2, none⟩)) _ rfl (by kernel_rfl) (HL2.out)) ?_ ?_
        · rintro e w5 ⟨g1, rfl, hg1, hr1, hb5⟩
          refine ⟨_, rfl, ?_⟩
          have HL3 : Hid (∀ w', w'.heap = w5.heap → (Instr.loadAt 28 (.pointer (some ⟨q, 2, none⟩))).run Tryd.prog w' = .ok (.slice tA tn tc) w') := fun w' hw' => ld_slice (by rw [World.cell?_of_block (w := w5) (by rw [hw'])]; exact (hb5.cell (p := ⟨q, 2, none⟩) hq4).trans z2)
          change wpAny _ _ _ _ _ _ (Act.put _ (some 38) _) _
          simp only [Act.put, List.setIfInBounds_toArray, List.set_cons_zero, List.set_cons_succ]
          refine wpAny_val 5 (some 40) (.slice tA tn tc) (by kernel_rfl) rfl rfl (by kernel_rfl) (ex_load 28 _ (.pointer (some ⟨q, 2, none⟩)) _ rfl (by kernel_rfl) (HL3.out _ rfl)) ?_
          simp only [Act.put, List.setIfInBounds_toArray, List.set_cons_zero, List.set_cons_succ]
          refine wpAny_call 6 (some 41) (by kernel_rfl) rfl rfl (by kernel_rfl) 51 (#[.slice tA tn tc]) (by go_simp) (revp_any r.af _ w5 ((show RdE atC 34 wr4.drew _ _ from HT4.out).below hb5 (Nat.le_refl _)) hal0) ?_
          rintro e w6 ⟨v6, rfl, hr6, hb6⟩
          refine ⟨_, rfl, ?_⟩
          change wpAny _ _ _ _ _ _ (Act.put _ (some 41) _) _
          simp only [Act.put, List.setIfInBounds_toArray, List.set_cons_zero, List.set_cons_succ]
          refine wpAny_call 8 (some 43) (by kernel_rfl) rfl rfl (by kernel_rfl) 50 (#[v6, .string bk]) (by go_simp) (ends_any r.af.reverse bk v6 w6 hr6 (by omega) (by simp; omega)) ?_
          rintro e w7 ⟨g2, rfl, hg2, hr2, hb7⟩
          refine ⟨_, rfl, ?_⟩
          rw [hbks]
          change wpAny _ _ _ _ _ _ (Act.put _ (some 43) _) _
          simp only [Act.put, List.setIfInBounds_toArray, List.set_cons_zero, List.set_cons_succ]
          refine wpAny_at (i := 9) (v := .slice (some ⟨g1, 0, none⟩) (s.size + 1) (s.size + 1)) (some 10) rfl rfl (by kernel_rfl) (by kernel_rfl) (by kernel_rfl) (fun _ _ _ h => h) (by kernel_rfl) (fun _ => ex_assign _ _ rfl (by kernel_rfl)) ?_
          simp only [Act.put, List.setIfInBounds_toArray, List.set_cons_zero, List.set_cons_succ]
          refine wpAny_at (i := 10) (v := .slice (some ⟨g2, 0, none⟩) (s.size + 1) (s.size + 1)) (some 11) rfl rfl (by kernel_rfl) (by kernel_rfl) (by kernel_rfl) (fun _ _ _ h => h) (by kernel_rfl) (fun _ => ex_assign _ _ rfl (by kernel_rfl)) ?_
          simp only [Act.put, List.setIfInBounds_toArray, List.set_cons_zero, List.set_cons_succ]
          refine wpAny_done (by kernel_rfl) ?_ _
          rw [hbks] at hr2
          have HG1 : Hid (w7.rowIs g1 4 (s.size + 1) (fun j => .bool (reachF s r.bf allF j))) := (hr1.of_block (hb6.block _ hr1.lt)).of_block (hb7.block _ (hr1.of_block (hb6.block _ hr1.lt)).lt)
          have HG2 : Hid (w7.rowIs g2 4 (s.size + 1) (fun j => .bool (reachF bk r.af.reverse allF j))) := hr2
          have HBq : Hid (Below wr4.heap.size wr4 w7) := ((below_drewN (Below.refl _ wr4) 1).trans hb5).trans ((hb6.trans (hb7.mono hb6.size)).mono hb5.size)
          have HD7 := Lib.hid (HD4.out.of_block (HBq.out.block _ HD4.out.lt))
          have HK7 := Lib.hid (HK4.out.of_block (HBq.out.block _ HK4.out.lt))
          have HB7 := Lib.hid (HB4.out.trans (HBq.out.mono HB4.out.size))
          have z0w := (HBq.out.cell (p := ⟨q, 0, none⟩) hq4).trans z0
          have hg1q : q < g1 := Nat.lt_of_lt_of_le hq4 hg1
          have hg2q : q < g2 := Nat.lt_of_lt_of_le hq4 (Nat.le_trans (Nat.le_trans hb5.size hb6.size) hg2)
          clear hr1 hr2 hb5 hb6 hb7 HL3 hr6 HBq z0 z1 z2 HL1 HL2 HD4 HK4 HB4 HU4 HT4 HQ hq4
          go_wp2_with fail
          obtain ⟨wo2, HWO2⟩ : ∃ wo, Hid (wo = w7) := ⟨w7, rfl⟩
          go_loopg [12] (s.size + 1) (fun gk iv wr => ∃ i : Nat, iv = .int .i64 i ∧ 1 ≤ i ∧ i ≤ s.size + 1 ∧ Hid (wr.rowIs D 4 (s.size + 1) (fun j => .bool (if j < i then decide (0 < j ∧ j < s.size) && foundF (rs.take (k + 1)) s j else decide (0 < j ∧ j < s.size) && foundF (rs.take k) s j))) ∧ Hid (wr.rowIs K 4 (s.size + 1) (fun j => .bool (if j < i then decide (0 < j ∧ j < s.size) && decideF (rs.take (k + 1)) s j else decide (0 < j ∧ j < s.size) && decideF (rs.take k) s j))) ∧ Hid (wr.rowIs g1 4 (s.size + 1) (fun j => .bool (reachF s r.bf allF j))) ∧ Hid (wr.rowIs g2 4 (s.size + 1) (fun j => .bool (reachF bk r.af.reverse allF j))) ∧ wr.cell? ⟨q, 0, none⟩ = some (.bool r.br) ∧ Hid (Below w.heap.size w wr) ∧ s.size + 1 - i ≤ gk)
          case atStart => exact ⟨1, rfl, Nat.le_refl _, by omega, HD7.out.congr (fun j _ => by
              by_cases h : j < 1
              · rw [if_pos h, show j = 0 by omega]; rfl
              · rw [if_neg h]), HK7.out.congr (fun j _ => by
              by_cases h : j < 1
              · rw [if_pos h, show j = 0 by omega]; rfl
              · rw [if_neg h]), HG1.out, HG2.out, z0w, HB7.out, by omega⟩
          case round =>
            clear HD7 HK7 HG1 HG2 z0w HB7 HWO2
            obtain ⟨i, rfl, hi1, hi2, HDi, HKi, HG1i, HG2i, z0i, HBi, hgki⟩ := hrel
            by_cases hil : i < s.size
            · have hii : (i : Int) < (s.size : Int) := by omega
              have hi0 : (0 : Int) ≤ (i : Int) := by omega
              have hi3 : (i : Int) < (s.size : Int) + 1 := by omega
              obtain ⟨t, ht⟩ : ∃ t, t + i = s.size := ⟨s.size - i, by omega⟩
              have hsub : (s.size : Int) - (i : Int) = (t : Int) := by omega
              have ht0 : (0 : Int) ≤ (t : Int) := by omega
              have ht1 : (t : Int) < (s.size : Int) + 1 := by omega
              have qd := HDi.out.cell (i := i) (by omega)
              rw [if_neg (Nat.lt_irrefl i), decide_eq_true ⟨hi1, hil⟩, Bool.true_and] at qd
              have qk := HKi.out.cell (i := i) (by omega)
              have qb := HG1i.out.cell (i := i) (by omega)
              rw [ends_suf r.bf s i (by omega)] at qb
              have qa := HG2i.out.cell (i := t) (by omega)
              rw [show t = s.size - i by omega, ends_pre r.af hbks HBT.out i (by omega), show s.size - i = t by omega] at qa
              have hnd : foundF (rs.take (k + 1)) s i = (foundF (rs.take k) s i || (suffixF r.bf (s.extract 0 i) && prefixF r.af (s.extract i s.size))) := by rw [HTK.out, found_snoc]; rfl
              have hnk : decideF (rs.take (k + 1)) s i = if foundF (rs.take k) s i = true then decideF (rs.take k) s i else ((suffixF r.bf (s.extract 0 i) && prefixF r.af (s.extract i s.size)) && r.br) := by rw [HTK.out, decide_snoc]; rfl
              have hno := decide_none (rs.take k) s i
              cases hfd : foundF (rs.take k) s i with
              | true =>
                rw [hfd] at qd
                have hnew1 : (decide (0 < i ∧ i < s.size) && foundF (rs.take (k + 1)) s i) = (decide (0 < i ∧ i < s.size) && foundF (rs.take k) s i) := by rw [hnd, hfd]; rfl
                have hnew2 : (decide (0 < i ∧ i < s.size) && decideF (rs.take (k + 1)) s i) = (decide (0 < i ∧ i < s.size) && decideF (rs.take k) s i) := by rw [hnk, if_pos hfd]
                clear hnd hnk hno
                have HDN : Hid (wr.rowIs D 4 (s.size + 1) (fun j => .bool (if j < i + 1 then decide (0 < j ∧ j < s.size) && foundF (rs.take (k + 1)) s j else decide (0 < j ∧ j < s.size) && foundF (rs.take k) s j))) := HDi.out.congr fun j hj => by
                  by_cases h : j = i
                  · rw [if_neg (by omega), if_pos (by omega), h, hnew1]
                  · by_cases h2 : j < i
                    · rw [if_pos h2, if_pos (by omega)]
                    · rw [if_neg h2, if_neg (by omega)]
                have HKN : Hid (wr.rowIs K 4 (s.size + 1) (fun j => .bool (if j < i + 1 then decide (0 < j ∧ j < s.size) && decideF (rs.take (k + 1)) s j else decide (0 < j ∧ j < s.size) && decideF (rs.take k) s j))) := HKi.out.congr fun j hj => by
                  by_cases h : j = i
                  · rw [if_neg (by omega), if_pos (by omega), h, hnew2]
                  · by_cases h2 : j < i
                    · rw [if_pos h2, if_pos (by omega)]
                    · rw [if_neg h2, if_neg (by omega)]
                clear hnew1 hnew2
                go_wp2_with fail
                go_roundg (s.size + 1 - (i + 1))
                case measure => omega
                case rel => exact ⟨i + 1, by go_num, by omega, by omega, HDN.out, HKN.out, HG1i.out, HG2i.out, z0i, HBi.out, Nat.le_refl _⟩
              | false =>
                rw [hfd] at qd
                cases hsb : suffixF r.bf (s.extract 0 i) with
                | false =>
                  rw [hsb] at qb
                  have hnew1 : (decide (0 < i ∧ i < s.size) && foundF (rs.take (k + 1)) s i) = (decide (0 < i ∧ i < s.size) && foundF (rs.take k) s i) := by rw [hnd, hfd, hsb]; rfl
                  have hnew2 : (decide (0 < i ∧ i < s.size) && decideF (rs.take (k + 1)) s i) = (decide (0 < i ∧ i < s.size) && decideF (rs.take k) s i) := by rw [hnk, if_neg (by rw [hfd]; exact Bool.false_ne_true), hsb, hno hfd]; rfl
                  clear hnd hnk hno
                  have HDN : Hid (wr.rowIs D 4 (s.size + 1) (fun j => .bool (if j < i + 1 then decide (0 < j ∧ j < s.size) && foundF (rs.take (k + 1)) s j else decide (0 < j ∧ j < s.size) && foundF (rs.take k) s j))) := HDi.out.congr fun j hj => by
                    by_cases h : j = i
                    · rw [if_neg (by omega), if_pos (by omega), h, hnew1]
                    · by_cases h2 : j < i
                      · rw [if_pos h2, if_pos (by omega)]
                      · rw [if_neg h2, if_neg (by omega)]
                  have HKN : Hid (wr.rowIs K 4 (s.size + 1) (fun j => .bool (if j < i + 1 then decide (0 < j ∧ j < s.size) && decideF (rs.take (k + 1)) s j else decide (0 < j ∧ j < s.size) && decideF (rs.take k) s j))) := HKi.out.congr fun j hj => by
                    by_cases h : j = i
                    · rw [if_neg (by omega), if_pos (by omega), h, hnew2]
                    · by_cases h2 : j < i
                      · rw [if_pos h2, if_pos (by omega)]
                      · rw [if_neg h2, if_neg (by omega)]
                  clear hnew1 hnew2
                  go_wp2_with fail
                  go_roundg (s.size + 1 - (i + 1))
                  case measure => omega
                  case rel => exact ⟨i + 1, by go_num, by omega, by omega, HDN.out, HKN.out, HG1i.out, HG2i.out, z0i, HBi.out, Nat.le_refl _⟩
                | true =>
                  rw [hsb] at qb
                  cases hpa : prefixF r.af (s.extract i s.size) with
                  | false =>
                    rw [hpa] at qa
                    have hnew1 : (decide (0 < i ∧ i < s.size) && foundF (rs.take (k + 1)) s i) = (decide (0 < i ∧ i < s.size) && foundF (rs.take k) s i) := by rw [hnd, hfd, hsb, hpa]; rfl
                    have hnew2 : (decide (0 < i ∧ i < s.size) && decideF (rs.take (k + 1)) s i) = (decide (0 < i ∧ i < s.size) && decideF (rs.take k) s i) := by rw [hnk, if_neg (by rw [hfd]; exact Bool.false_ne_true), hsb, hpa, hno hfd]; rfl
                    clear hnd hnk hno
                    have HDN : Hid (wr.rowIs D 4 (s.size + 1) (fun j => .bool (if j < i + 1 then decide (0 < j ∧ j < s.size) && foundF (rs.take (k + 1)) s j else decide (0 < j ∧ j < s.size) && foundF (rs.take k) s j))) := HDi.out.congr fun j hj => by
                      by_cases h : j = i
                      · rw [if_neg (by omega), if_pos (by omega), h, hnew1]
                      · by_cases h2 : j < i
                        · rw [if_pos h2, if_pos (by omega)]
                        · rw [if_neg h2, if_neg (by omega)]
                    have HKN : Hid (wr.rowIs K 4 (s.size + 1) (fun j => .bool (if j < i + 1 then decide (0 < j ∧ j < s.size) && decideF (rs.take (k + 1)) s j else decide (0 < j ∧ j < s.size) && decideF (rs.take k) s j))) := HKi.out.congr fun j hj => by
                      by_cases h : j = i
                      · rw [if_neg (by omega), if_pos (by omega), h, hnew2]
                      · by_cases h2 : j < i
                        · rw [if_pos h2, if_pos (by omega)]
                        · rw [if_neg h2, if_neg (by omega)]
                    clear hnew1 hnew2
                    go_wp2_with fail
                    go_roundg (s.size + 1 - (i + 1))
                    case measure => omega
                    case rel => exact ⟨i + 1, by go_num, by omega, by omega, HDN.out, HKN.out, HG1i.out, HG2i.out, z0i, HBi.out, Nat.le_refl _⟩
                  | true =>
                    rw [hpa] at qa
                    have hnew1 : foundF (rs.take (k + 1)) s i = true := by rw [hnd, hfd, hsb, hpa]; rfl
                    have hnew2 : decideF (rs.take (k + 1)) s i = r.br := by rw [hnk, if_neg (by rw [hfd]; exact Bool.false_ne_true), hsb, hpa]; rfl
                    clear hnd hnk hno
                    have fd := HDi.out.frozen i
                    have fk := HKi.out.frozen i
                    have hne : ¬ D = K := by omega
                    have hne2 : ¬ K = D := by omega
                    have HD8 : Hid (((wr.drew.setCell ⟨D, i, none⟩ (.bool true)).setCell ⟨K, i, none⟩ (.bool r.br)).rowIs D 4 (s.size + 1) (fun j => .bool (if j < i + 1 then decide (0 < j ∧ j < s.size) && foundF (rs.take (k + 1)) s j else decide (0 < j ∧ j < s.size) && foundF (rs.take k) s j))) := ((HDi.out.drew.set i (.bool true)).of_block (Below.heap_setCell _ _ _ _ (show D ≠ K by omega))).congr fun j hj => by
                      by_cases h : j = i
                      · rw [if_pos h, if_pos (by omega), h, hnew1, decide_eq_true ⟨hi1, hil⟩]; rfl
                      · rw [if_neg h]
                        by_cases h2 : j < i
                        · rw [if_pos h2, if_pos (by omega)]
                        · rw [if_neg h2, if_neg (by omega)]
                    have HK8 : Hid (((wr.drew.setCell ⟨D, i, none⟩ (.bool true)).setCell ⟨K, i, none⟩ (.bool r.br)).rowIs K 4 (s.size + 1) (fun j => .bool (if j < i + 1 then decide (0 < j ∧ j < s.size) && decideF (rs.take (k + 1)) s j else decide (0 < j ∧ j < s.size) && decideF (rs.take k) s j))) := ((HKi.out.drew.of_block (Below.heap_setCell _ _ _ _ (show K ≠ D by omega))).set i (.bool r.br)).congr fun j hj => by
                      by_cases h : j = i
                      · rw [if_pos h, if_pos (by omega), h, hnew2, decide_eq_true ⟨hi1, hil⟩]; rfl
                      · rw [if_neg h]
                        by_cases h2 : j < i
                        · rw [if_pos h2, if_pos (by omega)]
                        · rw [if_neg h2, if_neg (by omega)]
                    have HG18 : Hid (((wr.drew.setCell ⟨D, i, none⟩ (.bool true)).setCell ⟨K, i, none⟩ (.bool r.br)).rowIs g1 4 (s.size + 1) (fun j => .bool (reachF s r.bf allF j))) := (HG1i.out.drew.of_block (Below.heap_setCell _ _ _ _ (show g1 ≠ D by omega))).of_block (Below.heap_setCell _ _ _ _ (show g1 ≠ K by omega))
                    have HG28 : Hid (((wr.drew.setCell ⟨D, i, none⟩ (.bool true)).setCell ⟨K, i, none⟩ (.bool r.br)).rowIs g2 4 (s.size + 1) (fun j => .bool (reachF bk r.af.reverse allF j))) := (HG2i.out.drew.of_block (Below.heap_setCell _ _ _ _ (show g2 ≠ D by omega))).of_block (Below.heap_setCell _ _ _ _ (show g2 ≠ K by omega))
                    have HZ8 : Hid (((wr.drew.setCell ⟨D, i, none⟩ (.bool true)).setCell ⟨K, i, none⟩ (.bool r.br)).cell? ⟨q, 0, none⟩ = some (.bool r.br)) := by
                      show _ = _
                      rw [World.cell?_of_block (w := wr.drew.setCell ⟨D, i, none⟩ (.bool true)) (Below.heap_setCell _ _ _ _ (show q ≠ K by omega)), World.cell?_of_block (w := wr.drew) (Below.heap_setCell _ _ _ _ (show q ≠ D by omega))]
                      exact z0i
                    have HB8 : Hid (Below w.heap.size w ((wr.drew.setCell ⟨D, i, none⟩ (.bool true)).setCell ⟨K, i, none⟩ (.bool r.br))) := (HBi.out.drew.setCell (p := ⟨D, i, none⟩) (show w.heap.size ≤ D by omega) _).setCell (p := ⟨K, i, none⟩) (show w.heap.size ≤ K by omega) _
                    go_upto_region 14 with fail
                    go_region
                    go_wp2_with fail
                    go_roundg (s.size + 1 - (i + 1))
                    case measure => omega
                    case rel => exact ⟨i + 1, by go_num, by omega, by omega, HD8.out, HK8.out, HG18.out, HG28.out, HZ8.out, HB8.out, Nat.le_refl _⟩
            · have hge : s.size ≤ i := by omega
              have hii : ¬ (i : Int) < (s.size : Int) := by omega
              have HDE : Hid (wr.rowIs D 4 (s.size + 1) (fun j => .bool (decide (0 < j ∧ j < s.size) && foundF (rs.take (k + 1)) s j))) := HDi.out.congr fun j hj => by
                by_cases h : j < i
                · rw [if_pos h]
                · rw [if_neg h, decide_eq_false (by omega)]; rfl
              have HKE : Hid (wr.rowIs K 4 (s.size + 1) (fun j => .bool (decide (0 < j ∧ j < s.size) && decideF (rs.take (k + 1)) s j))) := HKi.out.congr fun j hj => by
                by_cases h : j < i
                · rw [if_pos h]
                · rw [if_neg h, decide_eq_false (by omega)]; rfl
              go_wp2_with fail
              go_roundg (xs.length - (k + 1))
              case measure => omega
              case rel => exact ⟨k + 1, by go_num, by omega, HDE.out, HKE.out, HBi.out, Nat.le_refl _⟩
        · simp only [Act.put, List.setIfInBounds_toArray, List.set_cons_zero, List.set_cons_succ]
          refine wpAny_call 3 (some 38) (by kernel_rfl) rfl rfl (by kernel_rfl) 50 (#[.slice uA un uc, .string s]) (by go_simp) (ends_any r.bf s _ wr4.drew HU4.out (by omega) hbl0) ?_
          rintro e w5 ⟨g1, rfl, hg1, hr1, hb5⟩
          refine ⟨_, rfl, ?_⟩
          have HL3 : Hid (∀ w', w'.heap = w5.heap → (Instr.loadAt 28 (.pointer (some ⟨q, 2, none⟩))).run Tryd.prog w' = .ok (.slice tA tn tc) w') := fun w' hw' => ld_slice (by rw [World.cell?_of_block (w := w5) (by rw [hw'])]; exact (hb5.cell (p := ⟨q, 2, none⟩) hq4).trans z2)
          change wpAny _ _ _ _ _ _ (Act.put _ (some 38) _) _
          simp only [Act.put, List.setIfInBounds_toArray, List.set_cons_zero, List.set_cons_succ]
          refine wpAny_call 6 (some 41) (by kernel_rfl) rfl rfl (by kernel_rfl) 51 (#[.slice tA tn tc]) (by go_simp) (revp_any r.af _ w5 ((show RdE atC 34 wr4.drew _ _ from HT4.out).below hb5 (Nat.le_refl _)) hal0) ?_
          rintro e w6 ⟨v6, rfl, hr6, hb6⟩
          refine ⟨_, rfl, ?_⟩
          change wpAny _ _ _ _ _ _ (Act.put _ (some 41) _) _
          simp only [Act.put, List.setIfInBounds_toArray, List.set_cons_zero, List.set_cons_succ]
          refine wpAny_call 8 (some 43) (by kernel_rfl) rfl rfl (by kernel_rfl) 50 (#[v6, .string bk]) (by go_simp) (ends_any r.af.reverse bk v6 w6 hr6 (by omega) (by simp; omega)) ?_
          rintro e w7 ⟨g2, rfl, hg2, hr2, hb7⟩
          refine ⟨_, rfl, ?_⟩
          rw [hbks]
          change wpAny _ _ _ _ _ _ (Act.put _ (some 43) _) _
          simp only [Act.put, List.setIfInBounds_toArray, List.set_cons_zero, List.set_cons_succ]
          refine wpAny_at (i := 9) (v := .slice (some ⟨g1, 0, none⟩) (s.size + 1) (s.size + 1)) (some 10) rfl rfl (by kernel_rfl) (by kernel_rfl) (by kernel_rfl) (fun _ _ _ h => h) (by kernel_rfl) (fun _ => ex_assign _ _ rfl (by kernel_rfl)) ?_
          simp only [Act.put, List.setIfInBounds_toArray, List.set_cons_zero, List.set_cons_succ]
          refine wpAny_at (i := 10) (v := .slice (some ⟨g2, 0, none⟩) (s.size + 1) (s.size + 1)) (some 11) rfl rfl (by kernel_rfl) (by kernel_rfl) (by kernel_rfl) (fun _ _ _ h => h) (by kernel_rfl) (fun _ => ex_assign _ _ rfl (by kernel_rfl)) ?_
          simp only [Act.put, List.setIfInBounds_toArray, List.set_cons_zero, List.set_cons_succ]
          refine wpAny_done (by kernel_rfl) ?_ _
          rw [hbks] at hr2
          have HG1 : Hid (w7.rowIs g1 4 (s.size + 1) (fun j => .bool (reachF s r.bf allF j))) := (hr1.of_block (hb6.block _ hr1.lt)).of_block (hb7.block _ (hr1.of_block (hb6.block _ hr1.lt)).lt)
          have HG2 : Hid (w7.rowIs g2 4 (s.size + 1) (fun j => .bool (reachF bk r.af.reverse allF j))) := hr2
          have HBq : Hid (Below wr4.heap.size wr4 w7) := ((below_drewN (Below.refl _ wr4) 1).trans hb5).trans ((hb6.trans (hb7.mono hb6.size)).mono hb5.size)
          have HD7 := Lib.hid (HD4.out.of_block (HBq.out.block _ HD4.out.lt))
          have HK7 := Lib.hid (HK4.out.of_block (HBq.out.block _ HK4.out.lt))
          have HB7 := Lib.hid (HB4.out.trans (HBq.out.mono HB4.out.size))
          have z0w := (HBq.out.cell (p := ⟨q, 0, none⟩) hq4).trans z0
          have hg1q : q < g1 := Nat.lt_of_lt_of_le hq4 hg1
          have hg2q : q < g2 := Nat.lt_of_lt_of_le hq4 (Nat.le_trans (Nat.le_trans hb5.size hb6.size) hg2)
          clear hr1 hr2 hb5 hb6 hb7 HL3 hr6 HBq z0 z1 z2 HL1 HL2 HD4 HK4 HB4 HU4 HT4 HQ hq4
          go_wp2_with fail
          obtain ⟨wo2, HWO2⟩ : ∃ wo, Hid (wo = w7) := ⟨w7, rfl⟩
          go_loopg [12] (s.size + 1) (fun gk iv wr => ∃ i : Nat, iv = .int .i64 i ∧ 1 ≤ i ∧ i ≤ s.size + 1 ∧ Hid (wr.rowIs D 4 (s.size + 1) (fun j => .bool (if j < i then decide (0 < j ∧ j < s.size) && foundF (rs.take (k + 1)) s j else decide (0 < j ∧ j < s.size) && foundF (rs.take k) s j))) ∧ Hid (wr.rowIs K 4 (s.size + 1) (fun j => .bool (if j < i then decide (0 < j ∧ j < s.size) && decideF (rs.take (k + 1)) s j else decide (0 < j ∧ j < s.size) && decideF (rs.take k) s j))) ∧ Hid (wr.rowIs g1 4 (s.size + 1) (fun j => .bool (reachF s r.bf allF j))) ∧ Hid (wr.rowIs g2 4 (s.size + 1) (fun j => .bool (reachF bk r.af.reverse allF j))) ∧ wr.cell? ⟨q, 0, none⟩ = some (.bool r.br) ∧ Hid (Below w.heap.size w wr) ∧ s.size + 1 - i ≤ gk)
          case atStart => exact ⟨1, rfl, Nat.le_refl _, by omega, HD7.out.congr (fun j _ => by
              by_cases h : j < 1
              · rw [if_pos h, show j = 0 by omega]; rfl
              · rw [if_neg h]), HK7.out.congr (fun j _ => by
              by_cases h : j < 1
              · rw [if_pos h, show j = 0 by omega]; rfl
              · rw [if_neg h]), HG1.out, HG2.out, z0w, HB7.out, by omega⟩
          case round =>
            clear HD7 HK7 HG1 HG2 z0w HB7 HWO2
            obtain ⟨i, rfl, hi1, hi2, HDi, HKi, HG1i, HG2i, z0i, HBi, hgki⟩ := hrel
            by_cases hil : i < s.size
            · have hii : (i : Int) < (s.size : Int) := by omega
              have hi0 : (0 : Int) ≤ (i : Int) := by omega
              have hi3 : (i : Int) < (s.size : Int) + 1 := by omega
              obtain ⟨t, ht⟩ : ∃ t, t + i = s.size := ⟨s.size - i, by omega⟩
              have hsub : (s.size : Int) - (i : Int) = (t : Int) := by omega
              have ht0 : (0 : Int) ≤ (t : Int) := by omega
              have ht1 : (t : Int) < (s.size : Int) + 1 := by omega
              have qd := HDi.out.cell (i := i) (by omega)
              rw [if_neg (Nat.lt_irrefl i), decide_eq_true ⟨hi1, hil⟩, Bool.true_and] at qd
              have qk := HKi.out.cell (i := i) (by omega)
              have qb := HG1i.out.cell (i := i) (by omega)
              rw [ends_suf r.bf s i (by omega)] at qb
              have qa := HG2i.out.cell (i := t) (by omega)
              rw [show t = s.size - i by omega, ends_pre r.af hbks HBT.out i (by omega), show s.size - i = t by omega] at qa
              have hnd : foundF (rs.take (k + 1)) s i = (foundF (rs.take k) s i || (suffixF r.bf (s.extract 0 i) && prefixF r.af (s.extract i s.size))) := by rw [HTK.out, found_snoc]; rfl
              have hnk : decideF (rs.take (k + 1)) s i = if foundF (rs.take k) s i = true then decideF (rs.take k) s i else ((suffixF r.bf (s.extract 0 i) && prefixF r.af (s.extract i s.size)) && r.br) := by rw [HTK.out, decide_snoc]; rfl
              have hno := decide_none (rs.take k) s i
              cases hfd : foundF (rs.take k) s i with
              | true =>
                rw [hfd] at qd
                have hnew1 : (decide (0 < i ∧ i < s.size) && foundF (rs.take (k + 1)) s i) = (decide (0 < i ∧ i < s.size) && foundF (rs.take k) s i) := by rw [hnd, hfd]; rfl
                have hnew2 : (decide (0 < i ∧ i < s.size) && decideF (rs.take (k + 1)) s i) = (decide (0 < i ∧ i < s.size) && decideF (rs.take k) s i) := by rw [hnk, if_pos hfd]
                clear hnd hnk hno
                have HDN : Hid (wr.rowIs D 4 (s.size + 1) (fun j => .bool (if j < i + 1 then decide (0 < j ∧ j < s.size) && foundF (rs.take (k + 1)) s j else decide (0 < j ∧ j < s.size) && foundF (rs.take k) s j))) := HDi.out.congr fun j hj => by
                  by_cases h : j = i
                  · rw [if_neg (by omega), if_pos (by omega), h, hnew1]
                  · by_cases h2 : j < i
                    · rw [if_pos h2, if_pos (by omega)]
                    · rw [if_neg h2, if_neg (by omega)]
                have HKN : Hid (wr.rowIs K 4 (s.size + 1) (fun j => .bool (if j < i + 1 then decide (0 < j ∧ j < s.size) && decideF (rs.take (k + 1)) s j else decide (0 < j ∧ j < s.size) && decideF (rs.take k) s j))) := HKi.out.congr fun j hj => by
                  by_cases h : j = i
                  · rw [if_neg (by omega), if_pos (by omega), h, hnew2]
                  · by_cases h2 : j < i
                    · rw [if_pos h2, if_pos (by omega)]
                    · rw [if_neg h2, if_neg (by omega)]
                clear hnew1 hnew2
                go_wp2_with fail
                go_roundg (s.size + 1 - (i + 1))
                case measure => omega
                case rel => exact ⟨i + 1, by go_num, by omega, by omega, HDN.out, HKN.out, HG1i.out, HG2i.out, z0i, HBi.out, Nat.le_refl _⟩
              | false =>
                rw [hfd] at qd
                cases hsb : suffixF r.bf (s.extract 0 i) with
                | false =>
                  rw [hsb] at qb
                  have hnew1 : (decide (0 < i ∧ i < s.size) && foundF (rs.take (k + 1)) s i) = (decide (0 < i ∧ i < s.size) && foundF (rs.take k) s i) := by rw [hnd, hfd, hsb]; rfl
                  have hnew2 : (decide (0 < i ∧ i < s.size) && decideF (rs.take (k + 1)) s i) = (decide (0 < i ∧ i < s.size) && decideF (rs.take k) s i) := by rw [hnk, if_neg (by rw [hfd]; exact Bool.false_ne_true), hsb, hno hfd]; rfl
                  clear hnd hnk hno
                  have HDN : Hid (wr.rowIs D 4 (s.size + 1) (fun j => .bool (if j < i + 1 then decide (0 < j ∧ j < s.size) && foundF (rs.take (k + 1)) s j else decide (0 < j ∧ j < s.size) && foundF (rs.take k) s j))) := HDi.out.congr fun j hj => by
                    by_cases h : j = i
                    · rw [if_neg (by omega), if_pos (by omega), h, hnew1]
                    · by_cases h2 : j < i
                      · rw [if_pos h2, if_pos (by omega)]
                      · rw [if_neg h2, if_neg (by omega)]
                  have HKN : Hid (wr.rowIs K 4 (s.size + 1) (fun j => .bool (if j < i + 1 then decide (0 < j ∧ j < s.size) && decideF (rs.take (k + 1)) s j else decide (0 < j ∧ j < s.size) && decideF (rs.take k) s j))) := HKi.out.congr fun j hj => by
                    by_cases h : j = i
                    · rw [if_neg (by omega), if_pos (by omega), h, hnew2]
                    · by_cases h2 : j < i
                      · rw [if_pos h2, if_pos (by omega)]
                      · rw [if_neg h2, if_neg (by omega)]
                  clear hnew1 hnew2
                  go_wp2_with fail
                  go_roundg (s.size + 1 - (i + 1))
                  case measure => omega
                  case rel => exact ⟨i + 1, by go_num, by omega, by omega, HDN.out, HKN.out, HG1i.out, HG2i.out, z0i, HBi.out, Nat.le_refl _⟩
                | true =>
                  rw [hsb] at qb
                  cases hpa : prefixF r.af (s.extract i s.size) with
                  | false =>
                    rw [hpa] at qa
                    have hnew1 : (decide (0 < i ∧ i < s.size) && foundF (rs.take (k + 1)) s i) = (decide (0 < i ∧ i < s.size) && foundF (rs.take k) s i) := by rw [hnd, hfd, hsb, hpa]; rfl
                    have hnew2 : (decide (0 < i ∧ i < s.size) && decideF (rs.take (k + 1)) s i) = (decide (0 < i ∧ i < s.size) && decideF (rs.take k) s i) := by rw [hnk, if_neg (by rw [hfd]; exact Bool.false_ne_true), hsb, hpa, hno hfd]; rfl
                    clear hnd hnk hno
                    have HDN : Hid (wr.rowIs D 4 (s.size + 1) (fun j => .bool (if j < i + 1 then decide (0 < j ∧ j < s.size) && foundF (rs.take (k + 1)) s j else decide (0 < j ∧ j < s.size) && foundF (rs.take k) s j))) := HDi.out.congr fun j hj => by
                      by_cases h : j = i
                      · rw [if_neg (by omega), if_pos (by omega), h, hnew1]
                      · by_cases h2 : j < i
                        · rw [if_pos h2, if_pos (by omega)]
                        · rw [if_neg h2, if_neg (by omega)]
                    have HKN : Hid (wr.rowIs K 4 (s.size + 1) (fun j => .bool (if j < i + 1 then decide (0 < j ∧ j < s.size) && decideF (rs.take (k + 1)) s j else decide (0 < j ∧ j < s.size) && decideF (rs.take k) s j))) := HKi.out.congr fun j hj => by
                      by_cases h : j = i
                      · rw [if_neg (by omega), if_pos (by omega), h, hnew2]
                      · by_cases h2 : j < i
                        · rw [if_pos h2, if_pos (by omega)]
                        · rw [if_neg h2, if_neg (by omega)]
                    clear hnew1 hnew2
                    go_wp2_with fail
                    go_roundg (s.size + 1 - (i + 1))
                    case measure => omega
                    case rel => exact ⟨i + 1, by go_num, by omega, by omega, HDN.out, HKN.out, HG1i.out, HG2i.out, z0i, HBi.out, Nat.le_refl _⟩
                  | true =>
                    rw [hpa] at qa
                    have hnew1 : foundF (rs.take (k + 1)) s i = true := by rw [hnd, hfd, hsb, hpa]; rfl
                    have hnew2 : decideF (rs.take (k + 1)) s i = r.br := by rw [hnk, if_neg (by rw [hfd]; exact Bool.false_ne_true), hsb, hpa]; rfl
                    clear hnd hnk hno
                    have fd := HDi.out.frozen i
                    have fk := HKi.out.frozen i
                    have hne : ¬ D = K := by omega
                    have hne2 : ¬ K = D := by omega
                    have HD8 : Hid (((wr.drew.setCell ⟨D, i, none⟩ (.bool true)).setCell ⟨K, i, none⟩ (.bool r.br)).rowIs D 4 (s.size + 1) (fun j => .bool (if j < i + 1 then decide (0 < j ∧ j < s.size) && foundF (rs.take (k + 1)) s j else decide (0 < j ∧ j < s.size) && foundF (rs.take k) s j))) := ((HDi.out.drew.set i (.bool true)).of_block (Below.heap_setCell _ _ _ _ (show D ≠ K by omega))).congr fun j hj => by
                      by_cases h : j = i
                      · rw [if_pos h, if_pos (by omega), h, hnew1, decide_eq_true ⟨hi1, hil⟩]; rfl
                      · rw [if_neg h]
                        by_cases h2 : j < i
                        · rw [if_pos h2, if_pos (by omega)]
                        · rw [if_neg h2, if_neg (by omega)]
                    have HK8 : Hid (((wr.drew.setCell ⟨D, i, none⟩ (.bool true)).setCell ⟨K, i, none⟩ (.bool r.br)).rowIs K 4 (s.size + 1) (fun j => .bool (if j < i + 1 then decide (0 < j ∧ j < s.size) && decideF (rs.take (k + 1)) s j else decide (0 < j ∧ j < s.size) && decideF (rs.take k) s j))) := ((HKi.out.drew.of_block (Below.heap_setCell _ _ _ _ (show K ≠ D by omega))).set i (.bool r.br)).congr fun j hj => by
                      by_cases h : j = i
                      · rw [if_pos h, if_pos (by omega), h, hnew2, decide_eq_true ⟨hi1, hil⟩]; rfl
                      · rw [if_neg h]
                        by_cases h2 : j < i
                        · rw [if_pos h2, if_pos (by omega)]
                        · rw [if_neg h2, if_neg (by omega)]
                    have HG18 : Hid (((wr.drew.setCell ⟨D, i, none⟩ (.bool true)).setCell ⟨K, i, none⟩ (.bool r.br)).rowIs g1 4 (s.size + 1) (fun j => .bool (reachF s r.bf allF j))) := (HG1i.out.drew.of_block (Below.heap_setCell _ _ _ _ (show g1 ≠ D by omega))).of_block (Below.heap_setCell _ _ _ _ (show g1 ≠ K by omega))
                    have HG28 : Hid (((wr.drew.setCell ⟨D, i, none⟩ (.bool true)).setCell ⟨K, i, none⟩ (.bool r.br)).rowIs g2 4 (s.size + 1) (fun j => .bool (reachF bk r.af.reverse allF j))) := (HG2i.out.drew.of_block (Below.heap_setCell _ _ _ _ (show g2 ≠ D by omega))).of_block (Below.heap_setCell _ _ _ _ (show g2 ≠ K by omega))
                    have HZ8 : Hid (((wr.drew.setCell ⟨D, i, none⟩ (.bool true)).setCell ⟨K, i, none⟩ (.bool r.br)).cell? ⟨q, 0, none⟩ = some (.bool r.br)) := by
                      show _ = _
                      rw [World.cell?_of_block (w := wr.drew.setCell ⟨D, i, none⟩ (.bool true)) (Below.heap_setCell _ _ _ _ (show q ≠ K by omega)), World.cell?_of_block (w := wr.drew) (Below.heap_setCell _ _ _ _ (show q ≠ D by omega))]
                      exact z0i
                    have HB8 : Hid (Below w.heap.size w ((wr.drew.setCell ⟨D, i, none⟩ (.bool true)).setCell ⟨K, i, none⟩ (.bool r.br))) := (HBi.out.drew.setCell (p := ⟨D, i, none⟩) (show w.heap.size ≤ D by omega) _).setCell (p := ⟨K, i, none⟩) (show w.heap.size ≤ K by omega) _
                    go_upto_region 14 with fail
                    go_region
                    go_wp2_with fail
                    go_roundg (s.size + 1 - (i + 1))
                    case measure => omega
                    case rel => exact ⟨i + 1, by go_num, by omega, by omega, HD8.out, HK8.out, HG18.out, HG28.out, HZ8.out, HB8.out, Nat.le_refl _⟩
            · have hge : s.size ≤ i := by omega
              have hii : ¬ (i : Int) < (s.size : Int) := by omega
              have HDE : Hid (wr.rowIs D 4 (s.size + 1) (fun j => .bool (decide (0 < j ∧ j < s.size) && foundF (rs.take (k + 1)) s j))) := HDi.out.congr fun j hj => by
                by_cases h : j < i
                · rw [if_pos h]
                · rw [if_neg h, decide_eq_false (by omega)]; rfl
              have HKE : Hid (wr.rowIs K 4 (s.size + 1) (fun j => .bool (decide (0 < j ∧ j < s.size) && decideF (rs.take (k + 1)) s j))) := HKi.out.congr fun j hj => by
                by_cases h : j < i
                · rw [if_pos h]
                · rw [if_neg h, decide_eq_false (by omega)]; rfl
              go_wp2_with fail
              go_roundg (xs.length - (k + 1))
              case measure => omega
              case rel => exact ⟨k + 1, by go_num, by omega, HDE.out, HKE.out, HBi.out, Nat.le_refl _⟩
      · simp only [Act.put, List.setIfInBounds_toArray, List.set_cons_zero, List.set_cons_succ]
        refine wpAny_val 1 (some 36) (.slice uA un uc) (by kernel_rfl) rfl rfl (by kernel_rfl) (ex_load 28 _ (.pointer (some ⟨q, 1, none⟩)) _ rfl (by kernel_rfl) (HL1.out)) ?_
        simp only [Act.put, List.setIfInBounds_toArray, List.set_cons_zero, List.set_cons_succ]
        refine wpAny_call 3 (some 38) (by kernel_rfl) rfl rfl (by kernel_rfl) 50 (#[.slice uA un uc, .string s]) (by go_simp) (ends_any r.bf s _ wr4.drew HU4.out (by omega) hbl0) ?_
        rintro e w5 ⟨g1, rfl, hg1, hr1, hb5⟩
        refine ⟨_, rfl, ?_⟩
        have HL3 : Hid (∀ w', w'.heap = w5.heap → (Instr.loadAt 28 (.pointer (some ⟨q, 2, none⟩))).run Tryd.prog w' = .ok (.slice tA tn tc) w') := fun w' hw' => ld_slice (by rw [World.cell?_of_block (w := w5) (by rw [hw'])]; exact (hb5.cell (p := ⟨q, 2, none⟩) hq4).trans z2)
        change wpAny _ _ _ _ _ _ (Act.put _ (some 38) _) _
        simp only [Act.put, List.setIfInBounds_toArray, List.set_cons_zero, List.set_cons_succ]
        refine wpAny_call 6 (some 41) (by kernel_rfl) rfl rfl (by kernel_rfl) 51 (#[.slice tA tn tc]) (by go_simp) (revp_any r.af _ w5 ((show RdE atC 34 wr4.drew _ _ from HT4.out).below hb5 (Nat.le_refl _)) hal0) ?_
        rintro e w6 ⟨v6, rfl, hr6, hb6⟩
        refine ⟨_, rfl, ?_⟩
        change wpAny _ _ _ _ _ _ (Act.put _ (some 41) _) _
        simp only [Act.put, List.setIfInBounds_toArray, List.set_cons_zero, List.set_cons_succ]
        refine wpAny_call 8 (some 43) (by kernel_rfl) rfl rfl (by kernel_rfl) 50 (#[v6, .string bk]) (by go_simp) (ends_any r.af.reverse bk v6 w6 hr6 (by omega) (by simp; omega)) ?_
        rintro e w7 ⟨g2, rfl, hg2, hr2, hb7⟩
        refine ⟨_, rfl, ?_⟩
        rw [hbks]
        change wpAny _ _ _ _ _ _ (Act.put _ (some 43) _) _
        simp only [Act.put, List.setIfInBounds_toArray, List.set_cons_zero, List.set_cons_succ]
        refine wpAny_at (i := 9) (v := .slice (some ⟨g1, 0, none⟩) (s.size + 1) (s.size + 1)) (some 10) rfl rfl (by kernel_rfl) (by kernel_rfl) (by kernel_rfl) (fun _ _ _ h => h) (by kernel_rfl) (fun _ => ex_assign _ _ rfl (by kernel_rfl)) ?_
        simp only [Act.put, List.setIfInBounds_toArray, List.set_cons_zero, List.set_cons_succ]
        refine wpAny_at (i := 10) (v := .slice (some ⟨g2, 0, none⟩) (s.size + 1) (s.size + 1)) (some 11) rfl rfl (by kernel_rfl) (by kernel_rfl) (by kernel_rfl) (fun _ _ _ h => h) (by kernel_rfl) (fun _ => ex_assign _ _ rfl (by kernel_rfl)) ?_
        simp only [Act.put, List.setIfInBounds_toArray, List.set_cons_zero, List.set_cons_succ]
        refine wpAny_done (by kernel_rfl) ?_ _
        rw [hbks] at hr2
        have HG1 : Hid (w7.rowIs g1 4 (s.size + 1) (fun j => .bool (reachF s r.bf allF j))) := (hr1.of_block (hb6.block _ hr1.lt)).of_block (hb7.block _ (hr1.of_block (hb6.block _ hr1.lt)).lt)
        have HG2 : Hid (w7.rowIs g2 4 (s.size + 1) (fun j => .bool (reachF bk r.af.reverse allF j))) := hr2
        have HBq : Hid (Below wr4.heap.size wr4 w7) := ((below_drewN (Below.refl _ wr4) 1).trans hb5).trans ((hb6.trans (hb7.mono hb6.size)).mono hb5.size)
        have HD7 := Lib.hid (HD4.out.of_block (HBq.out.block _ HD4.out.lt))
        have HK7 := Lib.hid (HK4.out.of_block (HBq.out.block _ HK4.out.lt))
        have HB7 := Lib.hid (HB4.out.trans (HBq.out.mono HB4.out.size))
        have z0w := (HBq.out.cell (p := ⟨q, 0, none⟩) hq4).trans z0
        have hg1q : q < g1 := Nat.lt_of_lt_of_le hq4 hg1
        have hg2q : q < g2 := Nat.lt_of_lt_of_le hq4 (Nat.le_trans (Nat.le_trans hb5.size hb6.size) hg2)
        clear hr1 hr2 hb5 hb6 hb7 HL3 hr6 HBq z0 z1 z2 HL1 HL2 HD4 HK4 HB4 HU4 HT4 HQ hq4
        go_wp2_with fail
        obtain ⟨wo2, HWO2⟩ : ∃ wo, Hid (wo = w7) := ⟨w7, rfl⟩
        go_loopg [12] (s.size + 1) (fun gk iv wr => ∃ i : Nat, iv = .int .i64 i ∧ 1 ≤ i ∧ i ≤ s.size + 1 ∧ Hid (wr.rowIs D 4 (s.size + 1) (fun j => .bool (if j < i then decide (0 < j ∧ j < s.size) && foundF (rs.take (k + 1)) s j else decide (0 < j ∧ j < s.size) && foundF (rs.take k) s j))) ∧ Hid (wr.rowIs K 4 (s.size + 1) (fun j => .bool (if j < i then decide (0 < j ∧ j < s.size) && decideF (rs.take (k + 1)) s j else decide (0 < j ∧ j < s.size) && decideF (rs.take k) s j))) ∧ Hid (wr.rowIs g1 4 (s.size + 1) (fun j => .bool (reachF s r.bf allF j))) ∧ Hid (wr.rowIs g2 4 (s.size + 1) (fun j => .bool (reachF bk r.af.reverse allF j))) ∧ wr.cell? ⟨q, 0, none⟩ = some (.bool r.br) ∧ Hid (Below w.heap.size w wr) ∧ s.size + 1 - i ≤ gk)
        case atStart => exact ⟨1, rfl, Nat.le_refl _, by omega, HD7.out.congr (fun j _ => by
            by_cases h : j < 1
            · rw [if_pos h, show j = 0 by omega]; rfl
            · rw [if_neg h]), HK7.out.congr (fun j _ => by
            by_cases h : j < 1
            · rw [if_pos h, show j = 0 by omega]; rfl
            · rw [if_neg h]), HG1.out, HG2.out, z0w, HB7.out, by omega⟩
        case round =>
          clear HD7 HK7 HG1 HG2 z0w HB7 HWO2
          obtain ⟨i, rfl, hi1, hi2, HDi, HKi, HG1i, HG2i, z0i, HBi, hgki⟩ := hrel
          by_cases hil : i < s.size
          · have hii : (i : Int) < (s.size : Int) := by omega
            have hi0 : (0 : Int) ≤ (i : Int) := by omega
            have hi3 : (i : Int) < (s.size : Int) + 1 := by omega
            obtain ⟨t, ht⟩ : ∃ t, t + i = s.size := ⟨s.size - i, by omega⟩
            have hsub : (s.size : Int) - (i : Int) = (t : Int) := by omega
            have ht0 : (0 : Int) ≤ (t : Int) := by omega
            have ht1 : (t : Int) < (s.size : Int) + 1 := by omega
            have qd := HDi.out.cell (i := i) (by omega)
            rw [if_neg (Nat.lt_irrefl i), decide_eq_true ⟨hi1, hil⟩, Bool.true_and] at qd
            have qk := HKi.out.cell (i := i) (by omega)
            have qb := HG1i.out.cell (i := i) (by omega)
            rw [ends_suf r.bf s i (by omega)] at qb
            have qa := HG2i.out.cell (i := t) (by omega)
            rw [show t = s.size - i by omega, ends_pre r.af hbks HBT.out i (by omega), show s.size - i = t by omega] at qa
            have hnd : foundF (rs.take (k + 1)) s i = (foundF (rs.take k) s i || (suffixF r.bf (s.extract 0 i) && prefixF r.af (s.extract i s.size))) := by rw [HTK.out, found_snoc]; rfl
            have hnk : decideF (rs.take (k + 1)) s i = if foundF (rs.take k) s i = true then decideF (rs.take k) s i else ((suffixF r.bf (s.extract 0 i) && prefixF r.af (s.extract i s.size)) && r.br) := by rw [HTK.out, decide_snoc]; rfl
            have hno := decide_none (rs.take k) s i
            cases hfd : foundF (rs.take k) s i with
            | true =>
              rw [hfd] at qd
              have hnew1 : (decide (0 < i ∧ i < s.size) && foundF (rs.take (k + 1)) s i) = (decide (0 < i ∧ i < s.size) && foundF (rs.take k) s i) := by rw [hnd, hfd]; rfl
              have hnew2 : (decide (0 < i ∧ i < s.size) && decideF (rs.take (k + 1)) s i) = (decide (0 < i ∧ i < s.size) && decideF (rs.take k) s i) := by rw [hnk, if_pos hfd]
              clear hnd hnk hno
              have HDN : Hid (wr.rowIs D 4 (s.size + 1) (fun j => .bool (if j < i + 1 then decide (0 < j ∧ j < s.size) && foundF (rs.take (k + 1)) s j else decide (0 < j ∧ j < s.size) && foundF (rs.take k) s j))) := HDi.out.congr fun j hj => by
                by_cases h : j = i
                · rw [if_neg (by omega), if_pos (by omega), h, hnew1]
                · by_cases h2 : j < i
                  · rw [if_pos h2, if_pos (by omega)]
                  · rw [if_neg h2, if_neg (by omega)]
              have HKN : Hid (wr.rowIs K 4 (s.size + 1) (fun j => .bool (if j < i + 1 then decide (0 < j ∧ j < s.size) && decideF (rs.take (k + 1)) s j else decide (0 < j ∧ j < s.size) && decideF (rs.take k) s j))) := HKi.out.congr fun j hj => by
                by_cases h : j = i
                · rw [if_neg (by omega), if_pos (by omega), h, hnew2]
                · by_cases h2 : j < i
                  · rw [if_pos h2, if_pos (by omega)]
                  · rw [if_neg h2, if_neg (by omega)]
              clear hnew1 hnew2
              go_wp2_with fail
              go_roundg (s.size + 1 - (i + 1))
              case measure => omega
              case rel => exact ⟨i + 1, by go_num, by omega, by omega, HDN.out, HKN.out, HG1i.out, HG2i.out, z0i, HBi.out, Nat.le_refl _⟩
            | false =>
              rw [hfd] at qd
              cases hsb : suffixF r.bf (s.extract 0 i) with
              | false =>
                rw [hsb] at qb
                have hnew1 : (decide (0 < i ∧ i < s.size) && foundF (rs.take (k + 1)) s i) = (decide (0 < i ∧ i < s.size) && foundF (rs.take k) s i) := by rw [hnd, hfd, hsb]; rfl
                have hnew2 : (decide (0 < i ∧ i < s.size) && decideF (rs.take (k + 1)) s i) = (decide (0 < i ∧ i < s.size) && decideF (rs.take k) s i) := by rw [hnk, if_neg (by rw [hfd]; exact Bool.false_ne_true), hsb, hno hfd]; rfl
                clear hnd hnk hno
                have HDN : Hid (wr.rowIs D 4 (s.size + 1) (fun j => .bool (if j < i + 1 then decide (0 < j ∧ j < s.size) && foundF (rs.take (k + 1)) s j else decide (0 < j ∧ j < s.size) && foundF (rs.take k) s j))) := HDi.out.congr fun j hj => by
                  by_cases h : j = i
                  · rw [if_neg (by omega), if_pos (by omega), h, hnew1]
                  · by_cases h2 : j < i
                    · rw [if_pos h2, if_pos (by omega)]
                    · rw [if_neg h2, if_neg (by omega)]
                have HKN : Hid (wr.rowIs K 4 (s.size + 1) (fun j => .bool (if j < i + 1 then decide (0 < j ∧ j < s.size) && decideF (rs.take (k + 1)) s j else decide (0 < j ∧ j < s.size) && decideF (rs.take k) s j))) := HKi.out.congr fun j hj => by
                  by_cases h : j = i
                  · rw [if_neg (by omega), if_pos (by omega), h, hnew2]
                  · by_cases h2 : j < i
                    · rw [if_pos h2, if_pos (by omega)]
                    · rw [if_neg h2, if_neg (by omega)]
                clear hnew1 hnew2
                go_wp2_with fail
                go_roundg (s.size + 1 - (i + 1))
                case measure => omega
                case rel => exact ⟨i + 1, by go_num, by omega, by omega, HDN.out, HKN.out, HG1i.out, HG2i.out, z0i, HBi.out, Nat.le_refl _⟩
              | true =>
                rw [hsb] at qb
                cases hpa : prefixF r.af (s.extract i s.size) with
                | false =>
                  rw [hpa] at qa
                  have hnew1 : (decide (0 < i ∧ i < s.size) && foundF (rs.take (k + 1)) s i) = (decide (0 < i ∧ i < s.size) && foundF (rs.take k) s i) := by rw [hnd, hfd, hsb, hpa]; rfl
                  have hnew2 : (decide (0 < i ∧ i < s.size) && decideF (rs.take (k + 1)) s i) = (decide (0 < i ∧ i < s.size) && decideF (rs.take k) s i) := by rw [hnk, if_neg (by rw [hfd]; exact Bool.false_ne_true), hsb, hpa, hno hfd]; rfl
                  clear hnd hnk hno
                  have HDN : Hid (wr.rowIs D 4 (s.size + 1) (fun j => .bool (if j < i + 1 then decide (0 < j ∧ j < s.size) && foundF (rs.take (k + 1)) s j else decide (0 < j ∧ j < s.size) && foundF (rs.take k) s j))) := HDi.out.congr fun j hj => by
                    by_cases h : j = i
                    · rw [if_neg (by omega), if_pos (by omega), h, hnew1]
                    · by_cases h2 : j < i
                      · rw [if_pos h2, if_pos (by omega)]
                      · rw [if_neg h2, if_neg (by omega)]
                  have HKN : Hid (wr.rowIs K 4 (s.size + 1) (fun j => .bool (if j < i + 1 then decide (0 < j ∧ j < s.size) && decideF (rs.take (k + 1)) s j else decide (0 < j ∧ j < s.size) && decideF (rs.take k) s j))) := HKi.out.congr fun j hj => by
                    by_cases h : j = i
                    · rw [if_neg (by omega), if_pos (by omega), h, hnew2]
                    · by_cases h2 : j < i
                      · rw [if_pos h2, if_pos (by omega)]
                      · rw [if_neg h2, if_neg (by omega)]
                  clear hnew1 hnew2
                  go_wp2_with fail
                  go_roundg (s.size + 1 - (i + 1))
                  case measure => omega
                  case rel => exact ⟨i + 1, by go_num, by omega, by omega, HDN.out, HKN.out, HG1i.out, HG2i.out, z0i, HBi.out, Nat.le_refl _⟩
                | true =>
                  rw [hpa] at qa
                  have hnew1 : foundF (rs.take (k + 1)) s i = true := by rw [hnd, hfd, hsb, hpa]; rfl
                  have hnew2 : decideF (rs.take (k + 1)) s i = r.br := by rw [hnk, if_neg (by rw [hfd]; exact Bool.false_ne_true), hsb, hpa]; rfl
                  clear hnd hnk hno
                  have fd := HDi.out.frozen i
                  have fk := HKi.out.frozen i
                  have hne : ¬ D = K := by omega
                  have hne2 : ¬ K = D := by omega
                  have HD8 : Hid (((wr.drew.setCell ⟨D, i, none⟩ (.bool true)).setCell ⟨K, i, none⟩ (.bool r.br)).rowIs D 4 (s.size + 1) (fun j => .bool (if j < i + 1 then decide (0 < j ∧ j < s.size) && foundF (rs.take (k + 1)) s j else decide (0 < j ∧ j < s.size) && foundF (rs.take k) s j))) := ((HDi.out.drew.set i (.bool true)).of_block (Below.heap_setCell _ _ _ _ (show D ≠ K by omega))).congr fun j hj => by
                    by_cases h : j = i
                    · rw [if_pos h, if_pos (by omega), h, hnew1, decide_eq_true ⟨hi1, hil⟩]; rfl
                    · rw [if_neg h]
                      by_cases h2 : j < i
                      · rw [if_pos h2, if_pos (by omega)]
                      · rw [if_neg h2, if_neg (by omega)]
                  have HK8 : Hid (((wr.drew.setCell ⟨D, i, none⟩ (.bool true)).setCell ⟨K, i, none⟩ (.bool r.br)).rowIs K 4 (s.size + 1) (fun j => .bool (if j < i + 1 then decide (0 < j ∧ j < s.size) && decideF (rs.take (k + 1)) s j else decide (0 < j ∧ j < s.size) && decideF (rs.take k) s j))) := ((HKi.out.drew.of_block (Below.heap_setCell _ _ _ _ (show K ≠ D by omega))).set i (.bool r.br)).congr fun j hj => by
                    by_cases h : j = i
                    · rw [if_pos h, if_pos (by omega), h, hnew2, decide_eq_true ⟨hi1, hil⟩]; rfl
                    · rw [if_neg h]
                      by_cases h2 : j < i
                      · rw [if_pos h2, if_pos (by omega)]
                      · rw [if_neg h2, if_neg (by omega)]
                  have HG18 : Hid (((wr.drew.setCell ⟨D, i, none⟩ (.bool true)).setCell ⟨K, i, none⟩ (.bool r.br)).rowIs g1 4 (s.size + 1) (fun j => .bool (reachF s r.bf allF j))) := (HG1i.out.drew.of_block (Below.heap_setCell _ _ _ _ (show g1 ≠ D by omega))).of_block (Below.heap_setCell _ _ _ _ (show g1 ≠ K by omega))
                  have HG28 : Hid (((wr.drew.setCell ⟨D, i, none⟩ (.bool true)).setCell ⟨K, i, none⟩ (.bool r.br)).rowIs g2 4 (s.size + 1) (fun j => .bool (reachF bk r.af.reverse allF j))) := (HG2i.out.drew.of_block (Below.heap_setCell _ _ _ _ (show g2 ≠ D by omega))).of_block (Below.heap_setCell _ _ _ _ (show g2 ≠ K by omega))
                  have HZ8 : Hid (((wr.drew.setCell ⟨D, i, none⟩ (.bool true)).setCell ⟨K, i, none⟩ (.bool r.br)).cell? ⟨q, 0, none⟩ = some (.bool r.br)) := by
                    show _ = _
                    rw [World.cell?_of_block (w := wr.drew.setCell ⟨D, i, none⟩ (.bool true)) (Below.heap_setCell _ _ _ _ (show q ≠ K by omega)), World.cell?_of_block (w := wr.drew) (Below.heap_setCell _ _ _ _ (show q ≠ D by omega))]
                    exact z0i
                  have HB8 : Hid (Below w.heap.size w ((wr.drew.setCell ⟨D, i, none⟩ (.bool true)).setCell ⟨K, i, none⟩ (.bool r.br))) := (HBi.out.drew.setCell (p := ⟨D, i, none⟩) (show w.heap.size ≤ D by omega) _).setCell (p := ⟨K, i, none⟩) (show w.heap.size ≤ K by omega) _
                  go_upto_region 14 with fail
                  go_region
                  go_wp2_with fail
                  go_roundg (s.size + 1 - (i + 1))
                  case measure => omega
                  case rel => exact ⟨i + 1, by go_num, by omega, by omega, HD8.out, HK8.out, HG18.out, HG28.out, HZ8.out, HB8.out, Nat.le_refl _⟩
          · have hge : s.size ≤ i := by omega
            have hii : ¬ (i : Int) < (s.size : Int) := by omega
            have HDE : Hid (wr.rowIs D 4 (s.size + 1) (fun j => .bool (decide (0 < j ∧ j < s.size) && foundF (rs.take (k + 1)) s j))) := HDi.out.congr fun j hj => by
              by_cases h : j < i
              · rw [if_pos h]
              · rw [if_neg h, decide_eq_false (by omega)]; rfl
            have HKE : Hid (wr.rowIs K 4 (s.size + 1) (fun j => .bool (decide (0 < j ∧ j < s.size) && decideF (rs.take (k + 1)) s j))) := HKi.out.congr fun j hj => by
              by_cases h : j < i
              · rw [if_pos h]
              · rw [if_neg h, decide_eq_false (by omega)]; rfl
            go_wp2_with fail
            go_roundg (xs.length - (k + 1))
            case measure => omega
            case rel => exact ⟨k + 1, by go_num, by omega, HDE.out, HKE.out, HBi.out, Nat.le_refl _⟩
    · obtain rfl : k = xs.length := by omega
      have hki : ¬ (xs.length : Int) < (xs.length : Int) := by omega
      have HKF : Hid (wr.rowIs K 4 (s.size + 1) (fun j => .bool (rowB rs s j))) := HK.out.congr fun j hj => by
        rw [List.take_of_length_le hxb]; rfl
      have e0 : uptoN (rowB rs s) (s.size + 1) = breaksF rs s := breaks_row rs s (by omega)
      have E0 := Lib.hid e0
      clear HD HK e0
      obtain ⟨M, hM⟩ : ∃ M, Hid (M = wr.heap.size) := ⟨_, rfl⟩
      have hKM : K < M := by rw [hM.out]; exact HKF.out.lt
      have hwM : w.heap.size ≤ M := by rw [hM.out]; exact HB.out.size
      have hMw : M ≤ wr.heap.size := by rw [hM.out]; exact Nat.le_refl _
      go_wp2_with fail
      obtain ⟨wo3, HWO3⟩ : ∃ wo, Hid (wo = wr) := ⟨wr, rfl⟩
      go_loopg [13, 81] (s.size + 1) (fun gk ov kv wr => ∃ (k : Nat) (q : List Int) (A : Option Addr) (c : Nat), ov = .slice A q.length c ∧ kv = .int .i64 k ∧ k ≤ s.size + 1 ∧ Hid (q = uptoN (rowB rs s) k) ∧ Hid (OwnE 3 intC 1 wr M (.slice A q.length c) q) ∧ Hid (wr.rowIs K 4 (s.size + 1) (fun j => .bool (rowB rs s j))) ∧ M ≤ wr.heap.size ∧ Hid (Below w.heap.size w wr) ∧ q.length ≤ k ∧ s.size + 1 - k ≤ gk)
      case atStart => exact ⟨0, [], none, 0, rfl, rfl, by omega, rfl, OwnE.nil, HKF.out, hMw, HB.out, Nat.le_refl _, by omega⟩
      case round =>
        clear HKF HB hMw HWO3 hM
        obtain ⟨k, q, A, c, rfl, rfl, hk2, HQ, HO, HK2, hMr, HB2, hqk, hgk2⟩ := hrel
        by_cases hkl2 : k < s.size + 1
        · have hkj : (k : Int) < (s.size : Int) + 1 := by omega
          have hk0 : (0 : Int) ≤ (k : Int) := by omega
          have qk := HK2.out.cell (i := k) hkl2
          have HQ2 : Hid (uptoN (rowB rs s) (k + 1) = q ++ if rowB rs s k = true then [(k : Int)] else []) := by show _ = _; rw [uptoN_succ, HQ.out]
          cases hb : rowB rs s k with
          | false =>
            rw [hb] at qk HQ2
            rw [if_neg Bool.false_ne_true, List.append_nil] at HQ2
            go_wp2_with fail
            go_roundg (s.size + 1 - (k + 1))
            case measure => omega
            case rel => exact ⟨k + 1, q, A, c, rfl, by go_num, by omega, HQ2.out.symm, HO.out, HK2.out, hMr, HB2.out, by omega, Nat.le_refl _⟩
          | true =>
            rw [hb] at qk HQ2
            rw [if_pos rfl] at HQ2
            go_wp2_with (at_builtin; go_must (refine wpList_app1 rfl (.tmp 87) (.tmp 89) 32 3 rfl Tryd.underlying32 _ 1 8 int_info6 rfl (by decide) M (.slice A q.length c) q.length (q.flatMap intC) rfl (own_below HO.out ((Below.refl _ wr).alloc (Nat.le_refl _) _) (Nat.le_refl _)) ⟨wr.heap.size, 0, none⟩ 1 (intC k) rfl rfl (cells_new wr (intC k) 3) (intC_oneA k) (by omega) (by decide) (by simp; omega) ?_); intro g9 cap w9 hown9 hbg9 hbel9 hgrow9)
            have hbn := hbel9 M wr (Nat.le_refl _) ((Below.refl M wr).alloc hMr (.cells (intC k).toArray 3))
            have HB9 := Lib.hid (HB2.out.trans (hbn.mono hwM))
            have HO9 : Hid (OwnE 3 intC 1 w9 M (.slice (some ⟨g9, 0, none⟩) (q.length + 1) cap) (q ++ [(k : Int)])) := OwnE.snoc hown9
            have HK9 := Lib.hid (HK2.out.of_block (hbn.block _ hKM))
            have hM9 := Nat.le_trans hMr hbn.size
            clear hown9 hbel9 hgrow9 hbn
            go_wp2_with fail
            go_roundg (s.size + 1 - (k + 1))
            case measure => omega
            case rel => exact ⟨k + 1, q ++ [(k : Int)], some ⟨g9, 0, none⟩, cap, by (show Value.slice _ _ _ = Value.slice _ _ _); rw [List.length_append]; rfl, by go_num, by omega, HQ2.out.symm, by (show OwnE _ _ _ _ _ _ _); rw [List.length_append]; exact HO9.out, HK9.out, hM9, HB9.out, by rw [List.length_append]; show q.length + 1 ≤ k + 1; omega, Nat.le_refl _⟩
        · obtain rfl : k = s.size + 1 := by omega
          have hkj : ¬ (((s.size + 1 : Nat)) : Int) < (s.size : Int) + 1 := by omega
          have E1 : Hid (q = breaksF rs s) := HQ.out.trans E0.out
          go_wp2_with fail
          rw [HRR.out]
          have h := own_base HO.out hwM
          rw [← E1.out]
          exact ⟨_, rfl, h, HB2.out⟩

end Go.Proofs.YtpboaadjbkaidaaDoor

namespace Go.Proofs.YtpboaadjbkaidaaDoor
set_option maxRecDepth 100000
open Go.RowKit

end Go.Proofs.YtpboaadjbkaidaaDoor

namespace Go.Proofs.YtpboaadjbkaidaaDoor
set_option maxRecDepth 100000
open Go.RowKit

end Go.Proofs.YtpboaadjbkaidaaDoor

namespace Go.Proofs.YtpboaadjbkaidaaDoor
set_option maxRecDepth 100000
open Go.RowKit

end Go.Proofs.YtpboaadjbkaidaaDoor

namespace Go.Proofs.YtpboaadjbkaidaaDoor
set_option maxRecDepth 100000
open Go.RowKit

end Go.Proofs.YtpboaadjbkaidaaDoor

namespace Go.Proofs.YtpboaadjbkaidaaDoor
set_option maxRecDepth 100000

end Go.Proofs.YtpboaadjbkaidaaDoor

namespace Go.Proofs.YtpboaadjbkaidaaDoor
set_option maxRecDepth 100000
open Go.RowKit

/-- The bounds under which a list of rules is asked. -/
def RuSmall (rs : List Ru) : Prop := rs.length ≤ 1000000 ∧ ∀ r ∈ rs, r.bf.length ≤ 1000000 ∧ r.af.length ≤ 1000000


end Go.Proofs.YtpboaadjbkaidaaDoor

namespace Go.Proofs.YtpboaadjbkaidaaDoor
set_option maxRecDepth 100000

/-- The breaks as natural numbers. -/
def bnF (rs : List Ru) (s : ByteArray) : List Nat := if 1024 < s.size then [] else (List.range s.size).filter fun k => decide (0 < k) && decideF rs s k
theorem breaks_nat (rs : List Ru) (s : ByteArray) : breaksF rs s = (bnF rs s).map fun (k : Nat) => (k : Int) := by
  unfold breaksF bnF
  split <;> rfl
theorem bnF_asc (rs : List Ru) (s : ByteArray) : (0 :: bnF rs s).Pairwise (· ≤ ·) := by
  refine List.pairwise_cons.2 ⟨fun _ _ => Nat.zero_le _, ?_⟩
  unfold bnF
  split
  · exact List.Pairwise.nil
  · exact ((List.pairwise_lt_range (n := s.size)).filter _).imp fun h => Nat.le_of_lt h
theorem bnF_le (rs : List Ru) (s : ByteArray) : ∀ b ∈ bnF rs s, b < s.size := by
  unfold bnF
  intro b hb
  split at hb
  · simp at hb
  · exact List.mem_range.1 (List.mem_filter.1 hb).1
theorem bnF_len (rs : List Ru) (s : ByteArray) : (bnF rs s).length ≤ s.size := by
  unfold bnF
  split
  · simp
  · exact Nat.le_trans (List.length_filter_le _ _) (by simp)
def rangesF (rs : List Ru) (f : List Tk) : List (Nat × Nat) := rngF (sqF f) 0 (cutsF f (bnF rs (plS f)))
theorem cuts_ok (rs : List Ru) (f : List Tk) : AscF 0 (cutsF f (bnF rs (plS f))) (lenI f) := by
  have hs := plS_size f
  have h := cuts_asc f (bnF rs (plS f)) 0 (bnF_asc _ _) (fun b hb => by
    rcases List.mem_cons.1 hb with rfl | hb
    · exact Nat.zero_le _
    · have := bnF_le _ _ b hb
      omega)
  exact h.zero (by unfold cutsF; simp)
theorem cuts_len (f : List Tk) (bn : List Nat) : (cutsF f bn).length = bn.length + 1 := by unfold cutsF; simp
theorem cuts_at (f : List Tk) (bn : List Nat) (k : Nat) (h : k < bn.length) : (cutsF f bn)[k]? = some (placeP (posI f) bn[k]) := by
  unfold cutsF
  rw [List.getElem?_append_left (by simpa using h), List.getElem?_map, List.getElem?_eq_getElem h]
  rfl
theorem cuts_end (f : List Tk) (bn : List Nat) : (cutsF f bn)[bn.length]? = some (lenI f) := by
  unfold cutsF
  rw [List.getElem?_append_right (by simp)]
  simp
theorem ranges_len (rs : List Ru) (f : List Tk) (h : lenI f ≤ 100000) : (rangesF rs f).length ≤ 1000000 := by
  have h1 := rngF_len (sqF f) (cutsF f (bnF rs (plS f))) 0
  have h2 := cuts_len f (bnF rs (plS f))
  have h3 := bnF_len rs (plS f)
  have h4 := plS_size f
  have h5 := plI_len f
  unfold rangesF
  omega
theorem placeF_nat (f : List Tk) (b : Nat) (h : b ≤ (plI f).length) : placeF f (b : Int) = (placeP (posI f) b : Nat) := by
  unfold placeF
  rw [if_neg (by omega), Int.toNat_natCast]
/-- What a segment of a cut says of the two loops. -/
theorem sgF_yes (R : List (Bool × Bool)) (p q : Nat) (hR : ∀ c ∈ R, c.1 = true → c.2 = false) (hq : q ≤ R.length) (ha : ((R.take q).drop p).any (·.1) = true) : sgF R p q = [(frI R p, bkI R q)] ∧ p ≤ frI R p ∧ frI R p < bkI R q ∧ bkI R q ≤ q ∧ (∃ h : frI R p < R.length, R[frI R p].2 = false) ∧ (∃ h : bkI R q - 1 < R.length, R[bkI R q - 1].2 = false) := by
  obtain ⟨j, hj, h1, h2, h3, h4⟩ := any_pos R p q hR ha
  have e1 := frI_ge R p
  have e2 := frI_le R p j h1 hj h4
  have e3 := bkI_gt R q j h2 hq h4
  have e4 := bkI_le R q
  refine ⟨by unfold sgF; rw [if_pos ha], e1, by omega, e4, ?_, ?_⟩
  · obtain ⟨k, hk, hkl, hks⟩ := frI_at R p j h1 hj h4
    rw [hk]
    exact ⟨hkl, hks⟩
  · obtain ⟨k, hk, hkl, hks⟩ := bkI_at R q j h2 hq h4
    rw [hk]
    exact ⟨hkl, hks⟩
theorem sgF_no (R : List (Bool × Bool)) (p q : Nat) (ha : ((R.take q).drop p).any (·.1) ≠ true) : sgF R p q = [] := by unfold sgF; rw [if_neg ha]
theorem fr_space (R : List (Bool × Bool)) (x j : Nat) (h1 : x ≤ j) (h2 : j < frI R x) : (R.map (·.2))[j]? = some true := by
  obtain ⟨h, hs⟩ := frI_none R x j h1 h2
  rw [List.getElem?_map, List.getElem?_eq_getElem h]
  simp [hs]
theorem bk_space (R : List (Bool × Bool)) (y j : Nat) (hyl : y ≤ R.length) (h1 : bkI R y ≤ j) (h2 : j < y) : (R.map (·.2))[j]? = some true := by
  have hs := bkI_none R y j hyl h1 h2
  rw [List.getElem?_map, List.getElem?_eq_getElem (by omega)]
  simp [hs]
/-- All that the walks want of a cut. -/
structure SegAt (S : List Bool) (p q x y : Nat) : Prop where
  px : p ≤ x
  xy : x < y
  yq : y ≤ q
  lead : ∀ j, p ≤ j → j < x → S[j]? = some true
  atx : S[x]? = some false
  tail : ∀ j, y ≤ j → j < q → S[j]? = some true
  aty : S[y - 1]? = some false
theorem segAt (f : List Tk) (p q : Nat) (hq : q ≤ lenI f) (ha : (plI (slI f 0 p q)).any (fun c => !spcB c) = true) : ∃ x y, sgF (sqF f) p q = [(x, y)] ∧ SegAt ((sqF f).map (·.2)) p q x y := by
  rw [plI_any, sqF_sl, Nat.sub_zero, Nat.sub_zero] at ha
  have hql : q ≤ (sqF f).length := by rw [sqF_len]; exact hq
  obtain ⟨h0, h1, h2, h3, ⟨h4, h5⟩, ⟨h6, h7⟩⟩ := sgF_yes (sqF f) p q (sqF_ex f) hql ha
  refine ⟨_, _, h0, h1, h2, h3, fun j a b => fr_space _ p j a b, ?_, fun j a b => bk_space _ q j hql a b, ?_⟩
  · rw [List.getElem?_map, List.getElem?_eq_getElem h4, Option.map_some, h5]
  · rw [List.getElem?_map, List.getElem?_eq_getElem h6, Option.map_some, h7]
theorem segNo (f : List Tk) (p q : Nat) (ha : (plI (slI f 0 p q)).any (fun c => !spcB c) ≠ true) : sgF (sqF f) p q = [] := by
  rw [plI_any, sqF_sl, Nat.sub_zero, Nat.sub_zero] at ha
  exact sgF_no _ _ _ ha
end Go.Proofs.YtpboaadjbkaidaaDoor

namespace Go.Proofs.YtpboaadjbkaidaaDoor
set_option maxRecDepth 100000
open Go.RowKit

theorem trim_any (s : ByteArray) (w : World) (hs : s.size ≤ maxLen) :
    Calls Tryd.prog 79 #[.string s] w fun e w' => ∃ x y : Nat, IsTrim s.data.toList x y ∧ e = .returned (.tuple #[.int .i64 x, .int .i64 y]) ∧ w = w' := by
  unfold maxLen at hs
  have hsz := Lib.size_eq s
  have HZ := Lib.hid hsz
  clear hsz
  go_enter Tryd.func79, Tryd.ntmps79
  go_wp2
  go_loop [2] (fun i => ∃ k : Nat, k ≤ s.size ∧ i = .int .i64 k ∧ Hid (∀ (j : Nat) (c : UInt8), j < k → s.data.toList[j]? = some c → clsN c.toNat = 2)) (fun i => s.size - (intOf i).toNat)
  case atStart => exact ⟨0, by omega, rfl, fun j c h => by omega⟩
  case round =>
    obtain ⟨k, hk, rfl, HR⟩ := hrel
    by_cases hlt : k < s.size
    · have h255 : s[k].toNat < 256 := s[k].toNat_lt
      have hgk := Lib.hid (show s.data.toList[k]? = some s[k] from List.getElem?_eq_getElem (by rw [← Lib.size_eq]; exact hlt))
      by_cases hsp : clsN (s[k].toNat : Int) = 2
      · have ht : (clsN (s[k].toNat : Int) == 2) = true := by rw [hsp]; rfl
        have HP := Lib.hid hsp
        clear hsp
        go_wp2_with (go_at_call 98; refine (of_any _ _ (by omega) (by omega)).mono ?_; rintro e w' ⟨rfl, rfl⟩)
        refine ⟨⟨k + 1, by omega, by go_num, fun j c hj hc => ?_⟩, by simp [intOf]; try omega⟩
        by_cases hjk : j = k
        · subst hjk
          rw [hgk.out] at hc
          injection hc with hc
          subst hc
          exact HP.out
        · exact HR.out j c (by omega) hc
      · have ht : (clsN (s[k].toNat : Int) == 2) = false := by simpa using hsp
        have HP := Lib.hid hsp
        clear hsp
        go_wp2_with (go_at_call 98; refine (of_any _ _ (by omega) (by omega)).mono ?_; rintro e w' ⟨rfl, rfl⟩)
        go_loop [3] (fun i => ∃ u : Nat, k ≤ u ∧ u < s.size ∧ i = .int .i64 ((u : Int) + 1) ∧ Hid (∀ (j : Nat) (c : UInt8), u + 1 ≤ j → s.data.toList[j]? = some c → clsN c.toNat = 2)) (fun i => (intOf i).toNat)
        case atStart =>
          refine ⟨s.size - 1, by omega, by omega, by go_num, fun j c hj hc => ?_⟩
          have := (List.getElem?_eq_some_iff.1 hc).1
          rw [← HZ.out] at this
          omega
        case round =>
          obtain ⟨u, hu1, hu2, rfl, HU⟩ := hrel
          have h255' : s[u].toNat < 256 := s[u].toNat_lt
          have hgu := Lib.hid (show s.data.toList[u]? = some s[u] from List.getElem?_eq_getElem (by rw [← Lib.size_eq]; exact hu2))
          by_cases hsp2 : clsN (s[u].toNat : Int) = 2
          · have hne : k ≠ u := by
              rintro rfl
              exact HP.out hsp2
            have ht2 : (clsN (s[u].toNat : Int) == 2) = true := by rw [hsp2]; rfl
            have HP2 := Lib.hid hsp2
            clear hsp2
            go_wp2_with (go_at_call 98; refine (of_any _ _ (by omega) (by omega)).mono ?_; rintro e w' ⟨rfl, rfl⟩)
            refine ⟨⟨u - 1, by omega, by omega, by go_num, fun j c hj hc => ?_⟩, by simp [intOf]; try omega⟩
            by_cases hju : j = u
            · subst hju
              rw [hgu.out] at hc
              injection hc with hc
              subst hc
              exact HP2.out
            · exact HU.out j c (by omega) hc
          · have ht2 : (clsN (s[u].toNat : Int) == 2) = false := by simpa using hsp2
            have HP2 := Lib.hid hsp2
            clear hsp2
            have hne : ((k : Int) == (u : Int) + 1) = false := by simp; omega
            go_wp2_with (go_at_call 98; refine (of_any _ _ (by omega) (by omega)).mono ?_; rintro e w' ⟨rfl, rfl⟩)
            go_ret2
            refine ⟨k, u + 1, .inr ⟨by omega, by rw [← HZ.out]; omega, fun c hc => ?_, fun c hc => ?_, fun j c hj hc => HR.out j c hj hc, fun j c hj hc => HU.out j c hj hc⟩, by go_num, rfl⟩
            · rw [hgk.out] at hc
              injection hc with hc
              subst hc
              exact HP.out
            · rw [Nat.add_sub_cancel, hgu.out] at hc
              injection hc with hc
              subst hc
              exact HP2.out
    · obtain rfl : k = s.size := by omega
      go_wp2
      go_loop [3] (fun i => i = .int .i64 (s.size : Nat)) (fun i => (intOf i).toNat)
      case atStart => rfl
      case round =>
        subst hrel
        go_wp2
        go_ret2
        refine ⟨0, 0, .inl ⟨rfl, rfl, fun j c hc => HR.out j c ?_ hc⟩, rfl, rfl⟩
        have := (List.getElem?_eq_some_iff.1 hc).1
        rw [← HZ.out] at this
        exact this

end Go.Proofs.YtpboaadjbkaidaaDoor

namespace Go.Proofs.YtpboaadjbkaidaaDoor
set_option maxRecDepth 100000
open Go.RowKit

/-- A range as cells. -/
def rangeC (r : Nat × Nat) : List Value := [.int .i64 (r.1 : Int), .int .i64 (r.2 : Int)]
theorem rangeC_two (r : Nat × Nat) : (rangeC r).length = 2 := rfl
theorem range_info : (Tryd.prog.info? 78).map (fun i => (i.zero, i.size, i.bytes)) = some (some (.agg #[.int .i64 0, .int .i64 0]), 2, 16) := by kernel_rfl
theorem range_one (r : Nat × Nat) : ∀ u ∈ rangeC r, u.oneCell' = true := by
  intro u hu
  simp [rangeC] at hu
  rcases hu with rfl | rfl <;> rfl

/-- A row of ranges of the call's own. -/
abbrev Ranges (w : World) (B : Nat) (v : Value) (l : List (Nat × Nat)) : Prop := w.ownsRow B 78 2 v l.length (l.flatMap rangeC)
theorem Ranges.nil (w : World) (B : Nat) : Ranges w B (.slice none 0 0) [] := World.ownsRow_nil _ _ _ _

theorem Ranges.snoc {w : World} {B : Nat} {v : Value} {l : List (Nat × Nat)} {x : Nat × Nat} (h : w.ownsRow B 78 2 v (l.length + 1) (l.flatMap rangeC ++ rangeC x)) : Ranges w B v (l ++ [x]) := by
  unfold Ranges
  rw [List.length_append, List.flatMap_append]
  simpa using h

end Go.Proofs.YtpboaadjbkaidaaDoor

namespace Go.Proofs.YtpboaadjbkaidaaDoor
set_option maxRecDepth 100000
open Go.RowKit

theorem box2 {w : World} {b : Nat} {v0 v1 : Value} {t : TypeId} (h : w.heap[b]? = some (.cells #[v0, v1] t)) :
    w.cell? ⟨b, 0, none⟩ = some v0 ∧ w.cell? ⟨b, 1, none⟩ = some v1 ∧ w.frozen? ⟨b, 0, none⟩ = false ∧ w.frozen? ⟨b, 1, none⟩ = false :=
  ⟨by rw [cell_of_row _ _ 0 _ _ _ h]; rfl, by rw [cell_of_row _ _ 1 _ _ _ h]; rfl, frozen_of_row w b 0 _ _ h, frozen_of_row w b 1 _ _ h⟩
/-- A row of ints, or of Bools, at a place. -/
theorem rd_one {α : Type} {g : α → List Value} {w : World} {A : Option Addr} {n c : Nat} {l : List α} (h : RdE g 1 w (.slice A n c) l) (k : Nat) (x : α) (u : Value) (hx : l[k]? = some x) (hu : (g x)[0]? = some u) : ∃ b o, A = some ⟨b, o, none⟩ ∧ b < w.heap.size ∧ w.cell? ⟨b, o + k, none⟩ = some u := by
  obtain ⟨b, o, hA, hb, hc⟩ := h.cells (by have := (List.getElem?_eq_some_iff.1 hx).1; omega)
  refine ⟨b, o, hA, hb, ?_⟩
  have := hc k x 0 u hx hu
  rwa [show o + (k * 1 + 0) = o + k by omega] at this

set_option maxRecDepth 100000 in
set_option maxHeartbeats 16000000 in
theorem ranges_any (rs : List Ru) (vr : Value) (f : List Tk) (v : Value) (w : World) (hr : RdRu w vr rs) (hsm : RuSmall rs) (h1 : RdT w v f) (hl : lenI f ≤ 1000000) (hfl : f.length ≤ 100000) :
    Calls Tryd.prog 43 #[vr, v] w (RetOwn 78 rangeC 2 w (rangesF rs f)) := by
  obtain ⟨R, HRR⟩ : ∃ R, Hid (R = RetOwn 78 rangeC 2 w (rangesF rs f)) := ⟨_, rfl⟩
  rw [← HRR.out]
  obtain ⟨A, c, rfl, _, _⟩ := h1.shape
  have HPL := Lib.hid (iplain_any f _ w h1 (by omega) (by omega))
  have hps := plS_size f
  have hpl := plI_len f
  have HBR := Lib.hid (fun (u : World) (h : Below w.heap.size w u) => breaks_any rs vr (plS f) u (hr.below h (Nat.le_refl _)) hsm.1 hsm.2)
  have HRD := Lib.hid (fun (u : World) (h : Below w.heap.size w u) => RdE.below h1 h (Nat.le_refl _))
  have HCO := Lib.hid (cuts_ok rs f)
  have hbl := bnF_len rs (plS f)
  have HBL := Lib.hid (bnF_le rs (plS f))
  have HGO : Hid (rangesF rs f = rngF (sqF f) 0 (cutsF f (bnF rs (plS f)))) := rfl
  rw [breaks_nat] at HBR
  generalize bnF rs (plS f) = bn at HBR HCO hbl HBL HGO
  generalize plS f = s at HPL HBR hps hbl HBL
  have hcl := cuts_len f bn
  have HCA := Lib.hid (fun k (h : k < bn.length) => cuts_at f bn k h)
  have HCE := Lib.hid (cuts_end f bn)
  generalize cutsF f bn = cs at HCO HGO hcl HCA HCE
  obtain ⟨lv, hlv⟩ : ∃ lv, Hid (lv = lenI f) := ⟨_, rfl⟩
  have hbn : bn.length ≤ 1000000 := by omega
  clear h1 hr
  go_enter Tryd.func43, Tryd.ntmps43
  go_wp2_with (first
    | (go_at_call 72; refine HPL.out.mono ?_; rintro e w1 ⟨rfl, hb1⟩; have HB1 := Lib.hid hb1)
    | (go_at_call 16; refine (HBR.out _ HB1.out).mono ?_; rintro e w2 ⟨v2, rfl, ho2, hb2⟩; have HB2 := Lib.hid (HB1.out.trans (hb2.mono HB1.out.size)); obtain ⟨Ab, cb, hvb⟩ := own_shape ho2; rw [List.length_map] at hvb; subst hvb))
  have HRB := Lib.hid (OwnE.rd (f := intC) (m := 1) (fun _ => rfl) ho2)
  have hz2 := HB2.out.size
  have HPA := Lib.hid (fun (o : Int) (u : World) (h : Below w2.heap.size w2 u) => place5_any f _ o u (HRD.out u (HB2.out.trans (h.mono hz2))) hl (by omega))
  have HLN := Lib.hid (fun (u : World) (h : Below w2.heap.size w2 u) => ilength_any f _ u (HRD.out u (HB2.out.trans (h.mono hz2))) (by omega) (by omega))
  clear ho2 hb2 hb1 HB1 HPL HBR
  obtain ⟨wo, HWO⟩ : ∃ wo, Hid (wo = w2) := ⟨w2, rfl⟩
  go_loopg [5, 7, 23] bn.length (fun gk ov bv jv wr => ∃ (k : Nat) (q : List Int) (Ac : Option Addr) (cc : Nat), ov = .slice Ac q.length cc ∧ jv = .int .i64 k ∧ k ≤ bn.length ∧ Hid (q = (cs.map fun (x : Nat) => (x : Int)).take k) ∧ q.length ≤ k ∧ Hid (OwnE 3 intC 1 wr w2.heap.size (.slice Ac q.length cc) q) ∧ Hid (Below w2.heap.size w2 wr) ∧ bn.length - k ≤ gk)
  case atStart => exact ⟨0, [], none, 0, rfl, rfl, Nat.zero_le _, by (show _ = _); rw [List.take_zero], by simp, OwnE.nil, Below.refl _ _, by omega⟩
  case round =>
    clear HWO
    obtain ⟨k, q, Ac, cc, rfl, rfl, hk, HQ, hqk, HO, HB, hgk⟩ := hrel
    have hsz := HB.out.size
    by_cases hkl : k < bn.length
    · have hki : (k : Int) < (bn.length : Int) := by omega
      have hk0 : (0 : Int) ≤ (k : Int) := by omega
      have hcsl : k < cs.length := by omega
      have hget : (bn.map fun (x : Nat) => (x : Int))[k]? = some (bn[k] : Int) := by rw [List.getElem?_map, List.getElem?_eq_getElem hkl]; rfl
      obtain ⟨b, o, rfl, hb, q1⟩ := rd_one HRB.out k _ _ hget rfl
      rw [← HB.out.cell (p := ⟨b, o + k, none⟩) hb] at q1
      have hbs := HBL.out _ (List.getElem_mem hkl)
      have HPK := Lib.hid (HPA.out (bn[k] : Int) wr HB.out)
      have hca : cs[k] = placeP (posI f) bn[k] := by
        have h := HCA.out k hkl
        rw [List.getElem?_eq_getElem hcsl] at h
        exact Option.some.inj h
      rw [placeF_nat f bn[k] (by omega), ← hca] at HPK
      clear hca
      have HQ2 : Hid (q ++ [(cs[k] : Int)] = (cs.map fun (x : Nat) => (x : Int)).take (k + 1)) := by
        show _ = _
        rw [List.take_succ_eq_append_getElem (by rw [List.length_map]; exact hcsl), ← HQ.out, List.getElem_map]
      generalize cs[k] = ck at HPK HQ2
      generalize bn[k] = bk at q1 HPK
      clear hget
      have hb2 : b < wr.heap.size := by omega
      go_wp2_with (first
        | (go_at_call 37; refine HPK.out.mono ?_; rintro e w3 ⟨rfl, hb3⟩; have HB3 := Lib.hid (HB.out.trans (hb3.mono hsz)); have HO3 := Lib.hid (own_below HO.out hb3 (Nat.le_refl _)); have hs3 := HB3.out.size; clear hb3 HB HO)
        | (at_builtin; go_must (refine wpList_app1 rfl (.tmp 27) (.tmp 31) 32 3 rfl Tryd.underlying32 _ 1 8 int_info6 rfl (by decide) w2.heap.size (.slice Ac q.length cc) q.length (q.flatMap intC) rfl (own_below HO3.out ((Below.refl _ w3).alloc (Nat.le_refl _) _) (Nat.le_refl _)) ⟨w3.heap.size, 0, none⟩ 1 (intC ck) rfl rfl (cells_new w3 (intC ck) 3) (intC_oneA ck) (by omega) (by decide) (by simp; omega) ?_); intro g9 cap w9 hown9 hbg9 hbel9 hgrow9))
      have hbn9 := hbel9 w2.heap.size w3 (Nat.le_refl _) ((Below.refl w2.heap.size w3).alloc hs3 (.cells (intC ck).toArray 3))
      have HB9 := Lib.hid (HB3.out.trans hbn9)
      have HO9 : Hid (OwnE 3 intC 1 w9 w2.heap.size (.slice (some ⟨g9, 0, none⟩) (q.length + 1) cap) (q ++ [(ck : Int)])) := OwnE.snoc hown9
      clear hown9 hbel9 hgrow9 hbn9
      go_wp2_with fail
      go_roundg (bn.length - (k + 1))
      case measure => omega
      case rel => exact ⟨k + 1, q ++ [(ck : Int)], some ⟨g9, 0, none⟩, cap, by (show Value.slice _ _ _ = Value.slice _ _ _); rw [List.length_append]; rfl, rfl, by omega, HQ2.out, by rw [List.length_append]; show q.length + 1 ≤ k + 1; omega, by (show OwnE _ _ _ _ _ _ _); rw [List.length_append]; exact HO9.out, HB9.out, by omega⟩
    · obtain rfl : k = bn.length := by omega
      have HQ2 : Hid (q ++ [(lv : Int)] = (cs.map fun (x : Nat) => (x : Int))) := by
        show _ = _
        have h := List.take_succ_eq_append_getElem (l := cs.map fun (x : Nat) => (x : Int)) (i := bn.length) (by rw [List.length_map]; omega)
        have hce : cs[bn.length]'(by omega) = lenI f := by
          have h := HCE.out
          rw [List.getElem?_eq_getElem (by omega)] at h
          exact Option.some.inj h
        rw [List.take_of_length_le (by rw [List.length_map]; omega), ← HQ.out, List.getElem_map, hce, ← hlv.out] at h
        exact h.symm
      have hq1 : q.length + 1 = cs.length := by
        have := congrArg List.length HQ2.out
        rw [List.length_append, List.length_map] at this
        exact this
      have HQ1 := Lib.hid hq1
      have HLK := Lib.hid (HLN.out wr HB.out)
      rw [← hlv.out] at HLK
      have hlv2 : lv ≤ 1000000 := by have := hlv.out; omega
      clear hq1
      go_upto_region 8 with (first
        | (go_at_call 76; refine HLK.out.mono ?_; rintro e w3 ⟨rfl, hb3⟩; have HB3 := Lib.hid (HB.out.trans (hb3.mono hsz)); have HO3 := Lib.hid (own_below HO.out hb3 (Nat.le_refl _)); have hs3 := HB3.out.size; clear hb3 HB HO)
        | (at_builtin; go_must (refine wpList_app1 rfl (.tmp 34) (.tmp 37) 32 3 rfl Tryd.underlying32 _ 1 8 int_info6 rfl (by decide) w2.heap.size (.slice Ac q.length cc) q.length (q.flatMap intC) rfl (own_below HO3.out ((Below.refl _ w3).alloc (Nat.le_refl _) _) (Nat.le_refl _)) ⟨w3.heap.size, 0, none⟩ 1 (intC lv) rfl rfl (cells_new w3 (intC lv) 3) (intC_oneA lv) (by omega) (by decide) (by simp; omega) ?_); intro g9 cap w9 hown9 hbg9 hbel9 hgrow9))
      have hbn9 := hbel9 w2.heap.size w3 (Nat.le_refl _) ((Below.refl w2.heap.size w3).alloc hs3 (.cells (intC lv).toArray 3))
      have HB9 := Lib.hid (HB3.out.trans hbn9)
      have HO9 : Hid (OwnE 3 intC 1 w9 w2.heap.size (.slice (some ⟨g9, 0, none⟩) (q.length + 1) cap) (q ++ [(lv : Int)])) := OwnE.snoc hown9
      rw [HQ2.out, HQ1.out] at HO9
      rw [HQ1.out]
      have HRC := Lib.hid (OwnE.rd (f := intC) (m := 1) (fun _ => rfl) HO9.out)
      have HBW := Lib.hid (HB2.out.trans (HB9.out.mono hz2))
      clear hown9 hbel9 hgrow9 hbn9 HO9 HB9 HB3 HO3 hs3 HQ HQ2 HQ1 HRB HPA HLN hqk hgk hsz HBL HCA HCE hps hpl hbg9 hz2 HB2
      have HRC2 := HRC
      have HPLC := Lib.hid (fun (u : World) (h : Below w9.heap.size w9 u) => blanks_any f _ u (HRD.out u (HBW.out.trans (h.mono HBW.out.size))) (by omega) (by omega))
      go_wp2_with (go_at_call 77; refine (HPLC.out _ (Below.refl _ _)).mono ?_; rintro e w10 ⟨v10, rfl, ho10, hb10⟩)
      have hspl := spF_len f
      have HSP : Hid (spF f = (sqF f).map (·.2)) := rfl
      have HRS := Lib.hid (OwnE.rd boolC_len ho10)
      obtain ⟨As, cs10, hv10⟩ := own_shape ho10
      subst hv10
      have HBX := Lib.hid (HBW.out.trans (hb10.mono HBW.out.size))
      have HRCX := Lib.hid (HRC.out.below hb10 (Nat.le_refl _))
      have HSL := Lib.hid (fun (p q : Nat) (u : World) (h : Below w10.heap.size w10 u) (hpq : p ≤ q) (hq : q ≤ lenI f) => islice_any f _ p q u (HRD.out u (HBX.out.trans (h.mono HBX.out.size))) (by omega) (by omega) hpq hq)
      have HLS := Lib.hid (fun p q => slI_len f 0 p q)
      have HLW : Hid (∀ p q, lenI (slI f 0 p q) ≤ lenI f) := fun p q => by
        have h1 := posI_len (slI f 0 p q)
        rw [posI_sl, List.length_drop, List.length_take] at h1
        have h2 := posI_len f
        omega
      have HSA : Hid (∀ p t, t ≤ lenI f → (plI (slI f 0 p t)).any (fun c => !spcB c) = true → ∃ x y, sgF (sqF f) p t = [(x, y)] ∧ SegAt (spF f) p t x y) := fun p t ht ha => segAt f p t ht ha
      clear ho10 hb10 HPLC HRC HBW HRD
      clear HSP
      generalize spF f = S at HRS hspl HSA
      generalize lenI f = n at hl hspl HCO HSL HLW hlv HSA
      have HSPL := Lib.hid hspl
      clear hspl
      have hz10 := HBX.out.size
      obtain ⟨wo, HWO⟩ : ∃ wo, Hid (wo = w10) := ⟨w10, rfl⟩
      go_loopg [9, 10, 12, 13, 14, 15, 16, 17, 43] cs.length (fun gk ov fv tv pv sv lv hv rv jv wr => ∃ (k p : Nat) (q : List (Nat × Nat)) (Ac : Option Addr) (cc : Nat), ov = .slice Ac q.length cc ∧ fv = .int .i64 p ∧ jv = .int .i64 k ∧ k ≤ cs.length ∧ Hid (p = (0 :: cs).getD k 0) ∧ Hid (q = rngF (sqF f) 0 (cs.take k)) ∧ q.length ≤ k ∧ Hid (OwnE 78 rangeC 2 wr w10.heap.size (.slice Ac q.length cc) q) ∧ Hid (Below w10.heap.size w10 wr) ∧ cs.length - k ≤ gk)
      case atStart => exact ⟨0, 0, [], none, 0, rfl, rfl, rfl, Nat.zero_le _, rfl, by (show _ = _); rw [List.take_zero]; rfl, by simp, OwnE.nil, Below.refl _ _, by omega⟩
      case round =>
        clear HWO
        obtain ⟨k, p, q, Ac, cc, rfl, rfl, rfl, hk, HP, HQ, hqk, HO, HB, hgk⟩ := hrel
        have hsz := HB.out.size
        by_cases hkl : k < cs.length
        · have hki : (k : Int) < (cs.length : Int) := by omega
          have hk0 : (0 : Int) ≤ (k : Int) := by omega
          obtain ⟨hpt, htn⟩ := AscF.at_ k hkl HCO.out
          rw [← HP.out] at hpt
          have HTK := Lib.hid (rngF_take (sqF f) cs 0 k hkl)
          rw [← HP.out, ← HQ.out] at HTK
          have HGT : Hid ((0 :: cs).getD (k + 1) 0 = cs[k]) := by
            show _ = _
            rw [List.getD_cons_succ, List.getD_eq_getElem?_getD, List.getElem?_eq_getElem hkl]
            rfl
          obtain ⟨b, o, hA, hb, q1⟩ := rd_one HRCX.out k _ _ (show (cs.map fun (x : Nat) => (x : Int))[k]? = some (cs[k] : Int) by rw [List.getElem?_map, List.getElem?_eq_getElem hkl]; rfl) rfl
          injection hA with hA
          injection hA with hA1 hA2 _
          subst hA1 hA2
          rw [← HB.out.cell (p := ⟨g9, 0 + k, none⟩) hb, Nat.zero_add] at q1
          have hb2 : g9 < wr.heap.size := by omega
          generalize cs[k] = t at hpt htn HTK HGT q1
          have ht2 : t ≤ 1000000 := by omega
          have HSK := Lib.hid (HSL.out p t wr HB.out hpt (by omega))
          have hgl := HLS.out p t
          have hgw := HLW.out p t
          have HST := Lib.hid (HSA.out p t (by omega))
          have HNO := Lib.hid (segNo f p t)
          generalize slI f 0 p t = g at HSK hgl hgw HST HNO
          have HPG := Lib.hid (fun (v : Value) (u : World) (h : RdT u v g) => iplain_any g v u h (by omega) (by omega))
          have hgs := plS_size g
          have hgp := plI_len g
          have HGL : Hid ((plS g).data.toList = plI g) := by show (plI g).toArray.toList = _; simp
          have HTR := Lib.hid (fun (u : World) => trim_any (plS g) u (by unfold maxLen; omega))
          rw [HGL.out] at HTR
          generalize plI g = gl at HTR HST HNO
          generalize plS g = gs at HPG HTR
          clear hgs hgp HGL
          by_cases ha : gl.any (fun c => !spcB c) = true
          · obtain ⟨x, y, hsg, hat⟩ := HST.out ha
            rw [hsg] at HTK
            have HAT := Lib.hid hat
            have hpx := hat.px
            have hxy := hat.xy
            have hyt := hat.yq
            clear hsg hat HST HNO
            go_upto_region 17 with (first
              | (go_at_call 78; refine HSK.out.mono ?_; rintro e w3 ⟨v3, rfl, ho3, hb3⟩; obtain ⟨A3, c3, hv3⟩ := own_shape ho3; subst hv3; have HB3 := Lib.hid (HB.out.trans (hb3.mono hsz)); have HR3 := Lib.hid (OwnE.rd tkC_three ho3); have HO3 := Lib.hid (own_below HO.out hb3 (Nat.le_refl _)))
              | (go_at_call 72; refine (HPG.out _ _ HR3.out).mono ?_; rintro e w4 ⟨rfl, hb4⟩; have HB4 := Lib.hid (HB3.out.trans (hb4.mono HB3.out.size)); have HO4 := Lib.hid (own_below HO3.out hb4 (Nat.le_refl _)))
              | (go_at_call 79; refine (HTR.out _).mono ?_; rintro e w5 ⟨x9, y9, hT, rfl, rfl⟩; have hx9 := (trim_any_iff hT).2 ha; have hx9i : (x9 : Int) < (y9 : Int) := by omega))
            have HX : Hid ((w4.alloc (.cells #[.int .i64 (p : Int), .int .i64 (t : Int)] 78)).heap[w4.heap.size]? = some (.cells #[.int .i64 (p : Int), .int .i64 (t : Int)] 78)) := heap_alloc_new w4 _
            have HA := Lib.hid ((Below.refl w4.heap.size w4).alloc (Nat.le_refl _) (.cells #[.int .i64 (p : Int), .int .i64 (t : Int)] 78))
            have hz4 := HB4.out.size
            clear hb3 ho3 hb4 HR3 HB3 HO3 HO HB HSK HPG HTR hT hx9 q1 hb hb2
            go_wp2_with fail
            generalize w4.alloc (.cells #[.int .i64 (p : Int), .int .i64 (t : Int)] 78) = w5 at HX HA ⊢
            obtain ⟨r, hr⟩ : ∃ r, Hid (r = w4.heap.size) := ⟨_, rfl⟩
            rw [← hr.out] at HX ⊢
            have hr4 : w4.heap.size ≤ r := Nat.le_of_eq hr.out.symm
            obtain ⟨wo, HWO⟩ : ∃ wo, Hid (wo = w5) := ⟨w5, rfl⟩
            go_loopg [68] (x - p) (fun gk tv wr => ∃ j : Nat, p ≤ j ∧ j ≤ x ∧ Hid (wr.heap[r]? = some (.cells #[.int .i64 (j : Int), .int .i64 (t : Int)] 78)) ∧ Hid (Below w4.heap.size w4 wr) ∧ x - j ≤ gk)
            case atStart => exact ⟨p, Nat.le_refl _, hpx, HX.out, HA.out, by omega⟩
            case round =>
              clear HX HA HWO
              obtain ⟨j, hpj, hjx, HX, HA, hgj⟩ := hrel
              obtain ⟨x0, x1, y0, y1⟩ := box2 HX.out
              have hrl : r < wr.heap.size := (Array.getElem?_eq_some_iff.1 HX.out).1
              have HBJ := HB4.out.trans (HA.out.mono hz4)
              have hj0 : (0 : Int) ≤ (j : Int) := by omega
              by_cases hj : j < x
              · have hS := HAT.out.lead j hpj hj
                have hjl : (j : Int) < (S.length : Int) := by have := (List.getElem?_eq_some_iff.1 hS).1; omega
                obtain ⟨bs, os, hAs, hbs, q3⟩ := rd_one HRS.out j true _ hS rfl
                subst hAs
                rw [← HBJ.cell (p := ⟨bs, os + j, none⟩) hbs] at q3
                clear hS HBJ hbs
                go_wp2_with fail
                have HX2 : Hid ((wr.setCell ⟨r, 0, none⟩ (.int .i64 ((j : Int) + 1))).heap[r]? = some (.cells #[.int .i64 ((j + 1 : Nat) : Int), .int .i64 (t : Int)] 78)) := set_rw1 HX.out 0 _
                have HA2 := Lib.hid (HA.out.setCell (p := ⟨r, 0, none⟩) hr4 (.int .i64 ((j : Int) + 1)))
                go_roundg (x - (j + 1))
                case measure => omega
                case rel => exact ⟨j + 1, by omega, by omega, HX2.out, HA2.out, by omega⟩
              · obtain rfl : j = x := by omega
                have hS := HAT.out.atx
                have hjl : (j : Int) < (S.length : Int) := by have := (List.getElem?_eq_some_iff.1 hS).1; omega
                obtain ⟨bs, os, hAs, hbs, q3⟩ := rd_one HRS.out j false _ hS rfl
                subst hAs
                rw [← HBJ.cell (p := ⟨bs, os + j, none⟩) hbs] at q3
                clear hS HBJ hbs
                go_wp2_with fail
                clear q3 x0 x1 y0 y1 hrl
                obtain ⟨wo, HWO⟩ : ∃ wo, Hid (wo = wr) := ⟨wr, rfl⟩
                go_loopg [77] (t - y) (fun gk tv wr => ∃ m : Nat, y ≤ m + 1 ∧ m + 1 ≤ t ∧ Hid (wr.heap[r]? = some (.cells #[.int .i64 (j : Int), .int .i64 ((m : Int) + 1)] 78)) ∧ Hid (Below w4.heap.size w4 wr) ∧ m + 1 - y ≤ gk)
                case atStart => exact ⟨t - 1, by omega, by omega, by (show _ = _); rw [show ((t - 1 : Nat) : Int) + 1 = (t : Int) by omega]; exact HX.out, HA.out, by omega⟩
                case round =>
                  clear HX HA HWO
                  obtain ⟨m, hym, hmt, HX, HA, hgm⟩ := hrel
                  obtain ⟨x0, x1, y0, y1⟩ := box2 HX.out
                  have hrl : r < wr.heap.size := (Array.getElem?_eq_some_iff.1 HX.out).1
                  have HBJ := HB4.out.trans (HA.out.mono hz4)
                  have hm0 : (0 : Int) ≤ (m : Int) := by omega
                  by_cases hm : y ≤ m
                  · have hS := HAT.out.tail m hm (by omega)
                    have hml : (m : Int) < (S.length : Int) := by have := (List.getElem?_eq_some_iff.1 hS).1; omega
                    obtain ⟨bs, os, hAs, hbs, q3⟩ := rd_one HRS.out m true _ hS rfl
                    try (injection hAs with hAs; injection hAs with h1 h2 _; subst h1 h2)
                    rw [← HBJ.cell (p := ⟨_, _ + m, none⟩) hbs] at q3
                    clear hS HBJ hbs
                    go_wp2_with fail
                    have HX2 : Hid ((wr.setCell ⟨r, 1, none⟩ (.int .i64 (m : Int))).heap[r]? = some (.cells #[.int .i64 (j : Int), .int .i64 (((m - 1 : Nat) : Int) + 1)] 78)) := by
                      show _ = _
                      rw [show ((m - 1 : Nat) : Int) + 1 = (m : Int) by omega]
                      exact set_rw1 HX.out 1 _
                    have HA2 := Lib.hid (HA.out.setCell (p := ⟨r, 1, none⟩) hr4 (.int .i64 (m : Int)))
                    go_roundg (m - y)
                    case measure => omega
                    case rel => exact ⟨m - 1, by omega, by omega, HX2.out, HA2.out, by omega⟩
                  · obtain rfl : y = m + 1 := by omega
                    have hS := HAT.out.aty
                    rw [Nat.add_sub_cancel] at hS
                    have hml : (m : Int) < (S.length : Int) := by have := (List.getElem?_eq_some_iff.1 hS).1; omega
                    obtain ⟨bs, os, hAs, hbs, q3⟩ := rd_one HRS.out m false _ hS rfl
                    try (injection hAs with hAs; injection hAs with h1 h2 _; subst h1 h2)
                    rw [← HBJ.cell (p := ⟨_, _ + m, none⟩) hbs] at q3
                    have HOJ := Lib.hid (World.ownsRow.alloc (own_below HO4.out HA.out (Nat.le_refl _)) (.cells (rangeC (j, m + 1)).toArray 78))
                    have HBJ2 := Lib.hid HBJ
                    have hzj := HBJ.size
                    clear hS HBJ hbs
                    go_wp2_with (at_builtin; go_must (refine wpList_app1 rfl (.tmp 85) (.tmp 87) 73 78 rfl Tryd.underlying73 _ 2 16 range_info rfl (by decide) w10.heap.size (.slice Ac q.length cc) q.length (q.flatMap rangeC) rfl (by exact HOJ.out) ⟨wr.heap.size, 0, none⟩ 1 (rangeC (j, m + 1)) rfl rfl (by exact cells_new _ _ _) (range_one _) (by omega) (by decide) (by simp; omega) ?_); intro g8 cap8 w8 hown8 hbg8 hbel8 hgr8)
                    have HO8 : Hid (OwnE 78 rangeC 2 w8 w10.heap.size (.slice (some ⟨g8, 0, none⟩) (q.length + 1) cap8) (rngF (sqF f) 0 (cs.take (k + 1)))) := by
                      show OwnE _ _ _ _ _ _ _
                      rw [HTK.out]
                      exact OwnE.snoc (f := rangeC) hown8
                    have HB8 := Lib.hid (hbel8 _ _ (Nat.le_refl _) (HBJ2.out.alloc hzj (.cells (rangeC (j, m + 1)).toArray 78)))
                    have HL8 : Hid ((rngF (sqF f) 0 (cs.take (k + 1))).length = q.length + 1) := by
                      show _ = _
                      rw [HTK.out, List.length_append]
                      rfl
                    clear hown8 hbel8 hgr8 q3 x0 x1 y0 y1
                    go_wp2_with fail
                    go_roundg (cs.length - (k + 1))
                    case measure => omega
                    case rel => exact ⟨k + 1, t, _, some ⟨g8, 0, none⟩, cap8, by rw [HL8.out], rfl, rfl, by omega, HGT.out.symm, rfl, by rw [HL8.out]; omega, by (show OwnE _ _ _ _ _ _ _); rw [HL8.out]; exact HO8.out, HB8.out, by omega⟩
          · have HT2 : Hid (rngF (sqF f) 0 (cs.take (k + 1)) = q) := by
              show _ = _
              rw [HTK.out, HNO.out ha, List.append_nil]
            clear HST HNO
            go_wp2_with (first
              | (go_at_call 78; refine HSK.out.mono ?_; rintro e w3 ⟨v3, rfl, ho3, hb3⟩; obtain ⟨A3, c3, hv3⟩ := own_shape ho3; subst hv3; have HB3 := Lib.hid (HB.out.trans (hb3.mono hsz)); have HR3 := Lib.hid (OwnE.rd tkC_three ho3); have HO3 := Lib.hid (own_below HO.out hb3 (Nat.le_refl _)))
              | (go_at_call 72; refine (HPG.out _ _ HR3.out).mono ?_; rintro e w4 ⟨rfl, hb4⟩; have HB4 := Lib.hid (HB3.out.trans (hb4.mono HB3.out.size)); have HO4 := Lib.hid (own_below HO3.out hb4 (Nat.le_refl _)))
              | (go_at_call 79; refine (HTR.out _).mono ?_; rintro e w5 ⟨x9, y9, hT, rfl, rfl⟩; have hx9 : ¬ x9 < y9 := fun h => ha ((trim_any_iff hT).1 h); have hx9i : ¬ (x9 : Int) < (y9 : Int) := by omega))
            go_roundg (cs.length - (k + 1))
            case measure => omega
            case rel => exact ⟨k + 1, t, q, Ac, cc, rfl, rfl, rfl, by omega, HGT.out.symm, HT2.out.symm, by omega, HO4.out, HB4.out, by omega⟩
        · obtain rfl : k = cs.length := by omega
          rw [List.take_length, ← HGO.out] at HQ
          go_wp2_with fail
          rw [HRR.out, ← HQ.out]
          exact ⟨_, rfl, own_base HO.out hz10, HBX.out.trans (HB.out.mono hz10)⟩

end Go.Proofs.YtpboaadjbkaidaaDoor

namespace Go.Proofs.YtpboaadjbkaidaaDoor
set_option maxRecDepth 100000
open Go.RowKit

theorem spc_iff (c : UInt8) : spcB c = true ↔ c.toNat = 9 ∨ c.toNat = 10 ∨ c.toNat = 13 ∨ c.toNat = 32 := by
  have h := c.toNat_lt
  unfold spcB clsN
  rw [decide_eq_true_iff]
  generalize c.toNat = n at h
  constructor
  · intro e
    by_cases h1 : (n : Int) = 9 ∨ (n : Int) = 10 ∨ (n : Int) = 13 ∨ (n : Int) = 32
    · omega
    · rw [if_neg h1] at e
      exfalso
      revert e
      split
      · decide
      · split
        · decide
        · split <;> decide
  · intro e
    rw [if_pos (by omega)]

set_option maxRecDepth 100000 in
set_option maxHeartbeats 8000000 in
theorem blank_any (s : ByteArray) (w : World) (hs : s.size ≤ 1000000000) :
    Calls Tryd.prog 47 #[.string s] w fun e w' => e = .returned (.bool (s.data.toList.all spcB)) ∧ w = w' := by
  have hsl : s.data.toList.length = s.size := by simp
  obtain ⟨V, HV⟩ : ∃ V : Bool, Hid (V = s.data.toList.all spcB) := ⟨_, rfl⟩
  rw [← HV.out]
  have HSL := Lib.hid hsl
  clear hsl
  go_enter Tryd.func47, Tryd.ntmps47
  go_wp2_with fail
  obtain ⟨wo, HWO⟩ : ∃ wo, Hid (wo = w) := ⟨w, rfl⟩
  go_loopg [3] s.size (fun gk iv wr => ∃ k : Nat, iv = .int .i64 k ∧ k ≤ s.size ∧ Hid ((s.data.toList.drop k).all spcB = V) ∧ wr = w ∧ s.size - k ≤ gk)
  case atStart => exact ⟨0, rfl, Nat.zero_le _, by (show _ = _); rw [List.drop_zero]; exact HV.out.symm, rfl, by omega⟩
  case round =>
    clear HWO
    obtain ⟨k, rfl, hk, HT, rfl, hgk⟩ := hrel
    by_cases hkl : k < s.size
    · have hki : (k : Int) < (s.size : Int) := by omega
      have hk0 : (0 : Int) ≤ (k : Int) := by omega
      have hdr : s.data.toList.drop k = s[k] :: s.data.toList.drop (k + 1) := List.drop_eq_getElem_cons (by rw [HSL.out]; exact hkl)
      rw [hdr, List.all_cons] at HT
      clear hdr
      by_cases hsp : spcB s[k] = true
      · rw [hsp, Bool.true_and] at HT
        rcases (spc_iff s[k]).1 hsp with h | h | h | h
        all_goals
          clear hsp
          go_wp2_with fail
          clear h
          go_roundg (s.size - (k + 1))
          case measure => omega
          case rel => exact ⟨k + 1, rfl, by omega, HT.out, rfl, by omega⟩
      · have hn : ¬ (s[k].toNat = 9 ∨ s[k].toNat = 10 ∨ s[k].toNat = 13 ∨ s[k].toNat = 32) := fun h => hsp ((spc_iff s[k]).2 h)
        rw [Bool.not_eq_true] at hsp
        rw [hsp, Bool.false_and] at HT
        have t1 : ((s[k].toNat : Int) != 9) = true := by rw [bne_iff_ne]; omega
        have t2 : ((s[k].toNat : Int) != 10) = true := by rw [bne_iff_ne]; omega
        have t3 : ((s[k].toNat : Int) != 13) = true := by rw [bne_iff_ne]; omega
        have t4 : ((s[k].toNat : Int) != 32) = true := by rw [bne_iff_ne]; omega
        clear hn hsp
        go_wp2_with fail
        go_ret
        exact ⟨by rw [← HT.out]; rfl, rfl⟩
    · obtain rfl : k = s.size := by omega
      rw [List.drop_eq_nil_of_le (by rw [HSL.out]; exact Nat.le_refl _), List.all_nil] at HT
      go_wp2_with fail
      go_ret
      exact ⟨by rw [← HT.out]; rfl, rfl⟩

theorem sl_head (s : ByteArray) (h : 0 < s.size) (W : World) : (Instr.sliceAt 9 (.string s) none (some (.int .i64 1)) none).run Tryd.prog W = .ok (.string (s.extract 0 1)) W := by
  have h2 : (1 : Int) ≤ (s.size : Int) := by omega
  go_simp
theorem sl_last (s : ByteArray) (d : Nat) (h : d ≤ s.size) (W : World) : (Instr.sliceAt 9 (.string s) (some (.int .i64 (d : Int))) none none).run Tryd.prog W = .ok (.string (s.extract d s.size)) W := by
  have h2 : (d : Int) ≤ (s.size : Int) := by omega
  have h3 : (0 : Int) ≤ (d : Int) := by omega
  go_simp
theorem ext_head (s : ByteArray) (h : 0 < s.size) : (s.extract 0 1).data.toList.all spcB = spcB (s.data.toList.headD 0) := by
  rw [ByteArray.data_extract, Array.toList_extract, List.extract_eq_take_drop, List.drop_zero]
  have hl : s.data.toList.length = s.size := by simp
  cases hd : s.data.toList with
  | nil => rw [hd] at hl; simp at hl; omega
  | cons c r => simp
theorem ext_last (s : ByteArray) (d : Nat) (h : s.size = d + 1) : (s.extract d s.size).data.toList.all spcB = spcB (s.data.toList.getLastD 0) := by
  rw [ByteArray.data_extract, Array.toList_extract, List.extract_eq_take_drop]
  have hl : s.data.toList.length = d + 1 := by rw [← h]; simp
  generalize s.data.toList = l at hl
  rw [List.drop_eq_getElem_cons (by omega), List.drop_eq_nil_of_le (by omega), h, show d + 1 - d = 1 by omega]
  have e : l.getLast? = some (l[d]'(by omega)) := by
    rw [List.getLast?_eq_getElem?, show l.length - 1 = d by omega]
    exact List.getElem?_eq_getElem _
  rw [List.getLastD_eq_getLast?, e]
  simp

set_option maxRecDepth 100000 in
set_option maxHeartbeats 8000000 in
theorem edge_any (xk : Int) (xt : ByteArray) (xd : Int) (b : Bool) (w : World) (hs : xk = 1 → xt.size ≤ 1000000000) :
    Calls Tryd.prog 48 #[.agg #[.int .i64 xk, .string xt, .int .i64 xd], .bool b] w fun e w' => e = .returned (.bool (edgeB ⟨xk, xt, xd⟩ b)) ∧ Below w.heap.size w w' := by
  obtain ⟨V, HV⟩ : ∃ V : Bool, Hid (V = edgeB ⟨xk, xt, xd⟩ b) := ⟨_, rfl⟩
  rw [← HV.out]
  unfold edgeB at HV
  have HB := Lib.hid ((Below.refl w.heap.size w).alloc (Nat.le_refl _) (.cells #[.int .i64 xk, .string xt, .int .i64 xd] 84))
  by_cases hk : xk = 1
  · subst hk
    have hs2 := hs rfl
    have t0 : ((1 : Int) != 1) = false := rfl
    clear hs
    by_cases hz : 0 < xt.size
    · rw [if_pos ⟨rfl, hz⟩] at HV
      have hz1 : (xt.toList == []) = false := by
        rw [beq_eq_false_iff_ne, toList_eq_data]
        intro h
        have := Lib.size_eq xt
        rw [h] at this
        simp only [List.length_nil] at this
        omega
      have hz2 : xt.toList.isEmpty = false := by
        rw [List.isEmpty_eq_false_iff]
        simpa using hz1
      cases b with
      | true =>
        rw [if_pos rfl, ← ext_head xt hz] at HV
        have hsl := fun W => sl_head xt hz W
        have hq : (xt.extract 0 1).size ≤ 1000000000 := by rw [ByteArray.size_extract]; omega
        have HBL := Lib.hid (fun u => blank_any (xt.extract 0 1) u hq)
        rw [← HV.out] at HBL
        generalize xt.extract 0 1 = y at HBL hsl
        clear hq
        have HSL := Lib.hid hsl
        clear hsl
        go_enter Tryd.func48, Tryd.ntmps48
        have hsl := HSL.out (w.alloc (.cells #[.int .i64 1, .string xt, .int .i64 xd] 84))
        go_wp2_with (go_at_call 47; refine (HBL.out _).mono ?_; rintro e w1 ⟨rfl, rfl⟩)
        go_ret
        exact ⟨rfl, HB.out⟩
      | false =>
        obtain ⟨d, hd⟩ : ∃ d, xt.size = d + 1 := ⟨xt.size - 1, by omega⟩
        rw [if_neg (by simp), ← ext_last xt d hd] at HV
        have hsl := fun W => sl_last xt d (by omega) W
        have hq : (xt.extract d xt.size).size ≤ 1000000000 := by rw [ByteArray.size_extract]; omega
        have HBL := Lib.hid (fun u => blank_any (xt.extract d xt.size) u hq)
        rw [← HV.out] at HBL
        generalize xt.extract d xt.size = y at HBL hsl
        have hdi : (xt.size : Int) - 1 = (d : Int) := by omega
        rw [← hdi] at hsl
        have HSL := Lib.hid hsl
        clear hsl hdi hd hq
        go_enter Tryd.func48, Tryd.ntmps48
        have hsl := HSL.out (w.alloc (.cells #[.int .i64 1, .string xt, .int .i64 xd] 84))
        go_wp2_with (go_at_call 47; refine (HBL.out _).mono ?_; rintro e w1 ⟨rfl, rfl⟩)
        go_ret
        exact ⟨rfl, HB.out⟩
    · rw [if_neg (fun h => hz h.2)] at HV
      have hz1 : (xt.toList == []) = true := by
        have hz : xt.data.toList = [] := List.eq_nil_of_length_eq_zero (by rw [← Lib.size_eq]; omega)
        rw [toList_eq_data, hz]; rfl
      have hz2 : xt.toList.isEmpty = true := by
        rw [List.isEmpty_iff]
        simpa using hz1
      go_enter Tryd.func48, Tryd.ntmps48
      go_wp2_with fail
      go_ret
      exact ⟨by rw [HV.out]; rfl, HB.out⟩
  · rw [if_neg (fun h => hk h.1)] at HV
    have t1 : (xk != 1) = true := by simpa using hk
    clear hs
    go_enter Tryd.func48, Tryd.ntmps48
    go_wp2_with fail
    go_ret
    exact ⟨by rw [HV.out]; rfl, HB.out⟩

end Go.Proofs.YtpboaadjbkaidaaDoor

namespace Go.Proofs.YtpboaadjbkaidaaDoor
set_option maxRecDepth 100000
open Go.RowKit

def blkL (v : Value) : List Nat := v.ownBlock.toList
theorem mem_blkL {v : Value} {b : Nat} : b ∈ blkL v ↔ v.ownBlock = some b := by unfold blkL; rw [Option.mem_toList]
theorem Keep.mono {X Y : List Nat} {w : World} {φ : World → Prop} (h : Keep Y w φ) (hXY : ∀ b ∈ X, b ∈ Y) : Keep X w φ :=
  fun u hu hk => h u hu fun b hb hY => hk b hb (fun hx => hY (hXY b hx))

/-- Tables under way; xs: the row's cells; rv: the rules of the last table; ys: their cells. -/
structure TS (eT eR : TypeId) (B : Nat) (w : World) (v : Value) (ts : List Tb) (xs : List TbV) (rv : Sl) (ys : List RuV) : Prop where
  own : OwnE eT tbC 3 w B v xs
  len : xs.length = ts.length
  ident : ∀ (i : Nat) (x : TbV) (t : Tb), xs[i]? = some x → ts[i]? = some t → x.nm = t.nm ∧ x.pa = t.pa
  front : ∀ (i : Nat) (x : TbV) (t : Tb), xs[i]? = some x → ts[i]? = some t → i + 1 < ts.length → Keep (blkL v ++ blkL rv.v) w fun u => RdRu u x.r.v t.rs
  rown : OwnE eR ruC 3 w B rv.v ys
  apart : ∀ k, v.ownBlock = some k → rv.v.ownBlock ≠ some k
  last : ∀ (i : Nat) (x : TbV) (t : Tb), xs[i]? = some x → ts[i]? = some t → i + 1 = ts.length → x.r = rv ∧ ys.length = t.rs.length ∧
    ∀ (j : Nat) (y : RuV) (r : Ru), ys[j]? = some y → t.rs[j]? = some r → y.b = r.br ∧ Keep (blkL v ++ blkL rv.v) w fun u => RdE atC 34 u y.u.v r.bf ∧ RdE atC 34 u y.t.v r.af

section
variable {eT eR : TypeId} {B : Nat} {w w' : World} {v : Value} {ts : List Tb} {xs : List TbV} {rv : Sl} {ys : List RuV}
theorem TS.start : TS eT eR B w (.slice none 0 0) [] [] ⟨none, 0, 0⟩ [] where
  own := OwnE.nil
  len := rfl
  ident := fun _ _ _ h => by simp at h
  front := fun _ _ _ h => by simp at h
  rown := OwnE.nil
  apart := fun k h => by simp [Value.ownBlock] at h
  last := fun _ _ _ h => by simp at h
/-- The rules of the last table. -/
theorem TS.lastRu (h : TS eT eR B w v ts xs rv ys) (i : Nat) (x : TbV) (t : Tb) (hx : xs[i]? = some x) (ht : ts[i]? = some t) (hi : i + 1 = ts.length) {X : List Nat} (hX : ∀ b ∈ X, b ∈ blkL v) : Keep X w fun u => RdRu u x.r.v t.rs := by
  obtain ⟨e, hl, hy⟩ := h.last i x t hx ht hi
  subst e
  have h1 := OwnE.keepX (X := X) ruC_len h.rown (fun b hb => .inr (h.apart b (mem_blkL.1 (hX b hb))))
  intro u hu hk
  refine ⟨ys, h1 u hu hk, hl, fun j y r hyj hrj => ?_⟩
  have h2 := hy j y r hyj hrj
  exact ⟨h2.1, (h2.2.mono (fun b hb => List.mem_append_left _ (hX b hb))) u hu hk⟩
theorem TS.rd (h : TS eT eR B w v ts xs rv ys) : RdTb w v ts := by
  refine ⟨xs, h.own.rd tbC_len, h.len, fun i x t hx ht => ⟨(h.ident i x t hx ht).1, (h.ident i x t hx ht).2, ?_⟩⟩
  have hi : i < ts.length := (List.getElem?_eq_some_iff.1 ht).1
  by_cases hl : i + 1 < ts.length
  · exact (h.front i x t hx ht hl).now
  · exact (h.lastRu i x t hx ht (by omega) (X := []) (by simp)).now
/-- The world turns, but for the rows' blocks. -/
theorem TS.keep (h : TS eT eR B w v ts xs rv ys) (hs : w.heap.size ≤ w'.heap.size) (hk : ∀ b, b < w.heap.size → w'.heap[b]? = w.heap[b]?) : TS eT eR B w' v ts xs rv ys where
  own := own_same h.own fun k hk2 => hk k (h.own.lt k hk2).2
  len := h.len
  ident := h.ident
  front := fun i x t hx ht hl => (h.front i x t hx ht hl).step hs fun b hb hX => ⟨hk b hb, hX⟩
  rown := own_same h.rown fun k hk2 => hk k (h.rown.lt k hk2).2
  apart := h.apart
  last := fun i x t hx ht hl => ⟨(h.last i x t hx ht hl).1, (h.last i x t hx ht hl).2.1, fun j y r hy hr => ⟨((h.last i x t hx ht hl).2.2 j y r hy hr).1, ((h.last i x t hx ht hl).2.2 j y r hy hr).2.step hs fun b hb hX => ⟨hk b hb, hX⟩⟩⟩
theorem TS.below (h : TS eT eR B w v ts xs rv ys) {C : Nat} (hb : Below C w w') (hC : w.heap.size ≤ C) : TS eT eR B w' v ts xs rv ys :=
  h.keep hb.size fun b hlt => hb.block b (Nat.lt_of_lt_of_le hlt hC)
/-- A table more. -/
theorem TS.push (h : TS eT eR B w v ts xs rv ys) {v' : Value} (nm pa : ByteArray) (hown : OwnE eT tbC 3 w' B v' (xs ++ [⟨nm, pa, ⟨none, 0, 0⟩⟩])) (hg : w.grownBy w' v.ownBlock) (hat : v'.ownBlock = v.ownBlock ∨ v'.ownBlock = some w.heap.size) :
    TS eT eR B w' v' (ts ++ [⟨nm, pa, []⟩]) (xs ++ [⟨nm, pa, ⟨none, 0, 0⟩⟩]) ⟨none, 0, 0⟩ [] := by
  have hnew : ∀ b, b < w.heap.size → b ∉ blkL v → w'.heap[b]? = w.heap[b]? ∧ b ∉ blkL v' ++ blkL (Sl.v ⟨none, 0, 0⟩) := fun b hb hX => by
    refine ⟨hg.block b hb (fun e => hX (mem_blkL.2 e.symm)), fun hm => ?_⟩
    rcases List.mem_append.1 hm with hm | hm
    · have := mem_blkL.1 hm
      rcases hat with e | e
      · exact hX (mem_blkL.2 (e ▸ this))
      · rw [e] at this; injection this with this; omega
    · have := mem_blkL.1 hm
      simp [Sl.v, Value.ownBlock] at this
  have hl : ∀ (i : Nat) (x : TbV) (t : Tb), (xs ++ [⟨nm, pa, ⟨none, 0, 0⟩⟩])[i]? = some x → (ts ++ [⟨nm, pa, []⟩])[i]? = some t → (i < ts.length ∧ xs[i]? = some x ∧ ts[i]? = some t) ∨ (i = ts.length ∧ x = ⟨nm, pa, ⟨none, 0, 0⟩⟩ ∧ t = ⟨nm, pa, []⟩) := fun i x t hx ht => by
    have hi : i < ts.length + 1 := by have := (List.getElem?_eq_some_iff.1 ht).1; simpa using this
    by_cases h1 : i < ts.length
    · refine .inl ⟨h1, ?_, ?_⟩
      · rw [List.getElem?_append_left (by rw [h.len]; exact h1)] at hx; exact hx
      · rw [List.getElem?_append_left h1] at ht; exact ht
    · have h2 : i = ts.length := by omega
      subst h2
      refine .inr ⟨rfl, ?_, ?_⟩
      · rw [List.getElem?_append_right (by rw [h.len]; exact Nat.le_refl _), h.len, Nat.sub_self] at hx
        simpa using hx.symm
      · rw [List.getElem?_append_right (Nat.le_refl _), Nat.sub_self] at ht
        simpa using ht.symm
  refine ⟨hown, by simp [h.len], fun i x t hx ht => ?_, fun i x t hx ht hi => ?_, OwnE.nil, fun k _ => by simp [Sl.v, Value.ownBlock], fun i x t hx ht hi => ?_⟩
  · rcases hl i x t hx ht with ⟨_, h2, h3⟩ | ⟨_, rfl, rfl⟩
    · exact h.ident i x t h2 h3
    · exact ⟨rfl, rfl⟩
  · rcases hl i x t hx ht with ⟨h1, h2, h3⟩ | ⟨h1, _, _⟩
    · have hk : Keep (blkL v) w fun u => RdRu u x.r.v t.rs := by
        by_cases h4 : i + 1 < ts.length
        · exact (h.front i x t h2 h3 h4).mono fun b hb => List.mem_append_left _ hb
        · exact h.lastRu i x t h2 h3 (by omega) fun b hb => hb
      exact hk.step hg.size hnew
    · simp at hi; omega
  · rcases hl i x t hx ht with ⟨h1, _, _⟩ | ⟨_, rfl, rfl⟩
    · simp at hi; omega
    · exact ⟨rfl, rfl, fun j y r hy => by simp at hy⟩
theorem addLast_get (r : Ru) : ∀ (ts : List Tb) (n : Nat), ts.length = n + 1 → ∀ (i : Nat) (t : Tb), (addLast ts r)[i]? = some t → (i < n ∧ ts[i]? = some t) ∨ (i = n ∧ ∃ t0, ts[n]? = some t0 ∧ t = ⟨t0.nm, t0.pa, t0.rs ++ [r]⟩)
  | [], n, h, i, t, ht => by simp at h
  | [a], n, h, i, t, ht => by
    obtain rfl : n = 0 := by simpa using h.symm
    cases i with
    | zero => exact .inr ⟨rfl, a, rfl, by simpa [addLast] using ht.symm⟩
    | succ i => simp [addLast] at ht
  | a :: b :: ts, n, h, i, t, ht => by
    obtain ⟨m, rfl⟩ : ∃ m, n = m + 1 := ⟨n - 1, by simp at h; omega⟩
    cases i with
    | zero => exact .inl ⟨by omega, by simpa [addLast] using ht⟩
    | succ i =>
      rcases addLast_get r (b :: ts) m (by simp at h ⊢; omega) i t (by simpa [addLast] using ht) with ⟨h1, h2⟩ | ⟨h1, t0, h2, h3⟩
      · exact .inl ⟨by omega, h2⟩
      · exact .inr ⟨by omega, t0, h2, h3⟩
theorem addLast_len (r : Ru) : ∀ ts : List Tb, (addLast ts r).length = ts.length
  | [] => rfl
  | [_] => rfl
  | a :: b :: ts => by rw [addLast, List.length_cons, addLast_len r (b :: ts)]; rfl
theorem flat_set2 : ∀ (xs : List TbV) (n : Nat) (x : TbV) (r : Sl), xs[n]? = some x → (xs.flatMap tbC).set (n * 3 + 2) r.v = (xs.set n ⟨x.nm, x.pa, r⟩).flatMap tbC
  | [], n, x, r, h => by simp at h
  | a :: xs, 0, x, r, h => by
    obtain rfl : a = x := by simpa using h
    simp [tbC]
  | a :: xs, n + 1, x, r, h => by
    have ih := flat_set2 xs n x r (by simpa using h)
    rw [List.flatMap_cons, List.set_cons_succ, List.flatMap_cons, ← ih, List.set_append_right _ _ (by rw [tbC_len]; omega), tbC_len, show (n + 1) * 3 + 2 - 3 = n * 3 + 2 by omega]
/-- A rule more in the last table. -/
theorem TS.rule (h : TS eT eR B w v ts xs rv ys) (n : Nat) (hn : ts.length = n + 1) (g c : Nat) (hv : v = .slice (some ⟨g, 0, none⟩) (n + 1) c) (x : TbV) (hx : xs[n]? = some x) (r : Ru) (y : RuV) (hy : y.b = r.br)
    (hk : Keep (blkL v ++ blkL rv.v) w fun u => RdE atC 34 u y.u.v r.bf ∧ RdE atC 34 u y.t.v r.af) {rv' : Sl} (hown : OwnE eR ruC 3 w' B rv'.v (ys ++ [y])) (hg : w.grownBy w' rv.v.ownBlock) (hat : rv'.v.ownBlock = rv.v.ownBlock ∨ rv'.v.ownBlock = some w.heap.size) :
    TS eT eR B (w'.setCell ⟨g, n * 3 + 2, none⟩ rv'.v) v (addLast ts r) (xs.set n ⟨x.nm, x.pa, rv'⟩) rv' (ys ++ [y]) := by
  have hgb : v.ownBlock = some g := by rw [hv]; rfl
  have hgl := h.own.lt g hgb
  have hrg := h.apart g hgb
  have hrg' : rv'.v.ownBlock ≠ some g := by
    rcases hat with e | e
    · rw [e]; exact hrg
    · rw [e]; intro e2; injection e2 with e2; omega
  have hnew : ∀ b, b < w.heap.size → b ∉ blkL v ++ blkL rv.v → (w'.setCell ⟨g, n * 3 + 2, none⟩ rv'.v).heap[b]? = w.heap[b]? ∧ b ∉ blkL v ++ blkL rv'.v := fun b hb hX => by
    have h1 : b ≠ g := fun e => hX (List.mem_append_left _ (mem_blkL.2 (e ▸ hgb)))
    have h2 : rv.v.ownBlock ≠ some b := fun e => hX (List.mem_append_right _ (mem_blkL.2 e))
    refine ⟨(heap_setCell_other w' _ b _ h1).trans (hg.block b hb (fun e => h2 e.symm)), fun hm => ?_⟩
    rcases List.mem_append.1 hm with hm | hm
    · exact hX (List.mem_append_left _ hm)
    · have h3 := mem_blkL.1 hm
      rcases hat with e | e
      · exact h2 (e ▸ h3)
      · rw [e] at h3; injection h3 with h3; omega
  have hsz : w.heap.size ≤ (w'.setCell ⟨g, n * 3 + 2, none⟩ rv'.v).heap.size := by
    have := hg.size
    simpa [World.setCell] using this
  have hv1 : OwnE eT tbC 3 w' B v xs := own_same h.own fun k hk2 => by
    rw [hgb] at hk2
    injection hk2 with hk2
    subst hk2
    exact hg.block g hgl.2 (fun e => hrg e.symm)
  have hxl : xs.length = n + 1 := h.len.trans hn
  have hset : ∀ (i : Nat) (z : TbV), (xs.set n ⟨x.nm, x.pa, rv'⟩)[i]? = some z → (i ≠ n ∧ xs[i]? = some z) ∨ (i = n ∧ z = ⟨x.nm, x.pa, rv'⟩) := fun i z hz => by
    by_cases hi : i = n
    · subst hi
      rw [List.getElem?_set_self (by omega)] at hz
      exact .inr ⟨rfl, (Option.some.inj hz).symm⟩
    · rw [List.getElem?_set_ne (fun e => hi e.symm)] at hz
      exact .inl ⟨hi, hz⟩
  refine ⟨?_, by rw [List.length_set, addLast_len]; exact h.len, fun i z t hz ht => ?_, fun i z t hz ht hi => ?_, own_setAt (g := g) hown (fun k hk2 e => hrg' (by rw [hk2, e])) _ _, fun k hk2 => by rw [hgb] at hk2; injection hk2 with hk2; exact hk2 ▸ hrg', fun i z t hz ht hi => ?_⟩
  · have h1 := hv1
    unfold OwnE at h1
    rw [hxl] at h1
    have h0 := h1
    rw [hv] at h0
    have h2 := (h0.stored (n * 3 + 2) rv'.v).1
    unfold OwnE
    rw [List.length_set, hxl, ← flat_set2 xs n x rv' hx, hv]
    exact h2
  · rcases hset i z hz with ⟨h1, h2⟩ | ⟨h1, rfl⟩
    · rcases addLast_get r ts n hn i t ht with ⟨_, h4⟩ | ⟨h3, _⟩
      · exact h.ident i z t h2 h4
      · exact absurd h3 h1
    · rcases addLast_get r ts n hn i t ht with ⟨h3, _⟩ | ⟨_, t0, h4, rfl⟩
      · omega
      · exact h.ident n x t0 hx h4
  · rw [addLast_len, hn] at hi
    rcases hset i z hz with ⟨h1, h2⟩ | ⟨h1, _⟩
    · rcases addLast_get r ts n hn i t ht with ⟨h3, h4⟩ | ⟨h3, _⟩
      · exact (h.front i z t h2 h4 (by omega)).step hsz hnew
      · exact absurd h3 h1
    · omega
  · rw [addLast_len, hn] at hi
    have hin : i = n := by omega
    rcases hset i z hz with ⟨h1, _⟩ | ⟨_, rfl⟩
    · exact absurd hin h1
    · rcases addLast_get r ts n hn i t ht with ⟨h3, _⟩ | ⟨_, t0, h4, rfl⟩
      · omega
      · obtain ⟨_, hl, hy0⟩ := h.last n x t0 hx h4 (by omega)
        refine ⟨rfl, by simp [hl], fun j q p hq hp => ?_⟩
        by_cases hj : j < ys.length
        · rw [List.getElem?_append_left hj] at hq
          rw [List.getElem?_append_left (by omega)] at hp
          exact ⟨(hy0 j q p hq hp).1, (hy0 j q p hq hp).2.step hsz hnew⟩
        · have hj2 : j < ys.length + 1 := by have := (List.getElem?_eq_some_iff.1 hq).1; simpa using this
          obtain rfl : j = ys.length := by omega
          rw [List.getElem?_append_right (Nat.le_refl _), Nat.sub_self] at hq
          rw [List.getElem?_append_right (by omega), hl, Nat.sub_self] at hp
          obtain rfl : y = q := by simpa using hq
          obtain rfl : r = p := by simpa using hp
          exact ⟨hy, hk.step hsz hnew⟩
end

end Go.Proofs.YtpboaadjbkaidaaDoor

namespace Go.Proofs.YtpboaadjbkaidaaDoor
set_option maxRecDepth 100000
open Go.RowKit

theorem place_math (x n : Int) (hn : 1 ≤ n) (hx : x < 0) : -n < x.tmod n ∧ x.tmod n ≤ 0 ∧ (x.tmod n < 0 → x % n = x.tmod n + n) ∧ (¬ x.tmod n < 0 → x % n = x.tmod n) := by
  have h1 : x.tmod n = -((-x) % n) := by
    have h := Int.neg_tmod (-x) n
    rw [Int.neg_neg] at h
    rw [h, Int.tmod_eq_emod_of_nonneg (by omega)]
  have h2 := Int.emod_nonneg (-x) (show n ≠ 0 by omega)
  have h3 := Int.emod_lt_of_pos (-x) (show 0 < n by omega)
  have h4 : x = x.tmod n + n * x.tdiv n := (Int.tmod_add_mul_tdiv x n).symm
  have h5 : x % n = (x.tmod n) % n := by
    conv => lhs; rw [h4]
    exact Int.add_mul_emod_self_left ..
  refine ⟨by omega, by omega, fun hl => ?_, fun hl => ?_⟩
  · rw [h5, ← Int.add_emod_right, Int.emod_eq_of_lt (by omega) (by omega)]
  · rw [h5, Int.emod_eq_of_lt (by omega) (by omega)]

theorem place_any (x n : Int) (w : World) (hx : IntIn x) (hn : 1 ≤ n) (hn2 : n ≤ 1000000) :
    Calls Tryd.prog 14 #[.int .i64 x, .int .i64 n] w fun e w' => e = .returned (.int .i64 (x % n)) ∧ w = w' := by
  obtain ⟨hx1, hx2⟩ := hx
  by_cases h : x < 0
  · obtain ⟨q1, q2, q3, q4⟩ := place_math x n hn h
    by_cases hr : x.tmod n < 0
    · have e := q3 hr
      go_enter Tryd.func14, Tryd.ntmps14
      go_wp2
      go_ret
      exact ⟨ret_int (by omega), rfl⟩
    · have e := q4 hr
      go_enter Tryd.func14, Tryd.ntmps14
      go_wp2
      go_ret
      exact ⟨ret_int (by omega), rfl⟩
  · go_enter Tryd.func14, Tryd.ntmps14
    have hb := Int.emod_nonneg x (show n ≠ 0 by omega)
    have hb2 := Int.emod_lt_of_pos x (show 0 < n by omega)
    go_wp2
    go_ret
    exact ⟨rfl, rfl⟩

end Go.Proofs.YtpboaadjbkaidaaDoor

namespace Go.Proofs.YtpboaadjbkaidaaDoor
set_option maxRecDepth 100000
open Go.RowKit

/-- The number that a call of Next gives: place N of the list, below n. -/
def nextN (L : List Int) (N : Nat) (n : Int) : Int := (L.getD N 0) % n
theorem nextN_bd (L : List Int) (N : Nat) (n : Int) (h : 1 ≤ n) : 0 ≤ nextN L N n ∧ nextN L N n < n :=
  ⟨Int.emod_nonneg _ (by omega), Int.emod_lt_of_pos _ (by omega)⟩

def words : List ByteArray := [⟨#[114, 101, 100]⟩, ⟨#[99, 97, 114]⟩, ⟨#[82, 101, 100]⟩, ⟨#[97]⟩, ⟨#[99, 97, 114, 115]⟩, ⟨#[49, 44, 53]⟩, ⟨#[50, 50]⟩, ⟨#[100, 111, 110, 39, 116]⟩, ⟨#[46]⟩, ⟨#[33]⟩, ⟨#[32]⟩, ⟨#[32, 32]⟩,
  ⟨#[60]⟩, ⟨#[38]⟩, ⟨#[123]⟩, ⟨#[34]⟩, ⟨#[92]⟩, ⟨#[120, 45, 121]⟩, ⟨#[10]⟩, ⟨#[61]⟩, ⟨#[125]⟩, ⟨#[62]⟩, ⟨#[9]⟩, ⟨#[98]⟩]
def mkWord (L : List Int) (N : Nat) : ByteArray := words.getD (nextN L N 24).toNat ⟨#[]⟩
theorem words_size : ∀ k, (words.getD k ⟨#[]⟩).size ≤ 5 := by
  intro k
  by_cases h : k < words.length
  · have : ∀ x ∈ words, x.size ≤ 5 := by decide
    rw [List.getD_eq_getElem?_getD, List.getElem?_eq_getElem h]
    exact this _ (List.getElem_mem h)
  · rw [List.getD_eq_getElem?_getD, List.getElem?_eq_none (by omega)]
    decide

/-- The rounds of Line that are left: i of them. -/
def lineGo (L : List Int) : Nat → ByteArray → Nat → ByteArray × Nat
  | 0, out, N => (out, N)
  | i + 1, out, N =>
    if 0 < out.size then
      if 0 < nextN L (N + 1) 3 then lineGo L i (out ++ ⟨#[32]⟩ ++ mkWord L N) (N + 2) else lineGo L i (out ++ mkWord L N) (N + 2)
    else lineGo L i (out ++ mkWord L N) (N + 1)
def lineL (L : List Int) (N : Nat) (n : Int) : ByteArray × Nat := lineGo L (nextN L N (n + 1)).toNat ⟨#[]⟩ (N + 1)
theorem lineGo_bd (L : List Int) : ∀ i out N, (lineGo L i out N).1.size ≤ out.size + 6 * i ∧ (lineGo L i out N).2 ≤ N + 2 * i
  | 0, out, N => ⟨Nat.le_refl _, Nat.le_refl _⟩
  | i + 1, out, N => by
    have hw : (mkWord L N).size ≤ 5 := words_size _
    rw [lineGo]
    split
    · split
      · have h := lineGo_bd L i (out ++ ⟨#[32]⟩ ++ mkWord L N) (N + 2)
        rw [ByteArray.size_append, ByteArray.size_append] at h
        have h1 : (ByteArray.mk #[32]).size = 1 := rfl
        omega
      · have h := lineGo_bd L i (out ++ mkWord L N) (N + 2)
        rw [ByteArray.size_append] at h
        omega
    · have h := lineGo_bd L i (out ++ mkWord L N) (N + 1)
      rw [ByteArray.size_append] at h
      omega
theorem lineL_bd (L : List Int) (N : Nat) (n : Int) (h : 0 ≤ n) : (lineL L N n).1.size ≤ 6 * n.toNat ∧ (lineL L N n).2 ≤ N + 1 + 2 * n.toNat := by
  have h1 := nextN_bd L N (n + 1) (by omega)
  have h2 := lineGo_bd L (nextN L N (n + 1)).toNat ⟨#[]⟩ (N + 1)
  have h3 : (ByteArray.mk #[]).size = 0 := rfl
  unfold lineL
  omega

end Go.Proofs.YtpboaadjbkaidaaDoor

namespace Go.Proofs.YtpboaadjbkaidaaDoor
set_option maxRecDepth 100000
open Go.RowKit

/-- All but block g is as it was. -/
structure But (g : Nat) (w w' : World) : Prop where
  os : w'.os = w.os
  tape : w'.tape = w.tape
  output : w'.output = w.output
  size : w.heap.size ≤ w'.heap.size
  block : ∀ k, k < w.heap.size → k ≠ g → w'.heap[k]? = w.heap[k]?
theorem But.refl (g : Nat) (w : World) : But g w w := ⟨rfl, rfl, rfl, Nat.le_refl _, fun _ _ _ => rfl⟩
theorem But.trans {g : Nat} {a b c : World} (h : But g a b) (k : But g b c) : But g a c :=
  ⟨k.os.trans h.os, k.tape.trans h.tape, k.output.trans h.output, Nat.le_trans h.size k.size, fun i hi hn => (k.block i (Nat.lt_of_lt_of_le hi h.size) hn).trans (h.block i hi hn)⟩
theorem But.of_below {g : Nat} {w w' : World} (h : Below w.heap.size w w') : But g w w' := ⟨h.os, h.tape, h.output, h.size, fun k hk _ => h.block k hk⟩
theorem But.below {g B : Nat} {w w' : World} (h : But g w w') (hB : B ≤ g) (hg : g ≤ w.heap.size) : Below B w w' := ⟨h.os, h.tape, h.output, h.size, fun k hk => h.block k (by omega) (by omega)⟩
theorem But.alloc {g : Nat} {a w : World} (h : But g a w) (o : Obj) : But g a (w.alloc o) := h.trans (.of_below ((Below.refl _ _).alloc (Nat.le_refl _) o))
theorem But.drewN {g : Nat} {a w : World} (h : But g a w) (n : Nat) : But g a (w.drewN n) := ⟨h.os, h.tape, h.output, h.size, h.block⟩
theorem But.set {g : Nat} {a w : World} (h : But g a w) (o : Nat) (u : Value) : But g a (w.setCell ⟨g, o, none⟩ u) := by
  refine h.trans ⟨rfl, rfl, rfl, by simp [World.setCell], fun k hk hn => Below.heap_setCell _ _ _ _ hn⟩

/-- Block g holds Numbers: the list L (it lies below g), at place N. -/
def Nums (w : World) (g : Nat) (L : List Int) (N : Nat) : Prop := ∃ v W0, w.heap[g]? = some (.cells #[v, .int .i64 N] 62) ∧ RdE intC 1 W0 v L ∧ W0.heap.size ≤ g ∧ (∀ k, k < W0.heap.size → w.heap[k]? = W0.heap[k]?) ∧ (∀ x ∈ L, IntIn x)
theorem Nums.lt {w : World} {g : Nat} {L : List Int} {N : Nat} (h : Nums w g L N) : g < w.heap.size := by
  obtain ⟨v, W0, h, _⟩ := h
  exact (Array.getElem?_eq_some_iff.1 h).1
theorem Nums.keep {w w' : World} {g : Nat} {L : List Int} {N : Nat} (h : Nums w g L N) (hk : ∀ k, k < w.heap.size → w'.heap[k]? = w.heap[k]?) : Nums w' g L N := by
  have hlt := h.lt
  obtain ⟨v, W0, h1, h2, h3, h4, h5⟩ := h
  exact ⟨v, W0, (hk g hlt).trans h1, h2, h3, fun k hk' => (hk k (by omega)).trans (h4 k hk'), h5⟩
theorem Nums.below {w w' : World} {g : Nat} {L : List Int} {N B : Nat} (h : Nums w g L N) (hb : Below B w w') (hB : w.heap.size ≤ B) : Nums w' g L N := h.keep fun k hk => hb.block k (by omega)
theorem Nums.alloc {w : World} {g : Nat} {L : List Int} {N : Nat} (h : Nums w g L N) (o : Obj) : Nums (w.alloc o) g L N := h.keep fun _ hk => Below.heap_alloc _ _ _ hk

/-- A call that has drawn numbers. -/
def NumRet (g : Nat) (L : List Int) (N' : Nat) (v : Value) (w : World) (e : Ending) (w' : World) : Prop := e = .returned v ∧ But g w w' ∧ Nums w' g L N'

theorem frozen_rowM {w : World} {g : Nat} {cs : Array Value} {t : TypeId} (h : w.heap[g]? = some (.cells cs t)) (j : Nat) : w.frozen? ⟨g, j, none⟩ = false := by
  unfold World.frozen?
  rw [h]
  simp
theorem nums_next {w W0 : World} {g N : Nat} {L : List Int} {v : Value} (h1 : w.heap[g]? = some (.cells #[v, .int .i64 N] 62)) (h2 : RdE intC 1 W0 v L) (h3 : W0.heap.size ≤ g) (h4 : ∀ k, k < W0.heap.size → w.heap[k]? = W0.heap[k]?) (h5 : ∀ x ∈ L, IntIn x) (a : Nat) :
    Nums ((w.drewN a).setCell ⟨g, 1, none⟩ (.int .i64 ((N : Int) + 1))) g L (N + 1) := by
  refine ⟨v, W0, ?_, h2, h3, fun k hk => ?_, h5⟩
  · have hh : (w.drewN a).heap[g]? = w.heap[g]? := rfl
    show ((w.drewN a).heap.modify g _)[g]? = _
    rw [Array.getElem?_modify, if_pos rfl, hh, h1]
    rfl
  · rw [Below.heap_setCell _ _ _ _ (by show k ≠ g; omega)]
    exact h4 k hk

set_option maxHeartbeats 1000000 in
theorem next_any' (L : List Int) (g N : Nat) (n : Int) (w : World) (h : Nums w g L N) (hN : N ≤ 1000000000) (hn : 1 ≤ n) (hn2 : n ≤ 1000000) :
    Calls Tryd.prog 63 #[.pointer (some ⟨g, 0, none⟩), .int .i64 n] w (NumRet g L (N + 1) (.int .i64 (nextN L N n)) w) := by
  have hlt := h.lt
  obtain ⟨v, W0, h1, h2, h3, h4, h5⟩ := h
  have hrd : RdE intC 1 w v L := h2.keep (by omega) h4
  obtain ⟨A, c, rfl, _, _⟩ := hrd.shape
  have q1 : w.cell? ⟨g, 0, none⟩ = some (.slice A L.length c) := by rw [cell_of_row _ _ 0 _ _ _ h1]; rfl
  have q2 : w.cell? ⟨g, 1, none⟩ = some (.int .i64 N) := by rw [cell_of_row _ _ 1 _ _ _ h1]; rfl
  by_cases hNL : N < L.length
  · obtain ⟨b, o, rfl, hbl, hx⟩ := RdE.cells hrd (by omega)
    have q3 := hx N _ 0 _ (List.getElem?_eq_getElem hNL) rfl
    simp only [Nat.mul_one, Nat.add_zero] at q3
    have hin := h5 _ (List.getElem_mem hNL)
    have hv : Hid (nextN L N n = L[N] % n) := by
      show nextN L N n = L[N] % n
      unfold nextN
      rw [List.getD_eq_getElem?_getD, List.getElem?_eq_getElem hNL]
      rfl
    generalize L[N] = x at q3 hin hv
    have q4 : w.frozen? ⟨g, 1, none⟩ = false := frozen_rowM h1 1
    have HN := nums_next h1 h2 h3 h4 h5
    go_enter Tryd.func63, Tryd.ntmps63
    go_wp2_with fail
    go_quiet (fail)
    go_wp2_with fail
    go_quiet (fail)
    go_wp2_with (go_at_call 14; refine (place_any x n _ hin hn hn2).mono ?_; rintro e w' ⟨rfl, rfl⟩)
    go_ret
    refine ⟨ret_int hv.out.symm, ?_, ?_⟩
    · exact But.set (But.drewN (But.refl g w) _) 1 _
    · exact HN _
  · have hv : Hid (nextN L N n = 0 % n) := by
      show nextN L N n = 0 % n
      unfold nextN
      rw [List.getD_eq_getElem?_getD, List.getElem?_eq_none (by omega)]
      rfl
    have q4 : w.frozen? ⟨g, 1, none⟩ = false := frozen_rowM h1 1
    have HN := nums_next h1 h2 h3 h4 h5
    go_enter Tryd.func63, Tryd.ntmps63
    go_wp2_with fail
    go_quiet (fail)
    go_wp2_with (go_at_call 14; refine (place_any 0 n _ ⟨by omega, by omega⟩ hn hn2).mono ?_; rintro e w' ⟨rfl, rfl⟩)
    go_ret
    refine ⟨ret_int hv.out.symm, ?_, ?_⟩
    · exact But.set (But.drewN (But.refl g w) _) 1 _
    · exact HN _

theorem cells_strs (w : World) (g : Nat) (hg : w.heap.size = g) (xs : List ByteArray) (t : TypeId) (k : Nat) (h : k < xs.length) : (w.alloc (.cells (xs.map Value.string).toArray t)).cell? ⟨g, k, none⟩ = some (.string (xs.getD k ⟨#[]⟩)) := by
  subst hg
  have := cells_new w (xs.map Value.string) t k (.string (xs.getD k ⟨#[]⟩)) (by rw [List.getElem?_map, List.getElem?_eq_getElem h, List.getD_eq_getElem?_getD, List.getElem?_eq_getElem h]; rfl)
  rwa [Addr.add_lit, Nat.zero_add] at this

theorem word_any' (L : List Int) (g N : Nat) (w : World) (h : Nums w g L N) (hN : N ≤ 1000000000) :
    Calls Tryd.prog 95 #[.pointer (some ⟨g, 0, none⟩)] w (NumRet g L (N + 1) (.string (mkWord L N)) w) := by
  have H := Lib.hid (h.alloc (.cells (words.map Value.string).toArray 9))
  have hn := nextN_bd L N 24 (by omega)
  have HC := cells_strs w _ rfl words 9 (nextN L N 24).toNat (by show _ < 24; omega)
  have HW : Hid (words.getD (nextN L N 24).toNat ⟨#[]⟩ = mkWord L N) := by show words.getD (nextN L N 24).toNat ⟨#[]⟩ = mkWord L N; rfl
  have HB := Lib.hid (But.alloc (But.refl g w) (.cells (words.map Value.string).toArray 9))
  have HX := fun (X : World) (hb : But g (w.alloc (.cells (words.map Value.string).toArray 9)) X) => (World.cell?_of_block (a := ⟨w.heap.size, (nextN L N 24).toNat, none⟩) (hb.block w.heap.size (by simp) (by have := h.lt; omega))).trans HC
  have HXX := Lib.hid HX
  clear h HX HC
  go_enter Tryd.func95, Tryd.ntmps95
  go_wp2_with fail
  refine (next_any' L g N 24 _ (by exact H.out) hN (by decide) (by decide)).mono ?_
  rintro e w1 ⟨rfl, hb1, hn1⟩
  have q := HXX.out w1 (by exact hb1)
  have hb2 : But g w w1 := HB.out.trans (by exact hb1)
  rw [HW.out] at q
  generalize nextN L N 24 = z at hn q
  have hz : ((z.toNat : Nat) : Int) = z := by omega
  go_wp2_with fail
  go_ret
  exact ⟨rfl, hb2, hn1⟩

end Go.Proofs.YtpboaadjbkaidaaDoor

namespace Go.Proofs.YtpboaadjbkaidaaDoor
set_option maxRecDepth 100000
open Go.RowKit

/-- The byte that a number stands for. -/
def ch8 (z : Int) : Nat := ((⟨#[97, 98, 32, 46, 33, 65, 49, 60]⟩ : ByteArray).data.toList.getD z.toNat 0).toNat
def bitsM (L : List Int) : Nat → Nat → (Nat → Bool) → (Nat → Bool) × Nat
  | 0, N, y => (y, N)
  | k + 1, N, y => bitsM L k (N + 1) (addP y (ch8 (nextN L N 8)))
theorem bitsM_pos (L : List Int) : ∀ k N y, (bitsM L k N y).2 = N + k
  | 0, _, _ => rfl
  | k + 1, N, y => by rw [bitsM, bitsM_pos L k]; omega
def atomsGo (L : List Int) : Nat → Nat → List At → List At × Nat
  | 0, N, p => (p, N)
  | i + 1, N, p => atomsGo L i (bitsM L ((nextN L (N + 2) 4).toNat + 1) (N + 3) noP).2 (p ++ [⟨(bitsM L ((nextN L (N + 2) 4).toNat + 1) (N + 3) noP).1, nextN L N 2, nextN L (N + 1) 2 == 1⟩])
theorem atomsGo_bd (L : List Int) : ∀ i N p, (atomsGo L i N p).1.length = p.length + i ∧ (atomsGo L i N p).2 ≤ N + 10 * i ∧ ((∀ x ∈ p, x.mn = 0 ∨ x.mn = 1) → ∀ x ∈ (atomsGo L i N p).1, x.mn = 0 ∨ x.mn = 1)
  | 0, N, p => ⟨rfl, Nat.le_refl _, fun h => h⟩
  | i + 1, N, p => by
    have h4 := nextN_bd L (N + 2) 4 (by decide)
    have h2 := nextN_bd L N 2 (by decide)
    have hb := bitsM_pos L ((nextN L (N + 2) 4).toNat + 1) (N + 3) noP
    rw [atomsGo]
    have h := atomsGo_bd L i (bitsM L ((nextN L (N + 2) 4).toNat + 1) (N + 3) noP).2 (p ++ [⟨(bitsM L ((nextN L (N + 2) 4).toNat + 1) (N + 3) noP).1, nextN L N 2, nextN L (N + 1) 2 == 1⟩])
    refine ⟨by rw [h.1]; simp; omega, by omega, fun hp => h.2.2 fun x hx => ?_⟩
    rcases List.mem_append.1 hx with hx | hx
    · exact hp x hx
    · have hx' := List.mem_singleton.1 hx
      rw [hx']
      show nextN L N 2 = 0 ∨ nextN L N 2 = 1
      omega
def atomsM (L : List Int) (N : Nat) (n : Int) : List At × Nat := atomsGo L (nextN L N (n + 1)).toNat (N + 1) []
theorem atomsM_bd (L : List Int) (N : Nat) (n : Int) (hn : 0 ≤ n) : (atomsM L N n).1.length ≤ n.toNat ∧ (atomsM L N n).2 ≤ N + 1 + 10 * n.toNat ∧ ∀ x ∈ (atomsM L N n).1, x.mn = 0 ∨ x.mn = 1 := by
  have hb := nextN_bd L N (n + 1) (by omega)
  have h := atomsGo_bd L (nextN L N (n + 1)).toNat (N + 1) []
  unfold atomsM
  refine ⟨by rw [h.1]; simp; omega, by omega, h.2.2 (fun x hx => by simp at hx)⟩
/-- One rule, drawn at N. -/
def ruleM (L : List Int) (N : Nat) : Ru := ⟨decide (0 < nextN L N 3), (atomsM L (N + 1) 2).1, (atomsM L (atomsM L (N + 1) 2).2 2).1⟩
def ruleN (L : List Int) (N : Nat) : Nat := (atomsM L (atomsM L (N + 1) 2).2 2).2
def rulesGo (L : List Int) : Nat → Nat → List Ru → List Ru × Nat
  | 0, N, rs => (rs, N)
  | i + 1, N, rs => rulesGo L i (ruleN L N) (rs ++ [ruleM L N])
theorem ruleN_bd (L : List Int) (N : Nat) : ruleN L N ≤ N + 43 := by
  have h1 := (atomsM_bd L (N + 1) 2 (by decide)).2.1
  have h2 := (atomsM_bd L (atomsM L (N + 1) 2).2 2 (by decide)).2.1
  unfold ruleN
  have e : (2 : Int).toNat = 2 := rfl
  rw [e] at h1 h2
  omega
/-- What a drawn rule keeps to. -/
def RuOk (r : Ru) : Prop := r.bf.length ≤ 2 ∧ r.af.length ≤ 2 ∧ (∀ x ∈ r.bf, x.mn = 0 ∨ x.mn = 1) ∧ ∀ x ∈ r.af, x.mn = 0 ∨ x.mn = 1
theorem ruleM_ok (L : List Int) (N : Nat) : RuOk (ruleM L N) := by
  have h1 := atomsM_bd L (N + 1) 2 (by decide)
  have h2 := atomsM_bd L (atomsM L (N + 1) 2).2 2 (by decide)
  exact ⟨h1.1, h2.1, h1.2.2, h2.2.2⟩
theorem rulesGo_bd (L : List Int) : ∀ i N rs, (rulesGo L i N rs).1.length = rs.length + i ∧ (rulesGo L i N rs).2 ≤ N + 43 * i ∧ ((∀ r ∈ rs, RuOk r) → ∀ r ∈ (rulesGo L i N rs).1, RuOk r)
  | 0, N, rs => ⟨rfl, Nat.le_refl _, fun h => h⟩
  | i + 1, N, rs => by
    have hb := ruleN_bd L N
    rw [rulesGo]
    have h := rulesGo_bd L i (ruleN L N) (rs ++ [ruleM L N])
    refine ⟨by rw [h.1]; simp; omega, by omega, fun hp => h.2.2 fun r hr => ?_⟩
    rcases List.mem_append.1 hr with hr | hr
    · exact hp r hr
    · rw [List.mem_singleton.1 hr]
      exact ruleM_ok L N
def rulesM (L : List Int) (N : Nat) (n : Int) : List Ru × Nat := rulesGo L (nextN L N (n + 1)).toNat (N + 1) []
theorem rulesM_bd (L : List Int) (N : Nat) (n : Int) (hn : 0 ≤ n) : (rulesM L N n).1.length ≤ n.toNat ∧ (rulesM L N n).2 ≤ N + 1 + 43 * n.toNat ∧ ∀ r ∈ (rulesM L N n).1, RuOk r := by
  have hb := nextN_bd L N (n + 1) (by omega)
  have h := rulesGo_bd L (nextN L N (n + 1)).toNat (N + 1) []
  unfold rulesM
  refine ⟨by rw [h.1]; simp; omega, by omega, h.2.2 (fun x hx => by simp at hx)⟩

end Go.Proofs.YtpboaadjbkaidaaDoor

namespace Go.Proofs.YtpboaadjbkaidaaDoor
set_option maxRecDepth 100000
open Go.RowKit

/-- A call that makes atoms out of numbers. -/
def AtomsRetM (L : List Int) (g : Nat) (r : List At × Nat) (w : World) (e : Ending) (w' : World) : Prop :=
  ∃ v, e = .returned v ∧ OwnE 26 atC 34 w' w.heap.size v r.1 ∧ But g w w' ∧ Nums w' g L r.2
def atE (m : Int) (b : Bool) : Array Value := #[.int .u8 0, .int .u8 0, .int .u8 0, .int .u8 0, .int .u8 0, .int .u8 0, .int .u8 0, .int .u8 0, .int .u8 0, .int .u8 0, .int .u8 0, .int .u8 0, .int .u8 0, .int .u8 0, .int .u8 0, .int .u8 0, .int .u8 0, .int .u8 0, .int .u8 0, .int .u8 0, .int .u8 0, .int .u8 0, .int .u8 0, .int .u8 0, .int .u8 0, .int .u8 0, .int .u8 0, .int .u8 0, .int .u8 0, .int .u8 0, .int .u8 0, .int .u8 0, .int .i64 m, .bool b]
theorem AtIn.lt {w : World} {g : Nat} {x : At} (h : AtIn w g x) : g < w.heap.size := (Array.getElem?_eq_some_iff.1 h).1
theorem But.bel {g : Nat} {a b c : World} (h : But g a b) (k : Below a.heap.size b c) (hs : a.heap.size ≤ b.heap.size) : But g a c :=
  ⟨k.os.trans h.os, k.tape.trans h.tape, k.output.trans h.output, Nat.le_trans hs k.size, fun i hi hn => (k.block i hi).trans (h.block i hi hn)⟩
theorem nums_keep {w w' : World} {g N B : Nat} {L : List Int} (h : Nums w g L N) (hb : Below B w w') (hg : g < B) : Nums w' g L N := by
  obtain ⟨v, W0, h1, h2, h3, h4, h5⟩ := h
  exact ⟨v, W0, (hb.block g hg).trans h1, h2, h3, fun k hk => (hb.block k (by omega)).trans (h4 k hk), h5⟩
theorem AtIn.setSet {w : World} {g : Nat} {p : Nat → Bool} {mn : Int} {many : Bool} (h : AtIn w g ⟨p, mn, many⟩) (q : Nat → Bool) (k : Nat) (hk : k < 32) (hq : ∀ i, i < 32 → i ≠ k → byteOf q i = byteOf p i) : AtIn (w.setCell ⟨g, k, none⟩ (.int .u8 (byteOf q k : Nat))) g ⟨q, mn, many⟩ := by
  unfold AtIn at *
  rw [heap_setCell_same w g k _ _ _ h]
  congr 2
  have h1 := setC_set p q k hk hq
  rw [List.setIfInBounds_toArray] at h1 ⊢
  have h2 : (setC p).set k (.int .u8 (byteOf q k : Nat)) = setC q := by simpa using h1
  unfold atC
  rw [List.set_append_left _ _ (by rw [setC_length]; exact hk), h2]
theorem atE_eq (m : Int) (b : Bool) : atE m b = (atC ⟨noP, m, b⟩).toArray := by kernel_rfl

set_option maxRecDepth 100000 in
set_option maxHeartbeats 4000000 in
theorem atomsM_any (L : List Int) (g N n : Nat) (w : World) (hnum : Nums w g L N) (hN : N ≤ 1000000) (hn : n ≤ 100) :
    Calls Tryd.prog 90 #[.pointer (some ⟨g, 0, none⟩), .int .i64 n] w (AtomsRetM L g (atomsM L N n) w) := by
  obtain ⟨R, HRR⟩ : ∃ R, Hid (R = AtomsRetM L g (atomsM L N n) w) := ⟨_, rfl⟩
  rw [← HRR.out]
  obtain ⟨TT, HTT⟩ : ∃ TT, Hid (atomsGo L (nextN L N ((n : Int) + 1)).toNat (N + 1) [] = TT) := ⟨_, rfl⟩
  have HTR : Hid (R = AtomsRetM L g TT w) := by
    show _ = _
    rw [HRR.out, ← HTT.out]
    rfl
  clear HRR
  have hg0 := hnum.lt
  have hz := nextN_bd L N (n + 1) (by omega)
  have HNU := Lib.hid hnum
  clear hnum
  go_enter Tryd.func90, Tryd.ntmps90
  go_upto_region 3 with (go_at_call 63; refine (next_any' L g N ((n : Int) + 1) _ (by exact HNU.out) (by omega) (by omega) (by omega)).mono ?_; rintro e w1 ⟨rfl, hb1, hn1⟩)
  generalize nextN L N ((n : Int) + 1) = z at hz hn1 HTT ⊢
  obtain ⟨z', rfl⟩ : ∃ z' : Nat, z = (z' : Int) := ⟨z.toNat, by omega⟩
  rw [Int.toNat_natCast] at HTT
  have HB1 := Lib.hid hb1
  have HN1 := Lib.hid hn1
  clear hb1 hn1 HNU
  go_loopg [5, 6] z' (fun m pv iv wr => ∃ (p : List At) (i M : Nat), iv = .int .i64 i ∧ Hid (OwnE 26 atC 34 wr w.heap.size pv p) ∧ Hid (But g w wr) ∧ Hid (Nums wr g L M) ∧ p.length + i ≤ n ∧ M + 10 * i ≤ N + 1 + 10 * n ∧ Hid (atomsGo L i M p = TT) ∧ i ≤ m)
  case atStart => exact ⟨[], z', N + 1, rfl, OwnE.nil, HB1.out, HN1.out, by simp; omega, by omega, HTT.out, Nat.le_refl _⟩
  case round =>
    clear HB1 HN1 HTT
    obtain ⟨p, i, M, rfl, HO, HB, HNU, hpi, hM, HV, hgk⟩ := hrel
    by_cases hi0 : 0 < i
    · have hi0i : (0 : Int) < (i : Int) := by omega
      obtain ⟨A, cA, hpv⟩ := own_shape HO.out
      subst hpv
      have hz1 := nextN_bd L M 2 (by decide)
      have hz2 := nextN_bd L (M + 1) 2 (by decide)
      have HC1 := Lib.hid (fun w h => next_any' L g M 2 w h (by omega) (by decide) (by decide))
      have HC2 := Lib.hid (fun w h => next_any' L g (M + 1) 2 w h (by omega) (by decide) (by decide))
      have HV2 : Hid (atomsGo L (i - 1) (bitsM L ((nextN L (M + 2) 4).toNat + 1) (M + 3) noP).2 (p ++ [⟨(bitsM L ((nextN L (M + 2) 4).toNat + 1) (M + 3) noP).1, nextN L M 2, nextN L (M + 1) 2 == 1⟩]) = TT) := by
        show _ = _
        rw [← HV.out]
        obtain ⟨i', rfl⟩ : ∃ i', i = i' + 1 := ⟨i - 1, by omega⟩
        rfl
      clear HV
      generalize nextN L M 2 = z1 at hz1 HC1 HV2
      generalize nextN L (M + 1) 2 = z2 at hz2 HC2 HV2
      go_upto_region 6 with (first
        | (go_at_call 63; refine (HC1.out _ HNU.out).mono ?_; rintro e w2 ⟨rfl, hb2, hn2⟩)
        | (go_at_call 63; refine (HC2.out _ hn2).mono ?_; rintro e w3 ⟨rfl, hb3, hn3⟩)
        | (refine wpList_store_row rfl 26 (.tmp 7) (.tmp 23) rfl (w3.heap.size) (atE z1 (z2 == 1)) rfl rfl 26 (atC ⟨noP, 0, false⟩).toArray (at_zero w3) (by rw [atom_size]; rfl) (by rw [atC_size]; rfl) (by rw [atE_eq]; exact atC_oneA _) ?_; rw [atE_eq]))
      have hg1 := HNU.out.lt
      have hsz2 := hb2.size
      have hsz3 := hb3.size
      have HA4 := Lib.hid ((at_zero w3).row ⟨noP, z1, (z2 == 1)⟩)
      have HB4 : Hid (But g w ((w3.alloc (.cells #[.int .u8 0, .int .u8 0, .int .u8 0, .int .u8 0, .int .u8 0, .int .u8 0, .int .u8 0, .int .u8 0, .int .u8 0, .int .u8 0, .int .u8 0, .int .u8 0, .int .u8 0, .int .u8 0, .int .u8 0, .int .u8 0, .int .u8 0, .int .u8 0, .int .u8 0, .int .u8 0, .int .u8 0, .int .u8 0, .int .u8 0, .int .u8 0, .int .u8 0, .int .u8 0, .int .u8 0, .int .u8 0, .int .u8 0, .int .u8 0, .int .u8 0, .int .u8 0, .int .i64 0, .bool false] 26)).setRow w3.heap.size (atC ⟨noP, z1, (z2 == 1)⟩).toArray)) := ((HB.out.trans hb2).trans hb3).trans (.of_below (below_setRow ((Below.refl _ w3).alloc (Nat.le_refl _) _) (Nat.le_refl _) _))
      have HN4 : Hid (Nums ((w3.alloc (.cells #[.int .u8 0, .int .u8 0, .int .u8 0, .int .u8 0, .int .u8 0, .int .u8 0, .int .u8 0, .int .u8 0, .int .u8 0, .int .u8 0, .int .u8 0, .int .u8 0, .int .u8 0, .int .u8 0, .int .u8 0, .int .u8 0, .int .u8 0, .int .u8 0, .int .u8 0, .int .u8 0, .int .u8 0, .int .u8 0, .int .u8 0, .int .u8 0, .int .u8 0, .int .u8 0, .int .u8 0, .int .u8 0, .int .u8 0, .int .u8 0, .int .u8 0, .int .u8 0, .int .i64 0, .bool false] 26)).setRow w3.heap.size (atC ⟨noP, z1, (z2 == 1)⟩).toArray) g L (M + 2)) := hn3.below (below_setRow ((Below.refl _ w3).alloc (Nat.le_refl _) _) (Nat.le_refl _) _) (Nat.le_refl _)
      have HO4 : Hid (OwnE 26 atC 34 ((w3.alloc (.cells #[.int .u8 0, .int .u8 0, .int .u8 0, .int .u8 0, .int .u8 0, .int .u8 0, .int .u8 0, .int .u8 0, .int .u8 0, .int .u8 0, .int .u8 0, .int .u8 0, .int .u8 0, .int .u8 0, .int .u8 0, .int .u8 0, .int .u8 0, .int .u8 0, .int .u8 0, .int .u8 0, .int .u8 0, .int .u8 0, .int .u8 0, .int .u8 0, .int .u8 0, .int .u8 0, .int .u8 0, .int .u8 0, .int .u8 0, .int .u8 0, .int .u8 0, .int .u8 0, .int .i64 0, .bool false] 26)).setRow w3.heap.size (atC ⟨noP, z1, (z2 == 1)⟩).toArray) w.heap.size (.slice A p.length cA) p) := own_same HO.out fun k hk => by
        have h1 := HO.out.lt k hk
        rw [setRow_other _ _ _ _ (by omega), Below.heap_alloc _ _ _ (by omega), hb3.block k (by omega) (by omega), hb2.block k (by omega) (by omega)]
      have HOG : Hid (∀ k, (Value.slice A p.length cA).ownBlock = some k → k ≠ w3.heap.size) := fun k hk => by
        have h1 := HO.out.lt k hk
        omega
      have hgg : g < w3.heap.size := by omega
      have hww : w.heap.size ≤ w3.heap.size := by have := HB.out.size; omega
      clear HO HB HNU hb2 hb3 hn2 hn3 hsz2 hsz3 hg1 HC1 HC2
      generalize hq : w3.heap.size = q at HA4 HB4 HN4 HO4 HOG hgg hww ⊢
      generalize (w3.alloc (.cells #[.int .u8 0, .int .u8 0, .int .u8 0, .int .u8 0, .int .u8 0, .int .u8 0, .int .u8 0, .int .u8 0, .int .u8 0, .int .u8 0, .int .u8 0, .int .u8 0, .int .u8 0, .int .u8 0, .int .u8 0, .int .u8 0, .int .u8 0, .int .u8 0, .int .u8 0, .int .u8 0, .int .u8 0, .int .u8 0, .int .u8 0, .int .u8 0, .int .u8 0, .int .u8 0, .int .u8 0, .int .u8 0, .int .u8 0, .int .u8 0, .int .u8 0, .int .u8 0, .int .i64 0, .bool false] 26)).setRow q (atC ⟨noP, z1, (z2 == 1)⟩).toArray = w4 at HA4 HB4 HN4 HO4 ⊢
      clear hq
      have hmn : z1 = 0 ∨ z1 = 1 := by omega
      clear hz1 hz2
      generalize (z2 == 1) = b2 at HA4 HV2 ⊢
      have hz4 := nextN_bd L (M + 2) 4 (by decide)
      have HC4 := Lib.hid (fun w h => next_any' L g (M + 2) 4 w h (by omega) (by decide) (by decide))
      generalize nextN L (M + 2) 4 = z4 at hz4 HC4 HV2
      go_upto_region 7 with (go_at_call 63; refine (HC4.out _ HN4.out).mono ?_; rintro e w5 ⟨rfl, hb5, hn5⟩)
      have HA5 := Lib.hid (HA4.out.keep (hb5.block _ HA4.out.lt (by omega)))
      have HB5 := Lib.hid (HB4.out.trans hb5)
      have HN5 := Lib.hid hn5
      have HO5 : Hid (OwnE 26 atC 34 w5 w.heap.size (.slice A p.length cA) p) := own_same HO4.out fun k hk => by
        have h1 := HO4.out.lt k hk
        exact hb5.block k h1.2 (by omega)
      clear HA4 HB4 HN4 HO4 hb5 hn5 HC4
      obtain ⟨z4', rfl⟩ : ∃ z4' : Nat, z4 = (z4' : Int) := ⟨z4.toNat, by omega⟩
      rw [Int.toNat_natCast] at HV2
      obtain ⟨T2, HT2⟩ : ∃ T2, Hid (bitsM L (z4' + 1) (M + 3) noP = T2) := ⟨_, rfl⟩
      rw [HT2.out] at HV2
      obtain ⟨wo, rfl⟩ : ∃ wo : World, wo = w5 := ⟨_, rfl⟩
      go_loopg [8] (z4' + 1) (fun n kv wr => ∃ (k : Nat) (y : Nat → Bool) (M2 : Nat), kv = .int .i64 ((k : Int) - 1) ∧ k ≤ 4 ∧ Hid (AtIn wr q ⟨y, z1, b2⟩) ∧ Hid (But g w wr) ∧ Hid (Nums wr g L M2) ∧ M2 + k ≤ M + 7 ∧ Hid (OwnE 26 atC 34 wr w.heap.size (.slice A p.length cA) p) ∧ Hid (bitsM L k M2 y = T2) ∧ k ≤ n)
      case atStart => exact ⟨z4' + 1, noP, M + 3, by (show Value.int .i64 _ = Value.int .i64 _); congr 1; omega, by omega, HA5.out, HB5.out, HN5.out, by omega, HO5.out, HT2.out, Nat.le_refl _⟩
      case round =>
        clear HA5 HB5 HN5 HO5 HT2
        obtain ⟨k, y, M2, rfl, hk4, HA, HB, HNU, hM2, HO, HT2, hgk2⟩ := hrel
        cases k with
        | zero =>
          rw [show ((0 : Nat) : Int) - 1 = -1 from rfl]
          have hsz := HB.out.size
          go_wp2_with (first
            | (refine wpList_load_row rfl 26 (.tmp 7) rfl (q) rfl 26 (atC ⟨y, z1, b2⟩).toArray (0, 0) _ HA.out Tryd.underlying26 rfl (by rw [atom_size, atC_size]) ?_)
            | (refine wpList_buildOne rfl (.tmp 45) (by rfl) ⟨y, z1, b2⟩ (by rfl) ?_)
            | (refine wpList_app1 rfl (.tmp 44) (.tmp 46) 28 26 rfl Tryd.underlying28 _ 34 48 atom_info rfl (by decide) w.heap.size (.slice A p.length cA) p.length (p.flatMap atC) rfl (own_below HO.out ((Below.refl _ wr).alloc (Nat.le_refl _) _) (Nat.le_refl _)) ⟨wr.heap.size, 0, none⟩ 1 (atC ⟨y, z1, b2⟩) rfl (atC_len _) (cells_new wr (atC ⟨y, z1, b2⟩) 26) (atC_one _) (by omega) (by decide) (by simp; omega) ?_; intro g2 cap w9 hown9 hbg9 hbel9 hgrow9))
          have hbn := hbel9 w.heap.size (wr.alloc (.cells (atC ⟨y, z1, b2⟩).toArray 26)) (Nat.le_refl _) (Below.refl _ _)
          have hbn2 := ((Below.refl w.heap.size wr).alloc hsz (.cells (atC ⟨y, z1, b2⟩).toArray 26)).trans hbn
          have HB9 : Hid (But g w w9) := HB.out.bel hbn2 hsz
          have HN9 : Hid (Nums w9 g L M2) := nums_keep HNU.out hbn2 hg0
          have HO9 : Hid (OwnE 26 atC 34 w9 w.heap.size (.slice (some ⟨g2, 0, none⟩) (p.length + 1) cap) (p ++ [(At.mk y z1 b2)])) := OwnE.snoc hown9
          have HV9 : Hid (atomsGo L (i - 1) M2 (p ++ [(At.mk y z1 b2)]) = TT) := by
            show _ = _
            have e : T2 = (y, M2) := HT2.out.symm
            have h := HV2.out
            rw [e] at h
            exact h
          clear hown9 hbel9 hgrow9 hbn hbn2 HA HB HNU HO HV2 HT2
          go_wp2_with fail
          go_roundg (i - 1)
          case measure => omega
          case rel => exact ⟨p ++ [(At.mk y z1 b2)], i - 1, M2, by (show Value.int .i64 _ = Value.int .i64 _); congr 1; omega, HO9.out, HB9.out, HN9.out, by simp; omega, by omega, HV9.out, by omega⟩
        | succ k =>
          rw [show ((k + 1 : Nat) : Int) - 1 = (k : Int) by omega]
          have hki : (0 : Int) ≤ (k : Int) := by omega
          have hz8 := nextN_bd L M2 8 (by decide)
          have HC8 := Lib.hid (fun w h => next_any' L g M2 8 w h (by omega) (by decide) (by decide))
          have HT3 : Hid (bitsM L k (M2 + 1) (addP y (ch8 (nextN L M2 8))) = T2) := HT2.out
          clear HT2
          generalize nextN L M2 8 = z8 at hz8 HC8 HT3
          have hz8s : z8 < ((⟨#[97, 98, 32, 46, 33, 65, 49, 60]⟩ : ByteArray).size : Int) := hz8.2
          have hz80 := hz8.1
          obtain ⟨cb, HCE, HCB⟩ : ∃ cb : Nat, Hid (ch8 z8 = cb) ∧ Hid (∀ h, ((⟨#[97, 98, 32, 46, 33, 65, 49, 60]⟩ : ByteArray)[z8.toNat]'h).toNat = cb) := ⟨ch8 z8, rfl, fun h => by
            unfold ch8
            rw [List.getD_eq_getElem?_getD, List.getElem?_eq_getElem h]
            rfl⟩
          rw [HCE.out] at HT3
          clear HCE
          have hlt8 : z8.toNat < (⟨#[97, 98, 32, 46, 33, 65, 49, 60]⟩ : ByteArray).size := by show z8.toNat < 8; omega
          have hcb : cb < 256 := by rw [← HCB.out hlt8]; exact UInt8.toNat_lt _
          go_upto_region 10 with (go_at_call 63; refine (HC8.out _ HNU.out).mono ?_; rintro e w6 ⟨rfl, hb6, hn6⟩)
          have HA6 := Lib.hid (HA.out.keep (hb6.block _ HA.out.lt (by omega)))
          have HB6 := Lib.hid (HB.out.trans hb6)
          have HN6 := Lib.hid hn6
          have HO6 : Hid (OwnE 26 atC 34 w6 w.heap.size (.slice A p.length cA) p) := own_same HO.out fun k hk => by
            have h1 := HO.out.lt k hk
            exact hb6.block k h1.2 (by omega)
          clear HA HB HNU HO hb6 hn6 HC8
          rw [HCB.out]
          clear HCB hlt8 hz8s hz80 hz8
          have q1 : w6.cell? ⟨q, cb / 8, none⟩ = some (.int .u8 (byteOf y (cb / 8) : Nat)) := by
            rw [cell_of_row _ _ _ _ _ _ HA6.out]
            simpa using atC_set ⟨y, z1, b2⟩ (cb / 8) (by omega)
          have qf := HA6.out.free (cb / 8)
          have ha := add_byte y cb
          rw [← pow_small (cb % 8) (Nat.mod_lt _ (by decide))] at ha
          have HAB := Lib.hid ha
          clear ha
          have HA7 := Lib.hid (HA6.out.setSet (addP y cb) (cb / 8) (by omega) fun i _ hi => add_other y cb i hi)
          have hv := byteOf_lt y (cb / 8)
          generalize byteOf y (cb / 8) = v at q1 HAB hv
          have HB7 : Hid (But g w (w6.setCell ⟨q, cb / 8, none⟩ (.int .u8 (byteOf (addP y cb) (cb / 8) : Nat)))) := HB6.out.bel ((Below.refl w.heap.size w6).setCell (p := ⟨q, cb / 8, none⟩) hww _) HB6.out.size
          have HN7 : Hid (Nums (w6.setCell ⟨q, cb / 8, none⟩ (.int .u8 (byteOf (addP y cb) (cb / 8) : Nat))) g L (M2 + 1)) := nums_keep (B := q) HN6.out ((Below.refl q w6).setCell (p := ⟨q, cb / 8, none⟩) (Nat.le_refl _) _) hgg
          have HO7 : Hid (OwnE 26 atC 34 (w6.setCell ⟨q, cb / 8, none⟩ (.int .u8 (byteOf (addP y cb) (cb / 8) : Nat))) w.heap.size (.slice A p.length cA) p) := own_setAt HO6.out HOG.out _ _
          clear HA6 HB6 HN6 HO6
          go_wp2_with fail

          rw [HAB.out]
          go_roundg k
          case measure => omega
          case rel => exact ⟨k, addP y cb, M2 + 1, rfl, by omega, HA7.out, HB7.out, HN7.out, by omega, HO7.out, HT3.out, Nat.le_refl _⟩
    · obtain rfl : i = 0 := by omega
      go_wp2_with fail
      have e : TT = (p, M) := HV.out.symm
      rw [HTR.out, e]
      exact ⟨_, rfl, HO.out, HB.out, HNU.out⟩

end Go.Proofs.YtpboaadjbkaidaaDoor

namespace Go.Proofs.YtpboaadjbkaidaaDoor
set_option maxRecDepth 100000
open Go.RowKit

/-- Rules under way; ys: the row's cells; X: other blocks that may change. -/
structure RS (eR : TypeId) (X : List Nat) (B : Nat) (w : World) (v : Value) (rs : List Ru) (ys : List RuV) : Prop where
  own : OwnE eR ruC 3 w B v ys
  len : ys.length = rs.length
  each : ∀ (j : Nat) (y : RuV) (r : Ru), ys[j]? = some y → rs[j]? = some r → y.b = r.br ∧ Keep (X ++ blkL v) w fun u => RdE atC 34 u y.u.v r.bf ∧ RdE atC 34 u y.t.v r.af
  below : ∀ b ∈ X, b < B
section
variable {eR : TypeId} {X : List Nat} {B : Nat} {w w' : World} {v v' : Value} {rs : List Ru} {ys : List RuV}
theorem RS.start (hX : ∀ b ∈ X, b < B) : RS eR X B w (.slice none 0 0) [] [] where
  own := OwnE.nil
  len := rfl
  each := fun _ _ _ h => by simp at h
  below := hX
theorem RS.rd (h : RS eR X B w v rs ys) : RdRu w v rs :=
  ⟨ys, h.own.rd ruC_len, h.len, fun i y r hy hr => ⟨(h.each i y r hy hr).1, (h.each i y r hy hr).2.now.1, (h.each i y r hy hr).2.now.2⟩⟩
/-- The world turns, but for the row's block and X. -/
theorem RS.keep (h : RS eR X B w v rs ys) (hs : w.heap.size ≤ w'.heap.size) (hk : ∀ b, b < w.heap.size → b ∉ X → w'.heap[b]? = w.heap[b]?) : RS eR X B w' v rs ys where
  own := own_same h.own fun k hk2 => hk k (h.own.lt k hk2).2 (fun hX => by have := h.below k hX; have := (h.own.lt k hk2).1; omega)
  len := h.len
  each := fun i y r hy hr => ⟨(h.each i y r hy hr).1, (h.each i y r hy hr).2.step hs fun b hb hX => ⟨hk b hb (fun e => hX (List.mem_append_left _ e)), hX⟩⟩
  below := h.below
/-- A rule more. -/
theorem RS.push (h : RS eR X B w v rs ys) (hB : B ≤ w.heap.size) (r : Ru) (y : RuV) (hy : y.b = r.br) (hk : Keep (X ++ blkL v) w fun u => RdE atC 34 u y.u.v r.bf ∧ RdE atC 34 u y.t.v r.af)
    (hown : OwnE eR ruC 3 w' B v' (ys ++ [y])) (hg : w.grownBy w' v.ownBlock) (hat : v'.ownBlock = v.ownBlock ∨ v'.ownBlock = some w.heap.size) : RS eR X B w' v' (rs ++ [r]) (ys ++ [y]) := by
  have hnew : ∀ b, b < w.heap.size → b ∉ X ++ blkL v → w'.heap[b]? = w.heap[b]? ∧ b ∉ X ++ blkL v' := fun b hb hX => by
    have h2 : v.ownBlock ≠ some b := fun e => hX (List.mem_append_right _ (mem_blkL.2 e))
    refine ⟨hg.block b hb (fun e => h2 e.symm), fun hm => ?_⟩
    rcases List.mem_append.1 hm with hm | hm
    · exact hX (List.mem_append_left _ hm)
    · have h3 := mem_blkL.1 hm
      rcases hat with e | e
      · exact h2 (e ▸ h3)
      · rw [e] at h3; injection h3 with h3; omega
  refine ⟨hown, by simp [h.len], fun j q p hq hp => ?_, h.below⟩
  by_cases hj : j < ys.length
  · rw [List.getElem?_append_left hj] at hq
    rw [List.getElem?_append_left (by rw [← h.len]; exact hj)] at hp
    exact ⟨(h.each j q p hq hp).1, (h.each j q p hq hp).2.step hg.size hnew⟩
  · have hj2 : j < ys.length + 1 := by have := (List.getElem?_eq_some_iff.1 hq).1; simpa using this
    obtain rfl : j = ys.length := by omega
    rw [List.getElem?_append_right (Nat.le_refl _), Nat.sub_self] at hq
    rw [List.getElem?_append_right (by rw [h.len]; exact Nat.le_refl _), h.len, Nat.sub_self] at hp
    obtain rfl : y = q := by simpa using hq
    obtain rfl : r = p := by simpa using hp
    exact ⟨hy, hk.step hg.size hnew⟩
end

end Go.Proofs.YtpboaadjbkaidaaDoor

namespace Go.Proofs
set_option maxRecDepth 100000
open Go.Shelf
def Tryd.lays145_ren : Go.Shelf.Ren := ⟨fun | 145 => 52 | 220 => 85 | 219 => 100 | 217 => 106 | 225 => 107 | 224 => 108 | 267 => 109 | 266 => 115 | 314 => 116 | n => n, fun | 9 => 9 | 4 => 4 | 59 => 89 | 3 => 3 | 5 => 5 | 46 => 71 | 146 => 130 | 51 => 129 | n => n, fun | 1 => 0 | n => n⟩
theorem Tryd.lays145 : Go.Proofs.Lays.n145 Tryd.prog Tryd.lays145_ren := {
  mixed := by kernel_rfl
  f145 := Tryd.func52.trans (congrArg some (by kernel_rfl))
  f217 := Tryd.func106.trans (congrArg some (by kernel_rfl))
  f219 := Tryd.func100.trans (congrArg some (by kernel_rfl))
  f220 := Tryd.func85.trans (congrArg some (by kernel_rfl))
  f224 := Tryd.func108.trans (congrArg some (by kernel_rfl))
  f225 := Tryd.func107.trans (congrArg some (by kernel_rfl))
  f266 := Tryd.func115.trans (congrArg some (by kernel_rfl))
  f267 := Tryd.func109.trans (congrArg some (by kernel_rfl))
  f314 := Tryd.func116.trans (congrArg some (by kernel_rfl))
  t3 := Tryd.underlying3
  a3 := Tryd.isAgg3
  z3 := Tryd.sizeOf3
  v3 := Tryd.zeroValue3
  t4 := Tryd.underlying4
  a4 := Tryd.isAgg4
  z4 := Tryd.sizeOf4
  v4 := Tryd.zeroValue4
  t5 := Tryd.underlying5
  a5 := Tryd.isAgg5
  z5 := Tryd.sizeOf5
  v5 := Tryd.zeroValue5
  t9 := Tryd.underlying9
  a9 := Tryd.isAgg9
  z9 := Tryd.sizeOf9
  v9 := Tryd.zeroValue9
  t46 := Tryd.underlying71
  a46 := Tryd.isAgg71
  z46 := Tryd.sizeOf71
  v46 := Tryd.zeroValue71
  t51 := Tryd.underlying129
  a51 := Tryd.isAgg129
  z51 := Tryd.sizeOf129
  v51 := Tryd.zeroValue129
  t59 := Tryd.underlying89
  a59 := Tryd.isAgg89
  z59 := Tryd.sizeOf89
  v59 := Tryd.zeroValue89
  t146 := Tryd.underlying130
  a146 := Tryd.isAgg130
  z146 := Tryd.sizeOf130
  v146 := Tryd.zeroValue130
  g1 := by kernel_rfl }
open Go.RowKit Go.Lib in
/-- strings.Cut: "Cut slices s around the first instance of sep, returning the text before and after sep. The found result reports whether sep appears in s. If sep does not appear in s, cut returns s, "", false.": IT RETURNS 'Lib.cut s sep'; the world is as it was but for the count of draws. (LAID: no walk: one application.) -/
theorem Tryd.strings_Cut (s sep : ByteArray) (m : Int) (w : World) (hs : s.size < 4294967281) (hm : w.cell? ⟨0, 0, none⟩ = some (.int .i64 m)) :
    Calls Tryd.prog 52 #[.string s, .string sep] w fun e w' => e = .returned (.tuple #[.string ⟨(Lib.cut s.data.toList sep.data.toList).1.toArray⟩, .string ⟨(Lib.cut s.data.toList sep.data.toList).2.1.toArray⟩, .bool (Lib.cut s.data.toList sep.data.toList).2.2]) ∧ ∃ n, w' = w.drewN n := Any.strings_Cut Tryd.lays145 s sep m w hs hm
def Tryd.lays146_ren : Go.Shelf.Ren := ⟨fun | 146 => 86 | 221 => 101 | 268 => 110 | 138 => 111 | 143 => 112 | 195 => 117 | 197 => 118 | 218 => 119 | 219 => 100 | 260 => 126 | 217 => 106 | 225 => 107 | 224 => 108 | 267 => 109 | 266 => 115 | 314 => 116 | n => n, fun | 9 => 9 | 31 => 68 | 3 => 3 | 4 => 4 | 0 => 0 | 105 => 133 | 21 => 21 | 5 => 5 | 46 => 71 | 119 => 153 | 139 => 156 | 138 => 155 | 146 => 130 | 51 => 129 | n => n, fun | 1 => 0 | 3 => 1 | 4 => 2 | n => n⟩
theorem Tryd.lays146 : Go.Proofs.Lays.n146 Tryd.prog Tryd.lays146_ren := {
  mixed := by kernel_rfl
  f138 := Tryd.func111.trans (congrArg some (by kernel_rfl))
  f143 := Tryd.func112.trans (congrArg some (by kernel_rfl))
  f146 := Tryd.func86.trans (congrArg some (by kernel_rfl))
  f195 := Tryd.func117.trans (congrArg some (by kernel_rfl))
  f197 := Tryd.func118.trans (congrArg some (by kernel_rfl))
  f217 := Tryd.func106.trans (congrArg some (by kernel_rfl))
  f218 := Tryd.func119.trans (congrArg some (by kernel_rfl))
  f219 := Tryd.func100.trans (congrArg some (by kernel_rfl))
  f221 := Tryd.func101.trans (congrArg some (by kernel_rfl))
  f224 := Tryd.func108.trans (congrArg some (by kernel_rfl))
  f225 := Tryd.func107.trans (congrArg some (by kernel_rfl))
  f260 := Tryd.func126.trans (congrArg some (by kernel_rfl))
  f266 := Tryd.func115.trans (congrArg some (by kernel_rfl))
  f267 := Tryd.func109.trans (congrArg some (by kernel_rfl))
  f268 := Tryd.func110.trans (congrArg some (by kernel_rfl))
  f314 := Tryd.func116.trans (congrArg some (by kernel_rfl))
  t0 := Tryd.underlying0
  a0 := Tryd.isAgg0
  z0 := Tryd.sizeOf0
  v0 := Tryd.zeroValue0
  t3 := Tryd.underlying3
  a3 := Tryd.isAgg3
  z3 := Tryd.sizeOf3
  v3 := Tryd.zeroValue3
  t4 := Tryd.underlying4
  a4 := Tryd.isAgg4
  z4 := Tryd.sizeOf4
  v4 := Tryd.zeroValue4
  t5 := Tryd.underlying5
  a5 := Tryd.isAgg5
  z5 := Tryd.sizeOf5
  v5 := Tryd.zeroValue5
  t9 := Tryd.underlying9
  a9 := Tryd.isAgg9
  z9 := Tryd.sizeOf9
  v9 := Tryd.zeroValue9
  t21 := Tryd.underlying21
  a21 := Tryd.isAgg21
  z21 := Tryd.sizeOf21
  v21 := Tryd.zeroValue21
  t31 := Tryd.underlying68
  a31 := Tryd.isAgg68
  z31 := Tryd.sizeOf68
  v31 := Tryd.zeroValue68
  t46 := Tryd.underlying71
  a46 := Tryd.isAgg71
  z46 := Tryd.sizeOf71
  v46 := Tryd.zeroValue71
  t51 := Tryd.underlying129
  a51 := Tryd.isAgg129
  z51 := Tryd.sizeOf129
  v51 := Tryd.zeroValue129
  t105 := Tryd.underlying133
  a105 := Tryd.isAgg133
  z105 := Tryd.sizeOf133
  v105 := Tryd.zeroValue133
  t119 := Tryd.underlying153
  a119 := Tryd.isAgg153
  z119 := Tryd.sizeOf153
  t138 := Tryd.underlying155
  a138 := Tryd.isAgg155
  z138 := Tryd.sizeOf155
  v138 := Tryd.zeroValue155
  t139 := Tryd.underlying156
  a139 := Tryd.isAgg156
  z139 := Tryd.sizeOf156
  v139 := Tryd.zeroValue156
  t146 := Tryd.underlying130
  a146 := Tryd.isAgg130
  z146 := Tryd.sizeOf130
  v146 := Tryd.zeroValue130
  g1 := by kernel_rfl
  g3 := by kernel_rfl
  g4 := by kernel_rfl }
open Go.RowKit Go.Lib in
/-- strings.Split. (LAID: no walk: one application.) -/
theorem Tryd.strings_Split (s sep : ByteArray) (m : Int) (w : World) (hs : s.size < 4294967281) (hm : w.cell? ⟨0, 0, none⟩ = some (.int .i64 m)) (h1 : 1 ≤ sep.size) :
    Calls Tryd.prog 86 #[.string s, .string sep] w fun e w' =>
      e = .returned (.slice (some ⟨w.heap.size, 0, none⟩) (Lib.countB s sep + 1) (Lib.countB s sep + 1)) ∧ w' = w.alloc (.cells ((Lib.splitB sep 0 (Lib.countB s sep) s).map Value.string).toArray 9) := Any.strings_Split Tryd.lays146 (by kernel_rfl) s sep m w hs hm h1
end Go.Proofs

namespace Go.Proofs.YtpboaadjbkaidaaDoor
set_option maxRecDepth 100000
open Go.ChangeShapes Go.WideShapes Go.ChangeAt Go.RowKit

theorem returnsInHanded_both {H : Type} {enc : TypeId × Value → H} {a : Assume} {C : Checked} {os : Os} {f : FuncId} {fn : Func} {s : ChangeSpec} {conds : List PathCond} {apart fresh handsOn again : Bool} {X : World → Array Value → Prop}
    (hX : ∀ (w w' : World) (args : Array Value), w.heap = w'.heap → X w args → X w' args)
    (own : ownKnob C.prog.godebug = none) (started : os.Started) (noInit : C.prog.inits.idxOf? f = none) (hfn : C.prog.funcs[f]? = some fn)
    (witness : ∃ (w : World) (tape : Tape) (i : Input), w.os = os ∧ (w.forCall tape i).Shaped C.prog ∧ i.vars = [] ∧ Input.okWide C.prog (w.forCall tape i) .any w.heap.size f i ∧
      ((s.pre enc C.prog fn conds apart (w.forCall tape i).memory i.args ∧ X (w.forCall tape i).memory i.args) ∧ sizedMet enc C.prog fn (OpenSpec.ofChange s) apart (w.forCall tape i).memory i.args) ∧ a.holds C.prog (lone (Frame.enter C.prog f i.args .normal) [] (w.forCall tape i)))
    (contract : ∀ (W : World) (base : Nat) (args : Array Value) (ds gs : List (DataW H)) (before : List MemPlace),
      (∀ (j : Nat) t v, fn.params[j]? = some t → args[j]? = some v → Value.okWide C.prog W .any base t v) →
      DataW.Whole enc C.prog fn.params.toList s.vars apart W args.toList ds gs before →
      conds.all (PathCond.test C.prog ⟨fn.params.toList, ds, s.plain.varTypes C.prog, gs⟩) = true →
      (DataW.weightsEach C.prog (fn.params.toList ++ s.plain.varTypes C.prog) (ds ++ gs)).all (· ≤ reachBytes) = true → W.ShapedOpen C.prog → X W args →
      a.holds C.prog (lone (Frame.enter C.prog f args .normal) [] W) →
      Calls C.prog f args W fun e W' => ∃ v, e = .returned v ∧ s.post enc C.prog fn apart fresh handsOn again W args v W') :
    ReturnsInHanded a C os f .any (fun w args => (s.pre enc C.prog fn conds apart w args ∧ X w args) ∧ sizedMet enc C.prog fn (OpenSpec.ofChange s) apart w args) (s.post enc C.prog fn apart fresh handsOn again) := by
  refine returnsInHanded_of_calls own started noInit witness ?_
  intro w tape i _ hsh _ hok hpre hholds
  obtain ⟨_, _, _, fn', hfn', _, _, _, _, hval⟩ := hok
  have e : fn' = fn := Option.some.inj (hfn'.symm.trans hfn)
  subst e
  obtain ⟨⟨⟨ds, gs, before, hw, hc⟩, hx⟩, hz⟩ := hpre
  have hw' := DataW.Whole.of_heap (w' := w.forCall tape i) (by rfl) hw
  refine (contract (w.forCall tape i) w.heap.size i.args ds gs before hval hw' hc (hz.weights hw) hsh (hX _ _ _ (by rfl) hx) hholds).mono fun e W' ⟨v, he, hp⟩ => ?_
  subst he
  exact ChangeSpec.post_blind hp

/-- The cell of the library's own variable holds some number. -/
def Got (w : World) : Prop := ∃ m, w.cell? ⟨0, 0, none⟩ = some (.int .i64 m)
theorem got_of {W : World} (h : W.ShapedOpen Tryd.prog) : Got W :=
  cell_of_shapedOpen_int (zero := #[.int .i64 0]) (t := 3) h (of_decide_eq_true (by kernel_rfl)) (by kernel_rfl) rfl (by kernel_rfl) (by kernel_rfl) Tryd.underlying3

end Go.Proofs.YtpboaadjbkaidaaDoor

namespace Go.Proofs.YtpboaadjbkaidaaDoor
set_option maxRecDepth 100000
open Go.RowKit

def strC (s : ByteArray) : List Value := [.string s]
theorem strC_one (s : ByteArray) : ∀ u ∈ strC s, u.oneCell' = true := by
  intro u hu
  simp [strC] at hu
  subst hu
  rfl
theorem string_info : (Tryd.prog.info? 9).map (fun i => (i.zero, i.size, i.bytes)) = some (some (.string ByteArray.empty), 1, 16) := by kernel_rfl
theorem table_size : (Tryd.prog.info? 46).map (·.size) = some 3 := by kernel_rfl
theorem tbC_oneA (x : TbV) : (tbC x).toArray.all (·.oneCell') = true := by
  rw [Array.all_eq_true_iff_forall_mem]
  intro v hv
  exact tbC_one x v (List.mem_toArray.1 hv)
/-- The words of a line. -/
def wordsB (s : ByteArray) : List ByteArray := (wordsL s.data.toList).map ofL
theorem map_ofL (l : List ByteArray) : (l.map (·.data.toList)).map ofL = l := by
  rw [List.map_map]
  refine (List.map_congr_left fun x _ => ?_).trans (List.map_id l)
  exact ofL_of x
theorem pieces_words (s : ByteArray) : (Lib.splitB (⟨#[32]⟩ : ByteArray) 0 (Lib.countB s (⟨#[32]⟩ : ByteArray)) s).filter (fun x => x.data.toList ≠ []) = wordsB s := by
  have h1 := Lib.splitB_data (⟨#[32]⟩ : ByteArray) 0 (Lib.countB s (⟨#[32]⟩ : ByteArray)) s
  have h2 : Lib.countB s (⟨#[32]⟩ : ByteArray) = s.data.toList.count 32 := Lib.count_one 32 _
  have h3 := split_words (Lib.countB s (⟨#[32]⟩ : ByteArray)) s.data.toList h2.symm
  unfold wordsB
  rw [← h3]
  have h4 : ((⟨#[32]⟩ : ByteArray)).data.toList = [32] := rfl
  rw [h4] at h1
  rw [← h1, List.filter_map, map_ofL]
  rfl
def RetWords (w : World) (s : ByteArray) (e : Ending) (w' : World) : Prop := ∃ v, e = .returned v ∧ OwnE 9 strC 1 w' w.heap.size v (wordsB s) ∧ Below w.heap.size w w'
/-- The first table with a name. -/
def findF : List Tb → ByteArray → Nat → Int
  | [], _, _ => -1
  | t :: ts, nm, k => if (t.nm.toList == nm.toList) = true then (k : Int) else findF ts nm (k + 1)
def RetSide (w : World) (s : ByteArray) (e : Ending) (w' : World) : Prop := ∃ v x, e = .returned (.tuple #[v, .int .i64 x]) ∧ x = (sideF s.data.toList).2 ∧ OwnE 26 atC 34 w' w.heap.size v (sideF s.data.toList).1 ∧ Below w.heap.size w w'

set_option maxRecDepth 100000 in
set_option maxHeartbeats 4000000 in
theorem words_any (s : ByteArray) (w : World) (hs : s.size < 4294967281) (hg : Got w) : Calls Tryd.prog 53 #[.string s] w (RetWords w s) := by
  obtain ⟨R, HRR⟩ : ∃ R, Hid (R = RetWords w s) := ⟨_, rfl⟩
  rw [← HRR.out]
  obtain ⟨m, hm⟩ := hg
  have HSP := Lib.hid (Tryd.strings_Split s (⟨#[32]⟩ : ByteArray) m w hs hm (by decide))
  have hPn := Lib.splitB_all (⟨#[32]⟩ : ByteArray) (by decide) 0 (Lib.countB s (⟨#[32]⟩ : ByteArray)) s rfl
  have hPw : Hid ((Lib.splitB (⟨#[32]⟩ : ByteArray) 0 (Lib.countB s (⟨#[32]⟩ : ByteArray)) s).filter (fun x => x.data.toList ≠ []) = wordsB s) := pieces_words s
  have hcb : Lib.countB s (⟨#[32]⟩ : ByteArray) ≤ s.size := Lib.countB_le (⟨#[32]⟩ : ByteArray) (by decide) s.size s (Nat.le_refl _)
  generalize Lib.splitB (⟨#[32]⟩ : ByteArray) 0 (Lib.countB s (⟨#[32]⟩ : ByteArray)) s = P at HSP hPn hPw
  generalize Lib.countB s (⟨#[32]⟩ : ByteArray) = n at HSP hPn hcb
  obtain ⟨N, hN⟩ : ∃ N, N = n + 1 := ⟨_, rfl⟩
  rw [← hN] at HSP hPn
  have hcast : ((n + 1 : Nat) : Int) = (n : Int) + 1 := by omega
  go_enter Tryd.func53, Tryd.ntmps53
  go_upto_region 3 with (go_at_call 86; refine HSP.out.mono ?_; rintro e w' ⟨rfl, rfl⟩)
  have HP : Hid (∀ k p, P[k]? = some p → (w.alloc (.cells (P.map Value.string).toArray 9)).cell? ⟨w.heap.size, k, none⟩ = some (.string p)) := fun k p hk => by
    have := cells_new w (P.map Value.string) 9 k (.string p) (by rw [List.getElem?_map, hk]; rfl)
    rw [Addr.add_lit, Nat.zero_add] at this
    exact this
  have hz1 : (w.alloc (.cells (P.map Value.string).toArray 9)).heap.size = w.heap.size + 1 := by simp
  have HB1 := Lib.hid ((Below.refl w.heap.size w).alloc (Nat.le_refl _) (.cells (P.map Value.string).toArray 9))
  generalize w.alloc (.cells (P.map Value.string).toArray 9) = w1 at HP hz1 HB1 ⊢
  clear HSP
  go_wp2_with fail
  obtain ⟨wo, HWO⟩ : ∃ wo, Hid (wo = w1) := ⟨w1, rfl⟩
  go_loopg [3, 9] N (fun gk ov kv wr => ∃ (k : Nat) (q : List ByteArray) (A : Option Addr) (c : Nat), ov = .slice A q.length c ∧ kv = .int .i64 k ∧ k ≤ N ∧ Hid (q = (P.take k).filter (fun x => x.data.toList ≠ [])) ∧ Hid (OwnE 9 strC 1 wr w1.heap.size (.slice A q.length c) q) ∧ Hid (Below w1.heap.size w1 wr) ∧ q.length ≤ k ∧ N - k ≤ gk)
  case atStart => exact ⟨0, [], none, 0, rfl, rfl, by omega, rfl, OwnE.nil, Below.refl _ _, Nat.le_refl _, by omega⟩
  case round =>
    obtain ⟨k, q, A, c, rfl, rfl, hk, HQ, HO, HB, hqk, hgk⟩ := hrel
    by_cases hkl : k < N
    · have hki : (k : Int) < (N : Int) := by omega
      have hk0 : (0 : Int) ≤ (k : Int) := by omega
      have hPk : k < P.length := by omega
      have q0 := (HB.out.cell (p := ⟨w.heap.size, k, none⟩) (show w.heap.size < w1.heap.size by omega)).trans (HP.out k _ (List.getElem?_eq_getElem hPk))
      have HQ2 : Hid ((P.take (k + 1)).filter (fun x => x.data.toList ≠ []) = q ++ if P[k].data.toList ≠ [] then [P[k]] else []) := by
        show _ = _
        rw [List.take_succ_eq_append_getElem hPk, List.filter_append, ← HQ.out]
        congr 1
        by_cases h : P[k].data.toList ≠ []
        · rw [if_pos h, List.filter_cons_of_pos (by simpa using h)]; rfl
        · rw [if_neg h, List.filter_cons_of_neg (by simpa using h)]; rfl
      generalize P[k] = p at q0 HQ2
      have hsz := HB.out.size
      by_cases hp : p.data.toList = []
      · have t1 : (p.toList != []) = false := by rw [toList_eq_data, hp]; rfl
        have t2 : (p.toList == []) = true := by rw [toList_eq_data, hp]; rfl
        rw [if_neg (not_not_intro hp), List.append_nil] at HQ2
        clear hp
        go_wp2_with fail
        go_roundg (N - (k + 1))
        case measure => omega
        case rel => exact ⟨k + 1, q, A, c, rfl, by go_num, by omega, HQ2.out.symm, HO.out, HB.out, by omega, Nat.le_refl _⟩
      · have t1 : (p.toList != []) = true := by rw [toList_eq_data]; exact bne_iff_ne.2 hp
        have t2 : (p.toList == []) = false := by rw [toList_eq_data]; exact beq_eq_false_iff_ne.2 hp
        rw [if_pos hp] at HQ2
        clear hp
        go_wp2_with (at_builtin; go_must (refine wpList_app1 rfl (.tmp 15) (.tmp 17) 68 9 rfl Tryd.underlying68 _ 1 16 string_info rfl (by decide) w1.heap.size (.slice A q.length c) q.length (q.flatMap strC) rfl (own_below HO.out ((Below.refl _ wr).alloc (Nat.le_refl _) _) (Nat.le_refl _)) ⟨wr.heap.size, 0, none⟩ 1 (strC p) rfl rfl (cells_new wr (strC p) 9) (strC_one p) (by omega) (by decide) (by simp; omega) ?_); intro g2 cap w9 hown9 hbg9 hbel9 hgrow9)
        have hbn := hbel9 w1.heap.size (wr.alloc (.cells (strC p).toArray 9)) (Nat.le_refl _) (Below.refl _ _)
        have HB9 := Lib.hid ((HB.out.alloc hsz (.cells (strC p).toArray 9)).trans hbn)
        have HO9 : Hid (OwnE 9 strC 1 w9 w1.heap.size (.slice (some ⟨g2, 0, none⟩) (q.length + 1) cap) (q ++ [p])) := OwnE.snoc hown9
        clear hown9 hbel9 hgrow9 hbn
        go_wp2_with fail
        go_roundg (N - (k + 1))
        case measure => omega
        case rel => exact ⟨k + 1, q ++ [p], some ⟨g2, 0, none⟩, cap, by (show Value.slice _ _ _ = Value.slice _ _ _); rw [List.length_append]; rfl, by go_num, by omega, HQ2.out.symm, by (show OwnE _ _ _ _ _ _ _); rw [List.length_append]; exact HO9.out, HB9.out, by rw [List.length_append]; show q.length + 1 ≤ k + 1; omega, Nat.le_refl _⟩
    · obtain rfl : k = N := by omega
      have hki : ¬ (k : Int) < (k : Int) := by omega
      have e : q = wordsB s := by
        rw [HQ.out, ← hPw.out, List.take_of_length_le (by omega)]
      go_wp2_with fail
      rw [HRR.out]
      refine ⟨_, rfl, ?_, HB1.out.trans (HB.out.mono HB1.out.size)⟩
      have h := own_base HO.out HB1.out.size
      rw [e] at h
      exact h

set_option maxRecDepth 100000 in
set_option maxHeartbeats 4000000 in
theorem find_any (ts : List Tb) (v : Value) (nm : ByteArray) (w : World) (ht : RdTb w v ts) (hl : ts.length ≤ 1000000) :
    Calls Tryd.prog 74 #[v, .string nm] w fun e w' => e = .returned (.int .i64 (findF ts nm 0)) ∧ Below w.heap.size w w' := by
  obtain ⟨xs, hx0, hxl, hx⟩ := ht
  have hxa : xs.length ≤ ts.length := Nat.le_of_eq hxl
  have hxb : ts.length ≤ xs.length := Nat.le_of_eq hxl.symm
  clear hxl
  obtain ⟨A, c, rfl, hlc, _⟩ := hx0.shape
  have HX := Lib.hid hx0
  have HI : Hid (∀ (i : Nat) (x : TbV) (t : Tb), xs[i]? = some x → ts[i]? = some t → x.nm = t.nm) := fun i x t h1 h2 => (hx i x t h1 h2).1
  clear hx0 hx
  obtain ⟨V, HV⟩ : ∃ V, Hid (V = findF ts nm 0) := ⟨_, rfl⟩
  rw [← HV.out]
  have hu := Tryd.underlying46
  have hi : (Tryd.prog.info? 46).map (·.size) = some 3 := table_size
  go_enter Tryd.func74, Tryd.ntmps74
  go_wp2_with fail
  obtain ⟨wo, HWO⟩ : ∃ wo, Hid (wo = w) := ⟨w, rfl⟩
  go_loopg [9] xs.length (fun gk kv wr => ∃ k : Nat, kv = .int .i64 k ∧ k ≤ xs.length ∧ Hid (findF (ts.drop k) nm k = V) ∧ Hid (Below w.heap.size w wr) ∧ xs.length - k ≤ gk)
  case atStart => exact ⟨0, rfl, by omega, by (show _ = _); rw [List.drop_zero, HV.out], Below.refl _ _, by omega⟩
  case round =>
    obtain ⟨k, rfl, hk, HF, HB, hgk⟩ := hrel
    by_cases hkl : k < xs.length
    · have hki : (k : Int) < (xs.length : Int) := by omega
      have hk0 : (0 : Int) ≤ (k : Int) := by omega
      obtain ⟨b, o, rfl, hbl, hcell⟩ := HX.out.cells (by omega)
      have hxk : xs[k]? = some xs[k] := List.getElem?_eq_getElem hkl
      have htk : ts[k]? = some (ts[k]'(by omega)) := List.getElem?_eq_getElem (by omega)
      have hrg : wr.rangeAt b (o + k * 3) (tbC xs[k]) := fun j v hj => by
        rw [Nat.add_assoc]
        exact (HB.out.cell (p := ⟨b, o + (k * 3 + j), none⟩) hbl).trans (hcell k _ j v hxk hj)
      have hnm := HI.out k _ _ hxk htk
      have HF2 : Hid ((if (xs[k].nm.toList == nm.toList) = true then (k : Int) else findF (ts.drop (k + 1)) nm (k + 1)) = V) := by
        show _ = _
        have h := HF.out
        rw [List.drop_eq_getElem_cons (show k < ts.length by omega), findF] at h
        rw [hnm]
        exact h
      clear hcell hxk htk hnm HF
      generalize xs[k] = x at hrg HF2
      have hz := HB.out.size
      have HA1 : Hid ((((wr.alloc (.cells #[.string ⟨#[]⟩, .string ⟨#[]⟩, .slice none 0 0] 46)).setRow wr.heap.size (tbC x).toArray)).heap[wr.heap.size]? = some (.cells (tbC x).toArray 46)) := setRow_heap _ _ _ _ _ _ (heap_alloc_new wr _)
      have HB1 : Hid (Below w.heap.size w ((wr.alloc (.cells #[.string ⟨#[]⟩, .string ⟨#[]⟩, .slice none 0 0] 46)).setRow wr.heap.size (tbC x).toArray)) := below_setRow (HB.out.alloc hz _) hz _
      go_upto_region 4 with (first
        | (refine wpList_load_mid rfl 46 (.tmp 12) rfl b (o + k * 3) rfl (tbC x) _ hrg hu rfl (by rw [hi]; rfl) ?_)
        | (refine wpList_store_row rfl 46 (.tmp 6) (.tmp 13) rfl (wr.heap.size) (tbC x).toArray rfl rfl 46 _ (heap_alloc_new wr _) (by rw [table_size]; rfl) rfl (tbC_oneA x) ?_))
      clear HB hrg
      generalize hg3 : wr.heap.size = g3 at HA1 HB1 hz ⊢
      generalize (wr.alloc (.cells #[.string ⟨#[]⟩, .string ⟨#[]⟩, .slice none 0 0] 46)).setRow g3 (tbC x).toArray = w2 at HA1 HB1 ⊢
      clear hg3
      have q : w2.cell? ⟨g3, 0, none⟩ = some (.string x.nm) := by rw [cell_of_row _ _ _ _ _ _ HA1.out]; rfl
      by_cases hp : (x.nm.toList == nm.toList) = true
      · rw [if_pos hp] at HF2
        go_wp2_with fail
        go_ret
        exact ⟨ret_int HF2.out, HB1.out⟩
      · have hp2 : (x.nm.toList == nm.toList) = false := by simpa using hp
        rw [if_neg hp] at HF2
        clear hp
        go_wp2_with fail
        go_roundg (xs.length - (k + 1))
        case measure => omega
        case rel => exact ⟨k + 1, by go_num, by omega, HF2.out, HB1.out, Nat.le_refl _⟩
    · obtain rfl : k = xs.length := by omega
      have hki : ¬ (xs.length : Int) < (xs.length : Int) := by omega
      have HF2 : Hid (V = -1) := by
        show _ = _
        rw [← HF.out, List.drop_eq_nil_of_le (by omega)]
        rfl
      go_wp2_with fail
      go_ret
      exact ⟨ret_int HF2.out.symm, HB.out⟩

set_option maxRecDepth 100000 in
set_option maxHeartbeats 4000000 in
theorem side_any (s : ByteArray) (w : World) (hs : s.size ≤ 2147483648) : Calls Tryd.prog 102 #[.string s] w (RetSide w s) := by
  obtain ⟨R, HRR⟩ : ∃ R, Hid (R = RetSide w s) := ⟨_, rfl⟩
  rw [← HRR.out]
  have HPA := Lib.hid (parse_any w s hs)
  by_cases h : s.data.toList = [45]
  · have t1 : (s.toList == [45]) = true := by rw [toList_eq_data, h]; rfl
    have e : sideF s.data.toList = ([], 0) := by unfold sideF; rw [if_pos h]
    clear h
    go_enter Tryd.func102, Tryd.ntmps102
    go_wp2_with fail
    rw [HRR.out]
    exact ⟨_, _, rfl, by rw [e], by rw [e]; exact OwnE.nil, Below.refl _ _⟩
  · have t1 : (s.toList == [45]) = false := by rw [toList_eq_data]; exact beq_eq_false_iff_ne.2 h
    have e : sideF s.data.toList = ((parseF s).1, (parseF s).2.2) := by unfold sideF; rw [if_neg h, ofL_of]
    clear h
    go_enter Tryd.func102, Tryd.ntmps102
    go_wp2_with (go_at_call 113; refine HPA.out.mono ?_; rintro e w1 ⟨v1, rfl, ho1, hb1⟩)
    rw [HRR.out]
    exact ⟨v1, _, rfl, by rw [e], by rw [e]; exact ho1, hb1⟩

end Go.Proofs.YtpboaadjbkaidaaDoor

namespace Go.Proofs.YtpboaadjbkaidaaDoor
set_option maxRecDepth 100000
open Go.RowKit

theorem isname_any (s : ByteArray) (w : World) (hs : s.size ≤ maxLen) :
    Calls Tryd.prog 58 #[.string s] w fun e w' => e = .returned (.bool (nameL s.data.toList)) ∧ w = w' := by
  unfold maxLen at hs
  have hsz := Lib.size_eq s
  by_cases h1 : s.size < 1
  · have hn := nameL_short s.data.toList (by omega)
    have H := Lib.hid hn
    clear hn hsz
    go_enter Tryd.func58, Tryd.ntmps58
    go_wp2
    go_ret
    exact ⟨ret_bool H.out.symm, rfl⟩
  by_cases h2 : 24 < s.size
  · have hn := nameL_long s.data.toList (by omega)
    have H := Lib.hid hn
    clear hn hsz
    go_enter Tryd.func58, Tryd.ntmps58
    go_wp2
    go_ret
    exact ⟨ret_bool H.out.symm, rfl⟩
  have h0 : 0 < s.size := by omega
  have hg : s.data.toList[0] = s[0] := rfl
  by_cases h3 : headB s[0] = true
  · have hn := nameL_tail s.data.toList (by omega) (by omega) (by rw [hg]; exact h3)
    have H := Lib.hid hn
    have h3' : 97 ≤ s[0].toNat ∧ s[0].toNat ≤ 122 := by simpa [headB] using h3
    obtain ⟨h4, h5⟩ := h3'
    clear hn h3 hg
    have HZ := Lib.hid hsz
    clear hsz
    go_enter Tryd.func58, Tryd.ntmps58
    go_wp2
    go_loop [3] (fun i => ∃ k : Nat, 1 ≤ k ∧ k ≤ s.size ∧ i = .int .i64 k ∧ Hid (nameL s.data.toList = (s.data.toList.drop k).all restB)) (fun i => s.size - (intOf i).toNat)
    case atStart => exact ⟨1, by omega, by omega, rfl, H.out⟩
    case round =>
      obtain ⟨k, hk1, hk, rfl, HR⟩ := hrel
      by_cases hlt : k < s.size
      · have hl : k < s.data.toList.length := by rw [← Lib.size_eq]; exact hlt
        have hst := HR.out.trans (all_drop_step _ _ hl)
        have hgk : s.data.toList[k] = s[k] := rfl
        rw [hgk] at hst
        have HS := Lib.hid hst
        clear hst hgk HR H
        have h255 : s[k].toNat < 256 := s[k].toNat_lt
        go_wp2
        all_goals (try simp only [beq_iff_eq, beq_eq_false_iff_ne, bne_iff_ne, bne_eq_false_iff_eq, ne_eq, Bool.not_eq_true', Bool.not_eq_false', Bool.not_eq_eq_eq_not, Bool.not_true, Bool.not_false, decide_eq_true_eq, decide_eq_false_iff_not, Int.not_lt, Int.not_le] at *)
        all_goals first
          | (refine ⟨⟨k + 1, by omega, by omega, by go_num, ?_⟩, by simp [intOf]; try omega⟩
             have hr : restB s[k] = true := by simp only [restB, decide_eq_true_eq]; omega
             have := HS.out
             rw [hr, Bool.true_and] at this
             exact this)
          | (have hr : restB s[k] = false := by simp only [restB, decide_eq_false_iff_not]; omega
             have := HS.out
             rw [hr, Bool.false_and] at this
             go_ret
             exact ⟨ret_bool this.symm, rfl⟩)
      · have hl : ¬ k < s.data.toList.length := by rw [← Lib.size_eq]; exact hlt
        have hst := HR.out.trans (all_drop_end _ _ hl)
        have HS := Lib.hid hst
        clear hst HR H hl
        go_wp2
        go_ret
        exact ⟨ret_bool HS.out.symm, rfl⟩
  · have h3f : headB s[0] = false := by simpa using h3
    have hn := nameL_head s.data.toList (by omega) (by rw [hg]; exact h3f)
    have H := Lib.hid hn
    have h3' : ¬ (97 ≤ s[0].toNat ∧ s[0].toNat ≤ 122) := by simpa [headB] using h3
    clear hn h3 h3f hg hsz
    have h255 : s[0].toNat < 256 := s[0].toNat_lt
    by_cases h4 : s[0].toNat < 97
    · go_enter Tryd.func58, Tryd.ntmps58
      go_wp2
      go_ret
      exact ⟨ret_bool H.out.symm, rfl⟩
    · have h5 : 122 < s[0].toNat := by omega
      clear h3'
      go_enter Tryd.func58, Tryd.ntmps58
      go_wp2
      go_ret
      exact ⟨ret_bool H.out.symm, rfl⟩

end Go.Proofs.YtpboaadjbkaidaaDoor
