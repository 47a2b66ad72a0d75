
/-
  Reverse, the program's and the reference's.
-/
import Derived.Test.YtpboaadjbkaidaaDoorMatchA
import Derived.Test.YtpboaadjbkaidaaDoorStillK
import Derived.Lib.SliceRun
namespace Go.Proofs.YtpboaadjbkaidaaDoor
set_option maxRecDepth 100000
open Go.RowKit

/-- Block g holds n atoms, which may be written. -/
def RowA (w : World) (g n : Nat) (q : Nat → At) : Prop := g < w.heap.size ∧ ∀ t, t < n → w.rangeAt g (t * 34) (atC (q t)) ∧ w.there g (t * 34) 34
theorem RowA.congr {w : World} {g n : Nat} {q r : Nat → At} (h : RowA w g n q) (e : ∀ t, t < n → q t = r t) : RowA w g n r :=
  ⟨h.1, fun t ht => by rw [← e t ht]; exact h.2 t ht⟩
theorem RowA.drew {w : World} {g n : Nat} {q : Nat → At} (h : RowA w g n q) : RowA w.drew g n q := h
theorem setCells_size (g : Nat) : ∀ (vs : List Value) (o : Nat) (w : World), (w.setCells g o vs).heap.size = w.heap.size
  | [], _, _ => rfl
  | v :: r, o, w => by rw [World.setCells, setCells_size g r]; simp [World.setCell]
theorem below_setCells {B : Nat} {a : World} {g : Nat} (hg : B ≤ g) : ∀ (vs : List Value) (o : Nat) (w : World), Below B a w → Below B a (w.setCells g o vs)
  | [], _, _, h => h
  | v :: r, o, w, h => by rw [World.setCells]; exact below_setCells hg r _ _ (h.setCell (p := ⟨g, o, none⟩) hg v)
theorem RowA.set {w : World} {g n : Nat} {q : Nat → At} (h : RowA w g n q) (i : Nat) (hi : i < n) (x : At) : RowA (w.setCells g (i * 34) (atC x)) g n (fun t => if t = i then x else q t) :=
  ⟨by rw [setCells_size]; exact h.1, fun t ht => by
    refine ⟨?_, World.there_setCells (h.2 t ht).2 _ _ _⟩
    by_cases hti : t = i
    · subst hti
      show (w.setCells g (t * 34) (atC x)).rangeAt g (t * 34) (atC (if t = t then x else q t))
      rw [if_pos rfl]
      exact World.rangeAt_setCells_same w g (t * 34) (atC x) (by rw [atC_len]; exact (h.2 t ht).2)
    · show (w.setCells g (i * 34) (atC x)).rangeAt g (t * 34) (atC (if t = i then x else q t))
      rw [if_neg hti]
      refine World.rangeAt_setCells_apart (h.2 t ht).1 _ _ _ (.inr ?_)
      rw [atC_len, atC_len]
      omega⟩
def atAt (l : List At) (t : Nat) : At := l.getD t ⟨noP, 0, false⟩
theorem atAt_get (l : List At) (t : Nat) (h : t < l.length) : l[t]? = some (atAt l t) := by
  unfold atAt
  rw [List.getD_eq_getElem?_getD, List.getElem?_eq_getElem h]
  rfl
theorem RowA.of {w : World} {B g cap : Nat} {l : List At} (h : OwnE 26 atC 34 w B (.slice (some ⟨g, 0, none⟩) l.length cap) l) : RowA w g l.length (atAt l) ∧ B ≤ g := by
  obtain ⟨h0, h1 | ⟨g', cap', cur, hv, hbg, hg, hn, hm, hs, ht⟩⟩ := h
  · exact absurd h1.1 (by simp)
  injection hv with e1 _ _
  injection e1 with e1
  injection e1 with e1 _ _
  subst e1
  refine ⟨⟨(Array.getElem?_eq_some_iff.1 hg).1, fun t ht2 => ?_⟩, hbg⟩
  have hlt : ∀ j, j < 34 → t * 34 + j < l.length * 34 := fun j hj => by
    have : (t + 1) * 34 ≤ l.length * 34 := Nat.mul_le_mul_right _ ht2
    omega
  have hcell : ∀ j, j < 34 → w.cell? ⟨g, t * 34 + j, none⟩ = (atC (atAt l t))[j]? := fun j hj => by
    rw [cell_of_row _ _ _ _ _ _ hg]
    have h2 := flat_get atC 34 atC_len l t j (atAt l t) (atAt_get l t ht2) hj
    rw [← h2, ← ht, List.getElem?_take_of_lt (hlt j hj)]
    simp
  refine ⟨fun j v hj => ?_, fun j hj => ⟨?_, frozen_of_row _ _ _ _ _ hg⟩⟩
  · have hj34 : j < 34 := by rw [← atC_len (atAt l t)]; exact (List.getElem?_eq_some_iff.1 hj).1
    rw [hcell j hj34, hj]
  · rw [hcell j hj, List.getElem?_eq_getElem (by rw [atC_len]; exact hj)]
    rfl
theorem RowA.rd {w : World} {g n c : Nat} {q : Nat → At} (h : RowA w g n q) (l : List At) (hl : l.length = n) (hc : n ≤ c) (hq : ∀ t x, l[t]? = some x → q t = x) : RdE atC 34 w (.slice (some ⟨g, 0, none⟩) n c) l := by
  subst hl
  refine ⟨some ⟨g, 0, none⟩, c, rfl, hc, (fun e => by cases e), fun _ => ⟨g, 0, rfl, h.1, fun i x j u hi hj => ?_⟩⟩
  have hin := (List.getElem?_eq_some_iff.1 hi).1
  have := (h.2 i hin).1 j u (by rw [hq i x hi]; exact hj)
  rw [Nat.zero_add]
  exact this
/-- The first i and the last i exchanged. -/
def mirr (n i : Nat) (L : Nat → At) (t : Nat) : At := if t < i ∨ n ≤ t + i then L (n - 1 - t) else L t
theorem mirr_zero (n : Nat) (L : Nat → At) : ∀ t, t < n → L t = mirr n 0 L t := fun t ht => by
  unfold mirr
  rw [if_neg (by omega)]
theorem mirr_step (n i j : Nat) (L : Nat → At) (hj : j + i + 1 = n) (hij : i < j) : ∀ t, t < n →
    (if t = j then mirr n i L i else if t = i then mirr n i L j else mirr n i L t) = mirr n (i + 1) L t := fun t ht => by
  unfold mirr
  by_cases h1 : t = j
  · rw [if_pos h1, if_neg (show ¬ (i < i ∨ n ≤ i + i) by omega), if_pos (show t < i + 1 ∨ n ≤ t + (i + 1) by omega)]
    congr 1
    omega
  · rw [if_neg h1]
    by_cases h2 : t = i
    · rw [if_pos h2, if_neg (show ¬ (j < i ∨ n ≤ j + i) by omega), if_pos (show t < i + 1 ∨ n ≤ t + (i + 1) by omega)]
      congr 1
      omega
    · rw [if_neg h2]
      by_cases h3 : t < i ∨ n ≤ t + i
      · rw [if_pos h3, if_pos (show t < i + 1 ∨ n ≤ t + (i + 1) by omega)]
      · rw [if_neg h3, if_neg (show ¬ (t < i + 1 ∨ n ≤ t + (i + 1)) by omega)]
theorem mirr_end (n i : Nat) (L : Nat → At) (h1 : n ≤ 2 * i + 1) : ∀ t, t < n → mirr n i L t = L (n - 1 - t) := fun t ht => by
  unfold mirr
  by_cases h3 : t < i ∨ n ≤ t + i
  · rw [if_pos h3]
  · rw [if_neg h3]
    congr 1
    omega
theorem rev_at (l : List At) (t : Nat) (x : At) (h : l.reverse[t]? = some x) : atAt l (l.length - 1 - t) = x := by
  have ht : t < l.length := by simpa using (List.getElem?_eq_some_iff.1 h).1
  rw [List.getElem?_reverse ht, atAt_get l (l.length - 1 - t) (by omega)] at h
  exact Option.some.inj h
def RetRd (w : World) (B : Nat) (l : List At) (e : Ending) (w' : World) : Prop := ∃ v, e = .returned v ∧ RdE atC 34 w' v l ∧ Below B w w'
def RetOwnA (w : World) (l : List At) (e : Ending) (w' : World) : Prop := ∃ v, e = .returned v ∧ OwnE 26 atC 34 w' w.heap.size v l ∧ Below w.heap.size w w'

set_option maxRecDepth 100000 in
set_option maxHeartbeats 4000000 in
theorem clone_any (l : List At) (v : Value) (w : World) (hp : RdE atC 34 w v l) (hl : l.length ≤ 140737488355) :
    Calls Tryd.prog 83 #[v] w (RetOwnA w l) := by
  obtain ⟨R, HRR⟩ : ∃ R, Hid (R = RetOwnA w l) := ⟨_, rfl⟩
  rw [← HRR.out]
  have q22 : ∀ (w : World) (a : Option Addr) (n c n' c' : Nat), (binOp .eql 28 (.slice a n c) (.slice none n' c')).run Tryd.prog w = .ok (.bool a.isNone) w := fun w a n c n' c' => Lib.run_eql_slice_nil w _ _ a n c n' c' Tryd.underlying28
  obtain ⟨A, c, rfl, hlc, hn⟩ := hp.shape
  have HP := Lib.hid hp
  clear hp
  rcases A with _ | ad
  · have hc0 := hn rfl
    obtain rfl : l = [] := List.eq_nil_of_length_eq_zero (by omega)
    obtain rfl : c = 0 := hc0
    clear hn
    go_enter Tryd.func83, Tryd.ntmps83
    go_wp2_with fail
    rw [HRR.out]
    exact ⟨_, rfl, OwnE.nil, Below.refl _ _⟩
  · clear hn
    have HO : Hid (OwnE 26 atC 34 (w.alloc (.cells #[] 26)) w.heap.size (.slice (some ⟨w.heap.size, 0, none⟩) 0 0) []) := World.ownsRow_made (base := w.heap.size) (e := 26) (size := 34) w #[] 0 (Nat.le_refl _) (by decide) rfl
    have HQ := Lib.hid (HP.out.alloc (.cells #[] 26))
    go_enter Tryd.func83, Tryd.ntmps83
    go_wp2_with (refine wpList_appE rfl (.tmp 5) (.tmp 6) 28 26 rfl Tryd.underlying28 _ atC 34 48 atom_info rfl (by decide) atC_len atC_one w.heap.size (.slice (some ⟨w.heap.size, 0, none⟩) 0 0) [] rfl HO.out _ l rfl HQ.out (by simp only [List.length_nil]; omega) (by decide) (by simp) ?_; intro v1 w1 hown1 hbel1 hgrow1)
    rw [HRR.out]
    exact ⟨v1, rfl, hown1, hbel1 w.heap.size w (Nat.le_refl _) ((Below.refl _ w).alloc (Nat.le_refl _) _)⟩

set_option maxRecDepth 100000 in
set_option maxHeartbeats 8000000 in
theorem turn_any (B g c n : Nat) (L : Nat → At) (w : World) (hr : RowA w g n L) (hB : B ≤ g) (hn : n ≤ 140737488355) :
    Calls Tryd.prog 84 #[.slice (some ⟨g, 0, none⟩) n c] w fun e w' => e = .returned (.tuple #[]) ∧ RowA w' g n (fun t => L (n - 1 - t)) ∧ Below B w w' := by
  have hu := Tryd.underlying26
  have hi : (Tryd.prog.info? 26).map (·.size) = some 34 := atom_size
  have HR0 := Lib.hid (hr.congr (mirr_zero n L))
  have HB0 := Lib.hid (Below.refl B w)
  clear hr
  go_enter Tryd.func84, Tryd.ntmps84
  go_wp2_with fail
  obtain ⟨wo, HW⟩ : ∃ wo : World, Hid (wo = w) := ⟨w, rfl⟩
  go_loopg [2, 3] (n + 1) (fun m iv jv wr => ∃ i : Nat, iv = .int .i64 i ∧ jv = .int .i64 ((n : Int) - 1 - i) ∧ 2 * i ≤ n ∧ Hid (RowA wr g n (mirr n i L)) ∧ Hid (Below B w wr) ∧ n - i ≤ m)
  case atStart => exact ⟨0, rfl, by simp, by omega, HR0.out, HB0.out, by omega⟩
  case round =>
    clear HR0 HB0
    obtain ⟨i, rfl, rfl, hi2, HR, HB, hm⟩ := hrel
    by_cases hlt : 2 * i + 1 < n
    · have hlti : (i : Int) < (n : Int) - 1 - (i : Int) := by omega
      obtain ⟨j, hj⟩ : ∃ j, j + i + 1 = n := ⟨n - 1 - i, by omega⟩
      have hij : i < j := by omega
      have hin : (i : Int) < (n : Int) := by omega
      have hjn : (j : Int) < (n : Int) := by omega
      obtain ⟨k, hk⟩ : ∃ k : Int, k = (n : Int) - 1 - (i : Int) := ⟨_, rfl⟩
      rw [← hk] at hlti ⊢
      obtain rfl : k = (j : Int) := by omega
      clear hk
      have hji : (i : Int) < (j : Int) := by omega
      obtain ⟨q, HQ⟩ : ∃ q, Hid (q = mirr n i L) := ⟨_, rfl⟩
      have HST : Hid (∀ t, t < n → (if t = j then q i else if t = i then q j else q t) = mirr n (i + 1) L t) := by
        show _
        rw [HQ.out]
        exact mirr_step n i j L hj hij
      rw [← HQ.out] at HR
      clear HQ hlti
      have S1 : Hid (wr.drew.there g (i * 34) (atC (q j)).length) := by show World.there _ _ _ _; rw [atC_len]; exact (HR.out.drew.2 i (by omega)).2
      have HR1 := Lib.hid (HR.out.drew.set i (by omega) (q j))
      have S2 : Hid ((wr.drew.setCells g (i * 34) (atC (q j))).there g (j * 34) (atC (q i)).length) := by show World.there _ _ _ _; rw [atC_len]; exact (HR1.out.2 j (by omega)).2
      have HR2 := Lib.hid ((HR1.out.set j (by omega) (q i)).congr HST.out)
      have HB2 := Lib.hid (below_setCells hB (atC (q i)) (j * 34) _ (below_setCells hB (atC (q j)) (i * 34) _ HB.out.drew))
      have hsz1 : (Tryd.prog.info? 26).map (·.size) = some (atC (q j)).length := by rw [hi, atC_len]
      have hsz2 : (Tryd.prog.info? 26).map (·.size) = some (atC (q i)).length := by rw [hi, atC_len]
      have HI1 : Hid (∀ w, (Instr.indexAt 28 (.slice (some ⟨g, 0, none⟩) n c) (.int .i64 i)).run Tryd.prog w = .ok (.pointer (some ⟨g, i * 34, none⟩)) w) := fun w => by go_simp
      have HI2 : Hid (∀ w, (Instr.indexAt 28 (.slice (some ⟨g, 0, none⟩) n c) (.int .i64 j)).run Tryd.prog w = .ok (.pointer (some ⟨g, j * 34, none⟩)) w) := fun w => by go_simp
      go_wp2_with fail
      refine wp_region_at 16 #[false, false, false, false, false, false, false, false, false, false, false, false, false, false, false, false] rfl rfl (by kernel_rfl) ?_
      refine wpAny_at (i := 0) (v := .slice (some ⟨g, 0, none⟩) n c) (some 14) rfl rfl (by kernel_rfl) (by kernel_rfl) (by kernel_rfl) (fun _ _ _ h => h) (by kernel_rfl) (fun _ => ex_move _ _ rfl (by kernel_rfl)) ?_
      simp only [Act.put, List.setIfInBounds_toArray, List.set_cons_zero, List.set_cons_succ]
      refine wpAny_at (i := 1) (v := .int .i64 i) (some 15) rfl rfl (by kernel_rfl) (by kernel_rfl) (by kernel_rfl) (fun _ _ _ h => h) (by kernel_rfl) (fun _ => ex_move _ _ rfl (by kernel_rfl)) ?_
      simp only [Act.put, List.setIfInBounds_toArray, List.set_cons_zero, List.set_cons_succ]
      refine wpAny_at (i := 2) (v := .slice (some ⟨g, 0, none⟩) n c) (some 16) rfl rfl (by kernel_rfl) (by kernel_rfl) (by kernel_rfl) (fun _ _ _ h => h) (by kernel_rfl) (fun _ => ex_move _ _ rfl (by kernel_rfl)) ?_
      simp only [Act.put, List.setIfInBounds_toArray, List.set_cons_zero, List.set_cons_succ]
      refine wpAny_at (i := 3) (v := .int .i64 j) (some 17) rfl rfl (by kernel_rfl) (by kernel_rfl) (by kernel_rfl) (fun _ _ _ h => h) (by kernel_rfl) (fun _ => ex_move _ _ rfl (by kernel_rfl)) ?_
      simp only [Act.put, List.setIfInBounds_toArray, List.set_cons_zero, List.set_cons_succ]
      refine wpAny_at (i := 4) (v := .slice (some ⟨g, 0, none⟩) n c) (some 18) rfl rfl (by kernel_rfl) (by kernel_rfl) (by kernel_rfl) (fun _ _ _ h => h) (by kernel_rfl) (fun _ => ex_move _ _ rfl (by kernel_rfl)) ?_
      simp only [Act.put, List.setIfInBounds_toArray, List.set_cons_zero, List.set_cons_succ]
      refine wpAny_at (i := 5) (v := .int .i64 j) (some 19) rfl rfl (by kernel_rfl) (by kernel_rfl) (by kernel_rfl) (fun _ _ _ h => h) (by kernel_rfl) (fun _ => ex_move _ _ rfl (by kernel_rfl)) ?_
      simp only [Act.put, List.setIfInBounds_toArray, List.set_cons_zero, List.set_cons_succ]
      refine wpAny_at (i := 6) (v := .pointer (some ⟨g, j * 34, none⟩)) (some 20) rfl rfl (by kernel_rfl) (by kernel_rfl) (by kernel_rfl) (fun _ _ _ h => h) (by kernel_rfl) (fun _ => ex_indexAddr 28 _ _ (.slice (some ⟨g, 0, none⟩) n c) (.int .i64 j) _ rfl (by kernel_rfl) (by kernel_rfl) (HI2.out _)) ?_
      simp only [Act.put, List.setIfInBounds_toArray, List.set_cons_zero, List.set_cons_succ]
      refine wpAny_at (i := 8) (v := .slice (some ⟨g, 0, none⟩) n c) (some 22) rfl rfl (by kernel_rfl) (by kernel_rfl) (by kernel_rfl) (fun _ _ _ h => h) (by kernel_rfl) (fun _ => ex_move _ _ rfl (by kernel_rfl)) ?_
      simp only [Act.put, List.setIfInBounds_toArray, List.set_cons_zero, List.set_cons_succ]
      refine wpAny_at (i := 9) (v := .int .i64 i) (some 23) rfl rfl (by kernel_rfl) (by kernel_rfl) (by kernel_rfl) (fun _ _ _ h => h) (by kernel_rfl) (fun _ => ex_move _ _ rfl (by kernel_rfl)) ?_
      simp only [Act.put, List.setIfInBounds_toArray, List.set_cons_zero, List.set_cons_succ]
      refine wpAny_at (i := 10) (v := .pointer (some ⟨g, i * 34, none⟩)) (some 24) rfl rfl (by kernel_rfl) (by kernel_rfl) (by kernel_rfl) (fun _ _ _ h => h) (by kernel_rfl) (fun _ => ex_indexAddr 28 _ _ (.slice (some ⟨g, 0, none⟩) n c) (.int .i64 i) _ rfl (by kernel_rfl) (by kernel_rfl) (HI1.out _)) ?_
      simp only [Act.put, List.setIfInBounds_toArray, List.set_cons_zero, List.set_cons_succ]
      refine wpAny_loads 7 11 (some 21) (some 25) (by kernel_rfl) rfl rfl rfl rfl (by kernel_rfl) (by kernel_rfl) 26 (.tmp 20) rfl (g) (j * 34) (by kernel_rfl) (atC (q j)) _ ((HR.out.drew.2 j (by omega)).1) hu rfl (by rw [hi, atC_len]) 26 (.tmp 24) rfl (g) (i * 34) (by kernel_rfl) (atC (q i)) _ ((HR.out.drew.2 i (by omega)).1) hu rfl (by rw [hi, atC_len]) ?_ ?_
      · simp only [Act.put, List.setIfInBounds_toArray, List.set_cons_zero, List.set_cons_succ]
        refine wpAny_load 11 (some 25) (by kernel_rfl) rfl rfl (by kernel_rfl) 26 (.tmp 24) rfl (g) (i * 34) (by kernel_rfl) (atC (q i)) _ ((HR.out.drew.2 i (by omega)).1) hu rfl (by rw [hi, atC_len]) ?_
        simp only [Act.put, List.setIfInBounds_toArray, List.set_cons_zero, List.set_cons_succ]
        refine wpAny_at (i := 12) (v := .pointer (some ⟨g, i * 34, none⟩)) (some 26) rfl rfl (by kernel_rfl) (by kernel_rfl) (by kernel_rfl) (fun _ _ _ h => h) (by kernel_rfl) (fun _ => ex_indexAddr 28 _ _ (.slice (some ⟨g, 0, none⟩) n c) (.int .i64 i) _ rfl (by kernel_rfl) (by kernel_rfl) (HI1.out _)) ?_
        simp only [Act.put, List.setIfInBounds_toArray, List.set_cons_zero, List.set_cons_succ]
        refine wpAny_store 13 (by kernel_rfl) rfl rfl (by kernel_rfl) 26 (.tmp 26) (.tmp 21) rfl (g) (i * 34) (atC (q j)) (by kernel_rfl) (by kernel_rfl) (S1.out) (hsz1) (atC_oneA _) ?_
        simp only [Act.put, List.setIfInBounds_toArray, List.set_cons_zero, List.set_cons_succ]
        refine wpAny_at (i := 14) (v := .pointer (some ⟨g, j * 34, none⟩)) (some 27) rfl rfl (by kernel_rfl) (by kernel_rfl) (by kernel_rfl) (fun _ _ _ h => h) (by kernel_rfl) (fun _ => ex_indexAddr 28 _ _ (.slice (some ⟨g, 0, none⟩) n c) (.int .i64 j) _ rfl (by kernel_rfl) (by kernel_rfl) (HI2.out _)) ?_
        simp only [Act.put, List.setIfInBounds_toArray, List.set_cons_zero, List.set_cons_succ]
        refine wpAny_store 15 (by kernel_rfl) rfl rfl (by kernel_rfl) 26 (.tmp 27) (.tmp 25) rfl (g) (j * 34) (atC (q i)) (by kernel_rfl) (by kernel_rfl) (S2.out) (hsz2) (atC_oneA _) ?_
        simp only [Act.put, List.setIfInBounds_toArray, List.set_cons_zero, List.set_cons_succ]
        refine wpAny_done (by kernel_rfl) ?_ _
        go_wp2_with fail
        go_roundg (n - (i + 1))
        case measure => omega
        case rel => exact ⟨i + 1, by go_num, by (show Value.int .i64 _ = Value.int .i64 _); congr 1; omega, by omega, HR2.out, HB2.out, Nat.le_refl _⟩
      · simp only [Act.put, List.setIfInBounds_toArray, List.set_cons_zero, List.set_cons_succ]
        refine wpAny_load 7 (some 21) (by kernel_rfl) rfl rfl (by kernel_rfl) 26 (.tmp 20) rfl (g) (j * 34) (by kernel_rfl) (atC (q j)) _ ((HR.out.drew.2 j (by omega)).1) hu rfl (by rw [hi, atC_len]) ?_
        simp only [Act.put, List.setIfInBounds_toArray, List.set_cons_zero, List.set_cons_succ]
        refine wpAny_at (i := 12) (v := .pointer (some ⟨g, i * 34, none⟩)) (some 26) rfl rfl (by kernel_rfl) (by kernel_rfl) (by kernel_rfl) (fun _ _ _ h => h) (by kernel_rfl) (fun _ => ex_indexAddr 28 _ _ (.slice (some ⟨g, 0, none⟩) n c) (.int .i64 i) _ rfl (by kernel_rfl) (by kernel_rfl) (HI1.out _)) ?_
        simp only [Act.put, List.setIfInBounds_toArray, List.set_cons_zero, List.set_cons_succ]
        refine wpAny_store 13 (by kernel_rfl) rfl rfl (by kernel_rfl) 26 (.tmp 26) (.tmp 21) rfl (g) (i * 34) (atC (q j)) (by kernel_rfl) (by kernel_rfl) (S1.out) (hsz1) (atC_oneA _) ?_
        simp only [Act.put, List.setIfInBounds_toArray, List.set_cons_zero, List.set_cons_succ]
        refine wpAny_at (i := 14) (v := .pointer (some ⟨g, j * 34, none⟩)) (some 27) rfl rfl (by kernel_rfl) (by kernel_rfl) (by kernel_rfl) (fun _ _ _ h => h) (by kernel_rfl) (fun _ => ex_indexAddr 28 _ _ (.slice (some ⟨g, 0, none⟩) n c) (.int .i64 j) _ rfl (by kernel_rfl) (by kernel_rfl) (HI2.out _)) ?_
        simp only [Act.put, List.setIfInBounds_toArray, List.set_cons_zero, List.set_cons_succ]
        refine wpAny_store 15 (by kernel_rfl) rfl rfl (by kernel_rfl) 26 (.tmp 27) (.tmp 25) rfl (g) (j * 34) (atC (q i)) (by kernel_rfl) (by kernel_rfl) (S2.out) (hsz2) (atC_oneA _) ?_
        simp only [Act.put, List.setIfInBounds_toArray, List.set_cons_zero, List.set_cons_succ]
        refine wpAny_done (by kernel_rfl) ?_ _
        go_wp2_with fail
        go_roundg (n - (i + 1))
        case measure => omega
        case rel => exact ⟨i + 1, by go_num, by (show Value.int .i64 _ = Value.int .i64 _); congr 1; omega, by omega, HR2.out, HB2.out, Nat.le_refl _⟩
    · have hlti : ¬ (i : Int) < (n : Int) - 1 - (i : Int) := by omega
      have HE := Lib.hid (HR.out.congr (mirr_end n i L (by omega)))
      go_wp2_with fail
      go_end0
      exact ⟨rfl, HE.out, HB.out⟩

end Go.Proofs.YtpboaadjbkaidaaDoor
