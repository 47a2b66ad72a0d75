/-
  Contracts and plain laws that this claim leans on, part 3.
-/
import Derived.Test.YtpboaadjbkaidaaDoorPackR2
import Derived.Test.YtpboaadjbkaidaaDoorPackR1
import Derived.Laws.Tables
import Derived.Great.BuildSlice
import Derived.Deep.OwnRows
import Derived.Deep.LoopGhost
import Derived.Deep.DeepCutAuto
import Derived.Deep.CutBlock
import Derived.Deep.RegionHeld3
import Derived.Deep.MidRow
import Derived.StillTailTactics
set_option linter.unusedVariables false
set_option linter.unusedSimpArgs false
namespace Go.Proofs.YtpboaadjbkaidaaDoor
set_option maxRecDepth 100000

def spcB (c : UInt8) : Bool := decide (clsN (c.toNat : Int) = 2)
/-- The positions of an item: is it a plain byte that is no space, is it a space. -/
def sqI (x : Tk) : List (Bool × Bool) := if x.k = 1 then x.t.data.toList.map (fun c => (!spcB c, spcB c)) else if x.k = 5 then [(true, false)] else [(false, false)]
def sqF (f : List Tk) : List (Bool × Bool) := f.flatMap sqI
/-- From x on: behind the spaces; and before y: ahead of the spaces. -/
def frI (R : List (Bool × Bool)) (x : Nat) : Nat := x + ((R.drop x).takeWhile (·.2)).length
def bkI (R : List (Bool × Bool)) (y : Nat) : Nat := y - ((R.take y).reverse.takeWhile (·.2)).length
def sgF (R : List (Bool × Bool)) (p q : Nat) : List (Nat × Nat) := if ((R.take q).drop p).any (·.1) = true then [(frI R p, bkI R q)] else []
def rngF (R : List (Bool × Bool)) : Nat → List Nat → List (Nat × Nat)
  | _, [] => []
  | p, q :: cs => sgF R p q ++ rngF R q cs

theorem sqF_app (f g : List Tk) : sqF (f ++ g) = sqF f ++ sqF g := by simp [sqF]
theorem sqF_one (x : Tk) : sqF [x] = sqI x := by simp [sqF]
theorem sqI_len (x : Tk) : (sqI x).length = wdI x := by
  unfold sqI wdI
  split
  · rw [List.length_map]
    simp
  · split <;> rfl
theorem sqF_len : ∀ f : List Tk, (sqF f).length = lenI f
  | [] => rfl
  | x :: f => by
    rw [show x :: f = [x] ++ f from rfl, sqF_app, sqF_one, List.length_append, sqI_len, sqF_len f, lenI_app]
    simp [lenI]
theorem sqI_pc (x : Tk) (a p q : Nat) : sqF (pcI x a p q) = ((sqI x).take (q - a)).drop (p - a) := by
  unfold pcI
  by_cases hx : x.k = 1
  · rw [if_neg (by omega)]
    have e : sqI x = x.t.data.toList.map (fun c => (!spcB c, spcB c)) := by unfold sqI; rw [if_pos hx]
    have hl : x.t.data.toList.length = x.t.size := by simp
    rw [e]
    by_cases h : max p a - a < min q (a + x.t.size) - a
    · rw [if_pos h, sqF_one]
      unfold sqI
      rw [if_pos rfl]
      show (x.t.extract (max p a - a) (min q (a + x.t.size) - a)).data.toList.map _ = _
      rw [ByteArray.data_extract, Array.toList_extract, ← List.map_take, ← List.map_drop]
      congr 1
      rw [List.extract_eq_take_drop, List.drop_take]
      rw [show p - a = max p a - a by omega]
      by_cases h2 : q ≤ a + x.t.size
      · rw [show min q (a + x.t.size) - a = q - a by omega]
      · rw [show min q (a + x.t.size) - a = x.t.size by omega]
        rw [List.take_of_length_le (by rw [List.length_drop, hl]; omega), List.take_of_length_le (by rw [List.length_drop, hl]; omega)]
    · rw [if_neg h]
      rw [List.drop_eq_nil_of_le (by rw [List.length_take, List.length_map, hl]; omega)]
      rfl
  · rw [if_pos hx]
    obtain ⟨c, hc⟩ : ∃ c, sqI x = [c] := by
      unfold sqI
      rw [if_neg hx]
      split <;> exact ⟨_, rfl⟩
    by_cases h : p ≤ a ∧ a < q
    · rw [if_pos h, sqF_one, hc, show q - a = (q - a - 1) + 1 by omega, show p - a = 0 by omega]
      simp
    · rw [if_neg h, hc]
      by_cases h2 : a < q
      · rw [show p - a = (p - a - 1) + 1 by omega, show q - a = (q - a - 1) + 1 by omega]
        simp [sqF]
      · rw [show q - a = 0 by omega]
        simp [sqF]
theorem sqF_sl (p q : Nat) : ∀ (f : List Tk) (a : Nat), sqF (slI f a p q) = ((sqF f).take (q - a)).drop (p - a)
  | [], a => by simp [slI, sqF]
  | x :: f, a => by
    rw [slI, sqF_app, sqI_pc, sqF_sl p q f, show x :: f = [x] ++ f from rfl, sqF_app [x] f, sqF_one, cut_app, sqI_len]
theorem byI_any (x : Tk) : (byI x).any (fun c => !spcB c) = (sqI x).any (·.1) := by
  unfold byI sqI
  split
  · rw [List.any_map]
    rfl
  · split
    · rfl
    · rfl
theorem plI_any : ∀ f : List Tk, (plI f).any (fun c => !spcB c) = (sqF f).any (·.1)
  | [] => rfl
  | x :: f => by
    rw [show x :: f = [x] ++ f from rfl, plI_app, sqF_app, List.any_append, List.any_append, plI_any f, sqF_one, ← byI_any]
    congr 2
    simp [plI]
/-- A trimmed text is not empty exactly if it has a byte that is no space. -/
theorem trim_any_iff {l : List UInt8} {x y : Nat} (h : IsTrim l x y) : x < y ↔ l.any (fun c => !spcB c) = true := by
  constructor
  · intro hxy
    rcases h with ⟨rfl, rfl, _⟩ | ⟨h1, h2, h3, _⟩
    · omega
    · have hx : x < l.length := by omega
      have h9 := h3 _ (List.getElem?_eq_getElem hx)
      rw [List.any_eq_true]
      refine ⟨l[x], List.getElem_mem hx, ?_⟩
      unfold spcB
      simp [h9]
  · intro ha
    rw [List.any_eq_true] at ha
    obtain ⟨c, hc, h9⟩ := ha
    unfold spcB at h9
    rcases h with ⟨rfl, rfl, h3⟩ | ⟨h1, _⟩
    · exfalso
      obtain ⟨j, hj⟩ := List.mem_iff_getElem?.1 hc
      have := h3 j c hj
      simp [this] at h9
    · exact h1
theorem sqI_ex (x : Tk) : ∀ c ∈ sqI x, c.1 = true → c.2 = false := by
  unfold sqI
  intro c hc h
  split at hc
  · obtain ⟨b, _, rfl⟩ := List.mem_map.1 hc
    simpa using h
  · split at hc
    · rw [List.mem_singleton.1 hc]
    · rw [List.mem_singleton.1 hc]
theorem sqF_ex (f : List Tk) : ∀ c ∈ sqF f, c.1 = true → c.2 = false := by
  intro c hc
  obtain ⟨x, _, hx⟩ := List.mem_flatMap.1 hc
  exact sqI_ex x c hx

/-! ### The ends of a segment -/
theorem frI_step (R : List (Bool × Bool)) (x : Nat) (h : x < R.length) (hs : R[x].2 = true) : frI R x = frI R (x + 1) := by
  unfold frI
  rw [List.drop_eq_getElem_cons h, List.takeWhile_cons, if_pos hs, List.length_cons]
  omega
theorem frI_stop (R : List (Bool × Bool)) (x : Nat) (h : x < R.length) (hs : R[x].2 = false) : frI R x = x := by
  unfold frI
  rw [List.drop_eq_getElem_cons h, List.takeWhile_cons, if_neg (by simp [hs])]
  rfl
theorem bkI_step (R : List (Bool × Bool)) (y : Nat) (h : y < R.length) (hs : R[y].2 = true) : bkI R (y + 1) = bkI R y := by
  unfold bkI
  rw [List.take_succ_eq_append_getElem h, List.reverse_append, List.reverse_singleton, List.singleton_append, List.takeWhile_cons, if_pos hs, List.length_cons]
  omega
theorem bkI_stop (R : List (Bool × Bool)) (y : Nat) (h : y < R.length) (hs : R[y].2 = false) : bkI R (y + 1) = y + 1 := by
  unfold bkI
  rw [List.take_succ_eq_append_getElem h, List.reverse_append, List.reverse_singleton, List.singleton_append, List.takeWhile_cons, if_neg (by simp [hs])]
  rfl
theorem frI_ge (R : List (Bool × Bool)) (x : Nat) : x ≤ frI R x := by unfold frI; omega
theorem bkI_le (R : List (Bool × Bool)) (y : Nat) : bkI R y ≤ y := by unfold bkI; omega
/-- Up to a position that is no space. -/
theorem frI_le (R : List (Bool × Bool)) (x j : Nat) (hx : x ≤ j) (hj : j < R.length) (hs : R[j].2 = false) : frI R x ≤ j := by
  obtain ⟨d, rfl⟩ : ∃ d, j = x + d := ⟨j - x, by omega⟩
  induction d generalizing x with
  | zero => rw [Nat.add_zero] at *; rw [frI_stop R x hj (by simpa using hs)]; exact Nat.le_refl _
  | succ d ih =>
    have hxl : x < R.length := by omega
    by_cases h2 : R[x].2 = true
    · rw [frI_step R x hxl h2]
      have e : x + 1 + d = x + (d + 1) := by omega
      have := ih (x + 1) (by omega) (by omega) (by simp only [e]; exact hs)
      omega
    · rw [frI_stop R x hxl (by simpa using h2)]
      omega
theorem bkI_gt (R : List (Bool × Bool)) (y j : Nat) (hy : j < y) (hyl : y ≤ R.length) (hs : (R[j]'(by omega)).2 = false) : j < bkI R y := by
  obtain ⟨d, rfl⟩ : ∃ d, y = j + 1 + d := ⟨y - j - 1, by omega⟩
  induction d with
  | zero => rw [Nat.add_zero, bkI_stop R j (by omega) hs]; omega
  | succ d ih =>
    have hxl : j + 1 + d < R.length := by omega
    by_cases h2 : R[j + 1 + d].2 = true
    · rw [show j + 1 + (d + 1) = j + 1 + d + 1 by omega, bkI_step R _ hxl h2]
      exact ih (by omega) (by omega) hs
    · rw [show j + 1 + (d + 1) = j + 1 + d + 1 by omega, bkI_stop R _ hxl (by simpa using h2)]
      omega
theorem frI_none (R : List (Bool × Bool)) (x j : Nat) (h1 : x ≤ j) (h2 : j < frI R x) : ∃ h : j < R.length, R[j].2 = true := by
  by_cases hj : j < R.length
  · refine ⟨hj, ?_⟩
    cases h : R[j].2 with
    | true => rfl
    | false => have := frI_le R x j h1 hj h; omega
  · exfalso
    unfold frI at h2
    have := (List.takeWhile_sublist (fun c : Bool × Bool => c.2) (l := R.drop x)).length_le
    rw [List.length_drop] at this
    omega
theorem bkI_none (R : List (Bool × Bool)) (y j : Nat) (hyl : y ≤ R.length) (h1 : bkI R y ≤ j) (h2 : j < y) : (R[j]'(by omega)).2 = true := by
  cases h : (R[j]'(by omega)).2 with
  | true => rfl
  | false => have := bkI_gt R y j h2 hyl h; omega
/-- Where a cut has a byte that is no space. -/
theorem any_pos (R : List (Bool × Bool)) (p q : Nat) (hR : ∀ c ∈ R, c.1 = true → c.2 = false) (ha : ((R.take q).drop p).any (·.1) = true) : ∃ j, ∃ h : j < R.length, p ≤ j ∧ j < q ∧ R[j].1 = true ∧ R[j].2 = false := by
  rw [List.any_eq_true] at ha
  obtain ⟨c, hc, h1⟩ := ha
  obtain ⟨i, hi⟩ := List.mem_iff_getElem?.1 hc
  rw [List.getElem?_drop, List.getElem?_take] at hi
  split at hi
  · obtain ⟨hl, hx⟩ := List.getElem?_eq_some_iff.1 hi
    refine ⟨p + i, hl, by omega, by assumption, by rw [hx]; exact h1, ?_⟩
    exact hR _ (List.getElem_mem hl) (by rw [hx]; exact h1)
  · cases hi
theorem frI_at (R : List (Bool × Bool)) (x j : Nat) (hx : x ≤ j) (hj : j < R.length) (hs : R[j].2 = false) : ∃ k, frI R x = k ∧ ∃ h : k < R.length, R[k].2 = false := by
  obtain ⟨d, rfl⟩ : ∃ d, j = x + d := ⟨j - x, by omega⟩
  induction d generalizing x with
  | zero => exact ⟨x, frI_stop R x (by omega) (by simpa using hs), by omega, by simpa using hs⟩
  | succ d ih =>
    have hxl : x < R.length := by omega
    by_cases h2 : R[x].2 = true
    · rw [frI_step R x hxl h2]
      have e : x + 1 + d = x + (d + 1) := by omega
      exact ih (x + 1) (by omega) (by omega) (by simp only [e]; exact hs)
    · exact ⟨x, frI_stop R x hxl (by simpa using h2), hxl, by simpa using h2⟩
theorem bkI_at (R : List (Bool × Bool)) (y j : Nat) (hy : j < y) (hyl : y ≤ R.length) (hs : (R[j]'(by omega)).2 = false) : ∃ k, bkI R y = k + 1 ∧ ∃ h : k < R.length, R[k].2 = false := by
  obtain ⟨d, rfl⟩ : ∃ d, y = j + 1 + d := ⟨y - j - 1, by omega⟩
  induction d with
  | zero => exact ⟨j, by rw [Nat.add_zero]; exact bkI_stop R j (by omega) hs, by omega, hs⟩
  | succ d ih =>
    have hxl : j + 1 + d < R.length := by omega
    by_cases h2 : R[j + 1 + d].2 = true
    · rw [show j + 1 + (d + 1) = j + 1 + d + 1 by omega, bkI_step R _ hxl h2]
      exact ih (by omega) (by omega) hs
    · exact ⟨j + 1 + d, by rw [show j + 1 + (d + 1) = j + 1 + d + 1 by omega]; exact bkI_stop R _ hxl (by simpa using h2), hxl, by simpa using h2⟩

/-! ### The cuts -/
def AscF : Nat → List Nat → Nat → Prop
  | p, [], n => p = n
  | p, c :: cs, n => p ≤ c ∧ AscF c cs n
theorem AscF.le : ∀ {cs : List Nat} {p n : Nat}, AscF p cs n → p ≤ n
  | [], _, _, h => Nat.le_of_eq h
  | c :: cs, p, n, h => Nat.le_trans h.1 (AscF.le h.2)
theorem AscF.at_ : ∀ {cs : List Nat} {p n : Nat} (k : Nat) (hk : k < cs.length), AscF p cs n → (p :: cs).getD k 0 ≤ cs[k] ∧ cs[k] ≤ n
  | c :: cs, p, n, 0, _, h => ⟨by simpa using h.1, by simpa using AscF.le h.2⟩
  | c :: cs, p, n, k + 1, hk, h => by
    have := AscF.at_ (cs := cs) (p := c) k (by simpa using hk) h.2
    simpa using this
theorem rngF_take (R : List (Bool × Bool)) : ∀ (cs : List Nat) (p k : Nat) (hk : k < cs.length), rngF R p (cs.take (k + 1)) = rngF R p (cs.take k) ++ sgF R ((p :: cs).getD k 0) cs[k]
  | c :: cs, p, 0, _ => by simp [rngF]
  | c :: cs, p, k + 1, hk => by
    have h := rngF_take R cs c k (by simpa using hk)
    rw [List.take_succ_cons, rngF, h, List.take_succ_cons, rngF, List.append_assoc]
    simp
theorem sgF_len (R : List (Bool × Bool)) (p q : Nat) : (sgF R p q).length ≤ 1 := by unfold sgF; split <;> simp
theorem rngF_len (R : List (Bool × Bool)) : ∀ (cs : List Nat) (p : Nat), (rngF R p cs).length ≤ cs.length
  | [], _ => Nat.le_refl _
  | c :: cs, p => by
    rw [rngF, List.length_append, List.length_cons]
    have := rngF_len R cs c
    have := sgF_len R p c
    omega
theorem clP_le : ∀ ps : List (Bool × Bool), clP ps ≤ ps.length
  | [] => Nat.le_refl _
  | x :: ps => by
    rw [clP, List.length_cons]
    have := clP_le ps
    split <;> omega
theorem placeP_le : ∀ (ps : List (Bool × Bool)) (o : Nat), placeP ps o ≤ ps.length
  | ps, 0 => by cases ps <;> exact clP_le _
  | [], _ + 1 => Nat.le_refl _
  | x :: ps, o + 1 => by
    rw [placeP, List.length_cons]
    have := placeP_le ps (if x.1 = true then o else o + 1)
    omega
theorem placeP_zero (ps : List (Bool × Bool)) : placeP ps 0 = clP ps := by cases ps <;> rfl
theorem clP_place : ∀ (ps : List (Bool × Bool)) (o : Nat), o ≤ cntP ps → clP ps ≤ placeP ps o
  | [], o, _ => by simp [clP]
  | x :: ps, 0, _ => by rw [placeP_zero]; exact Nat.le_refl _
  | x :: ps, o + 1, h => by
    rw [cntP_cons] at h
    rw [placeP, clP]
    split
    · by_cases hx : x.1 = true
      · rw [if_pos hx] at h ⊢
        have := clP_place ps o (by omega)
        omega
      · rw [if_neg hx] at h ⊢
        have := clP_place ps (o + 1) (by omega)
        omega
    · omega
theorem placeP_mono : ∀ (ps : List (Bool × Bool)) (a b : Nat), a ≤ b → b ≤ cntP ps → placeP ps a ≤ placeP ps b
  | ps, 0, b, _, hb => by rw [placeP_zero]; exact clP_place ps b hb
  | [], a + 1, b, h, hb => by simp [cntP] at hb; omega
  | x :: ps, a + 1, 0, h, _ => by omega
  | x :: ps, a + 1, b + 1, h, hb => by
    rw [cntP_cons] at hb
    rw [placeP, placeP]
    by_cases hx : x.1 = true
    · rw [if_pos hx] at hb
      rw [if_pos hx, if_pos hx]
      have := placeP_mono ps a b (by omega) (by omega)
      omega
    · rw [if_neg hx] at hb
      rw [if_neg hx, if_neg hx]
      have := placeP_mono ps (a + 1) (b + 1) (by omega) (by omega)
      omega
/-- The cuts of a fragment at the breaks bl. -/
def cutsF (f : List Tk) (bl : List Nat) : List Nat := bl.map (placeP (posI f)) ++ [lenI f]
theorem cuts_asc (f : List Tk) : ∀ (bl : List Nat) (a : Nat), (a :: bl).Pairwise (· ≤ ·) → (∀ b ∈ a :: bl, b ≤ (plI f).length) → AscF (placeP (posI f) a) (cutsF f bl) (lenI f)
  | [], a, _, _ => ⟨by have := placeP_le (posI f) a; rw [posI_len] at this; exact this, rfl⟩
  | b :: bl, a, h, hb => by
    refine ⟨?_, ?_⟩
    · refine placeP_mono _ _ _ ?_ ?_
      · exact (List.pairwise_cons.1 h).1 b (by simp)
      · rw [cntP_pos]; exact hb b (by simp)
    · exact cuts_asc f bl b (List.pairwise_cons.1 h).2 (fun c hc => hb c (by simp [hc]))
theorem AscF.zero {cs : List Nat} {p n : Nat} (h : AscF p cs n) (hc : cs ≠ []) : AscF 0 cs n := by
  cases cs with
  | nil => exact absurd rfl hc
  | cons c cs => exact ⟨Nat.zero_le _, h.2⟩

/-! ### What the segments cover -/
end Go.Proofs.YtpboaadjbkaidaaDoor

namespace Go.Proofs.YtpboaadjbkaidaaDoor
set_option maxRecDepth 100000
open Go.RowKit

set_option maxRecDepth 100000 in
theorem built_atom (p : Nat → Bool) : Tryd.prog.built 26 [(1, .int .i64 1), (0, .agg (setC p).toArray)] = some (atC ⟨p, 1, false⟩).toArray := by kernel_rfl
set_option maxRecDepth 100000 in
theorem fill_atom (x : At) : Instr.fill (fun i => some (i * 34, 34)) ((Array.range (1 * 34)).map ((Value.agg (atC ⟨noP, 0, false⟩).toArray).cells[· % (Value.agg (atC ⟨noP, 0, false⟩).toArray).cells.size]!)) [(0, .agg (atC x).toArray)] = some (atC x).toArray := by kernel_rfl
theorem atom_info : (Tryd.prog.info? 26).map (fun i => (i.zero, i.size, i.bytes)) = some (some (.agg (atC ⟨noP, 0, false⟩).toArray), 34, 48) := by kernel_rfl
/-- The atom in block g. -/
def AtIn (w : World) (g : Nat) (x : At) : Prop := w.heap[g]? = some (.cells (atC x).toArray 26)
theorem AtIn.setMn {w : World} {g : Nat} {p : Nat → Bool} {mn : Int} {many : Bool} (h : AtIn w g ⟨p, mn, many⟩) (k : Int) : AtIn (w.setCell ⟨g, 32, none⟩ (.int .i64 k)) g ⟨p, k, many⟩ := by
  unfold AtIn at *
  rw [heap_setCell_same w g 32 _ _ _ h]
  rfl
theorem AtIn.setMany {w : World} {g : Nat} {p : Nat → Bool} {mn : Int} {many : Bool} (h : AtIn w g ⟨p, mn, many⟩) (k : Bool) : AtIn (w.setCell ⟨g, 33, none⟩ (.bool k)) g ⟨p, mn, k⟩ := by
  unfold AtIn at *
  rw [heap_setCell_same w g 33 _ _ _ h]
  rfl
theorem at_zero (w : World) : AtIn (w.alloc (.cells #[.int .u8 0, .int .u8 0, .int .u8 0, .int .u8 0, .int .u8 0, .int .u8 0, .int .u8 0, .int .u8 0, .int .u8 0, .int .u8 0, .int .u8 0, .int .u8 0, .int .u8 0, .int .u8 0, .int .u8 0, .int .u8 0, .int .u8 0, .int .u8 0, .int .u8 0, .int .u8 0, .int .u8 0, .int .u8 0, .int .u8 0, .int .u8 0, .int .u8 0, .int .u8 0, .int .u8 0, .int .u8 0, .int .u8 0, .int .u8 0, .int .u8 0, .int .u8 0, .int .i64 0, .bool false] 26)) w.heap.size ⟨noP, 0, false⟩ := by
  have e : (#[.int .u8 0, .int .u8 0, .int .u8 0, .int .u8 0, .int .u8 0, .int .u8 0, .int .u8 0, .int .u8 0, .int .u8 0, .int .u8 0, .int .u8 0, .int .u8 0, .int .u8 0, .int .u8 0, .int .u8 0, .int .u8 0, .int .u8 0, .int .u8 0, .int .u8 0, .int .u8 0, .int .u8 0, .int .u8 0, .int .u8 0, .int .u8 0, .int .u8 0, .int .u8 0, .int .u8 0, .int .u8 0, .int .u8 0, .int .u8 0, .int .u8 0, .int .u8 0, .int .i64 0, .bool false] : Array Value) = (atC ⟨noP, 0, false⟩).toArray := by kernel_rfl
  rw [e]
  exact heap_alloc_new w _
theorem AtIn.row {w : World} {g : Nat} {x : At} (h : AtIn w g x) (y : At) : AtIn (w.setRow g (atC y).toArray) g y := setRow_heap w g _ _ _ _ h
theorem atom_size : (Tryd.prog.info? 26).map (·.size) = some 34 := by kernel_rfl
theorem atC_size (x : At) : (atC x).toArray.size = 34 := by rw [List.size_toArray, atC_len]
theorem atC_oneA (x : At) : (atC x).toArray.all (·.oneCell') = true := by
  rw [Array.all_eq_true_iff_forall_mem]
  intro v hv
  have h := List.mem_toArray.1 hv
  unfold atC at h
  rcases List.mem_append.1 h with h | h
  · have := (Array.all_eq_true_iff_forall_mem.1 (setC_one x.p)) v (List.mem_toArray.2 h)
    exact this
  · simp at h
    rcases h with rfl | rfl <;> rfl
theorem wpList_buildAtom {ops : Array Oper} {rest : List Oper} {o : Oper} {a : Act} {w : World} {Q : Exit → Act → World → Prop} (hg : o.guard = none) (x : Operand) (ho : o.op = .build 26 #[(1, .const (.int .i64 1)), (0, x)]) (p : Nat → Bool)
    (hx : a.eval x = .agg (setC p).toArray)
    (h : wpList Tryd.prog ops Q rest (a.put o.dst (.agg (atC ⟨p, 1, false⟩).toArray)) w) : wpList Tryd.prog ops Q (o :: rest) a w := by
  have hp : (Array.map (fun ((i, x) : Nat × Operand) => (i, a.eval x)) #[(1, .const (.int .i64 1)), (0, x)]).toList = [(1, .int .i64 1), (0, .agg (setC p).toArray)] := by
    simp only [List.map_toArray, List.map_cons, List.map_nil, hx]
    rfl
  exact wpList_build hg 26 _ ho (by rw [hp, built_atom]; rfl) (by rw [hp, built_atom]; exact h)
theorem AtIn.mn {w : World} {g : Nat} {x : At} (h : AtIn w g x) : w.cell? ⟨g, 32, none⟩ = some (.int .i64 x.mn) := by
  rw [cell_of_row _ _ _ _ _ _ h]
  simpa using atC_mn x
theorem AtIn.many {w : World} {g : Nat} {x : At} (h : AtIn w g x) : w.cell? ⟨g, 33, none⟩ = some (.bool x.many) := by
  rw [cell_of_row _ _ _ _ _ _ h]
  simpa using atC_many x
theorem AtIn.free {w : World} {g : Nat} {x : At} (h : AtIn w g x) (k : Nat) : w.frozen? ⟨g, k, none⟩ = false := frozen_of_row w g k _ _ h
theorem AtIn.keep {w w' : World} {g : Nat} {x : At} (h : AtIn w g x) (e : w'.heap[g]? = w.heap[g]?) : AtIn w' g x := e.trans h
theorem atC_one (x : At) : ∀ u ∈ atC x, u.oneCell' = true := fun u hu => (Array.all_eq_true_iff_forall_mem.1 (atC_oneA x)) u (List.mem_toArray.2 hu)
theorem below_set {a w : World} {B g : Nat} (h : Below B a w) (hg : B ≤ g) (k : Nat) (u : Value) : Below B a (w.setCell ⟨g, k, none⟩ u) := h.setCell hg _
theorem own_setAt {w : World} {B : Nat} {e : TypeId} {size n : Nat} {v : Value} {xs : List Value} {g : Nat} (h : w.ownsRow B e size v n xs) (hk : ∀ k, v.ownBlock = some k → k ≠ g) (j : Nat) (u : Value) : (w.setCell ⟨g, j, none⟩ u).ownsRow B e size v n xs :=
  own_same h fun k hv => Below.heap_setCell _ _ _ _ (hk k hv)
theorem wpList_buildOne {ops : Array Oper} {rest : List Oper} {o : Oper} {a : Act} {w : World} {Q : Exit → Act → World → Prop} (hg : o.guard = none) (x : Operand) (ho : o.op = .buildSlice 28 1 #[(0, x)]) (y : At) (hx : a.eval x = .agg (atC y).toArray)
    (h : wpList Tryd.prog ops Q rest (a.put o.dst (.slice (some ⟨w.heap.size, 0, none⟩) 1 1)) (w.alloc (.cells (atC y).toArray 26))) : wpList Tryd.prog ops Q (o :: rest) a w := by
  obtain ⟨i, hi, hz, hsize, hby⟩ := info_parts atom_info
  refine wpList_buildSlice hg 28 26 1 #[(0, x)] ho (atC y).toArray i _ Tryd.underlying28 hi hz (by rw [hsize]; decide) (by rw [hsize]; decide) ?_ h
  rw [hsize]
  simp only [List.map_toArray, List.map_cons, List.map_nil, hx]
  exact fill_atom y
/-- What a call of Parse gives. -/
def RetPar (w : World) (r : List At × Nat × Int) (e : Ending) (w' : World) : Prop := ∃ v, e = .returned (.tuple #[v, .int .i64 (r.2.1 : Nat), .int .i64 r.2.2]) ∧ OwnE 26 atC 34 w' w.heap.size v r.1 ∧ Below w.heap.size w w'

set_option maxRecDepth 100000 in
set_option maxHeartbeats 4000000 in
theorem parse_any (w : World) (s : ByteArray) (hs : s.size ≤ 2147483648) :
    Calls Tryd.prog 113 #[.string s] w (RetPar w (parseF s)) := by
  have HS0 : Hid (ScIn (w.alloc (.cells #[.string s, .int .i64 0, .bool false] 137)) w.heap.size s 0 false) := heap_alloc_new w _
  have HB0 := Lib.hid ((Below.refl w.heap.size w).alloc (Nat.le_refl _) (.cells #[.string s, .int .i64 0, .bool false] 137))
  generalize hV : parseF s = V
  have HV : Hid (parseL s (s.size + 1) 0 [] = V) := hV
  clear hV
  go_enter Tryd.func113, Tryd.ntmps113
  go_wp2_with fail
  generalize w.alloc (.cells #[.string s, .int .i64 0, .bool false] 137) = w1 at HS0 HB0 ⊢
  go_loopw [2] (fun kv wr => ∃ (i : Nat) (l : List At), Hid (ScIn wr w.heap.size s i false) ∧ i ≤ s.size ∧ l.length ≤ 32 ∧ Hid (OwnE 26 atC 34 wr (w.heap.size + 1) kv l) ∧ Hid (Below w.heap.size w wr) ∧ ∃ f, Hid (s.size - i < f ∧ parseL s f i l = V)) (fun kv _ => 33 - (match kv with | .slice _ n _ => n | _ => 0))
  case atStart => exact ⟨0, [], HS0.out, by omega, by simp, OwnE.nil, HB0.out, s.size + 1, by omega, HV.out⟩
  case round =>
    clear HS0 HB0 HV
    obtain ⟨i, l, HS, hi, hl, HO, HB, f, HX⟩ := hrel
    obtain ⟨A, cA, hkv⟩ := own_shape HO.out
    subst hkv
    obtain ⟨f', HF'⟩ : ∃ f', Hid (f = f' + 1) := ⟨f - 1, by have := HX.out.1; show _ = _; omega⟩
    by_cases hlt : i < s.size
    · have HX1 : Hid (s.size - i < f' + 1 ∧ (if 32 ≤ l.length then ([], i, 3) else if (outF s i).bad = true then ([], (outF s i).j, 2) else parseL s f' (quantF s (outF s i).j).2.2 (l ++ [⟨(outF s i).p, (quantF s (outF s i).j).1, (quantF s (outF s i).j).2.1⟩])) = V) := by
        have h := HX.out
        rw [HF'.out] at h
        unfold parseL at h
        rw [if_pos hlt] at h
        exact h
      clear HX HF'
      go_upto_region 3 with (go_at_call 120; refine (more_any _ w.heap.size s i false (by exact HS.out) (by unfold maxLen; omega)).mono ?_; rintro e w' ⟨rfl, nm, rfl⟩)
      have HS1 : Hid (ScIn (wr.drewN nm) w.heap.size s i false) := HS.out
      have HO1 : Hid (OwnE 26 atC 34 (wr.drewN nm) (w.heap.size + 1) (.slice A l.length cA) l) := HO.out
      have HB1 : Hid (Below w.heap.size w (wr.drewN nm)) := below_drewN HB.out nm
      clear HS HO HB
      generalize wr.drewN nm = w2 at HS1 HO1 HB1 ⊢
      have q1 := HS1.out.c1
      by_cases h32 : 32 ≤ l.length
      · have HVE : Hid (V = ([], i, 3)) := by show _ = _; rw [← HX1.out.2, if_pos h32]
        go_wp2_with fail
        go_ret3
        rw [HVE.out]
        exact ⟨_, rfl, OwnE.nil, HB1.out⟩
      · have HX2 : Hid (s.size - i < f' + 1 ∧ (if (outF s i).bad = true then ([], (outF s i).j, 2) else parseL s f' (quantF s (outF s i).j).2.2 (l ++ [⟨(outF s i).p, (quantF s (outF s i).j).1, (quantF s (outF s i).j).2.1⟩])) = V) := by
          have h := HX1.out
          rw [if_neg h32] at h
          exact h
        have HJ := Lib.hid (outF_ok s i hlt)
        have HE := Lib.hid (outside_any w2 w.heap.size s i HS1.out hlt hs)
        obtain ⟨⟨p0, b0, one0, j0, bad0⟩, HD⟩ : ∃ r, Hid (r = outF s i) := ⟨_, rfl⟩
        rw [← HD.out] at HX2 HJ HE
        clear HD HX1
        go_upto_region 7 with (first
          | (go_at_call 121; refine HE.out.mono ?_; rintro e w3 ⟨rfl, hs3, ho3⟩; rename_i K8 hK8; dsimp only at hs3 ⊢; refine hK8 _ _ ?_; clear hK8; refine wpList_buildAtom rfl (.tmp 22) rfl p0 rfl ?_)
          | (refine wpList_store_row rfl 26 (.tmp 7) (.tmp 23) rfl (w3.heap.size) (atC ⟨p0, 1, false⟩).toArray rfl rfl 26 (atC ⟨noP, 0, false⟩).toArray (at_zero w3) (by rw [atom_size, atC_size]) (by simp only [atC_size]) (atC_oneA _) ?_))
        have hR3 := hs3.lt
        have HS3 := Lib.hid ((hs3.below ((Below.refl _ w3).alloc (Nat.le_refl _) (.cells #[.int .u8 0, .int .u8 0, .int .u8 0, .int .u8 0, .int .u8 0, .int .u8 0, .int .u8 0, .int .u8 0, .int .u8 0, .int .u8 0, .int .u8 0, .int .u8 0, .int .u8 0, .int .u8 0, .int .u8 0, .int .u8 0, .int .u8 0, .int .u8 0, .int .u8 0, .int .u8 0, .int .u8 0, .int .u8 0, .int .u8 0, .int .u8 0, .int .u8 0, .int .u8 0, .int .u8 0, .int .u8 0, .int .u8 0, .int .u8 0, .int .u8 0, .int .u8 0, .int .i64 0, .bool false] 26))).keep (w' := (w3.alloc (.cells #[.int .u8 0, .int .u8 0, .int .u8 0, .int .u8 0, .int .u8 0, .int .u8 0, .int .u8 0, .int .u8 0, .int .u8 0, .int .u8 0, .int .u8 0, .int .u8 0, .int .u8 0, .int .u8 0, .int .u8 0, .int .u8 0, .int .u8 0, .int .u8 0, .int .u8 0, .int .u8 0, .int .u8 0, .int .u8 0, .int .u8 0, .int .u8 0, .int .u8 0, .int .u8 0, .int .u8 0, .int .u8 0, .int .u8 0, .int .u8 0, .int .u8 0, .int .u8 0, .int .i64 0, .bool false] 26)).setRow w3.heap.size (atC ⟨p0, 1, false⟩).toArray) (setRow_other _ _ _ _ (by omega)))
        have HA3 := Lib.hid ((at_zero w3).row ⟨p0, 1, false⟩)
        have HB3 : Hid (Below w.heap.size w ((w3.alloc (.cells #[.int .u8 0, .int .u8 0, .int .u8 0, .int .u8 0, .int .u8 0, .int .u8 0, .int .u8 0, .int .u8 0, .int .u8 0, .int .u8 0, .int .u8 0, .int .u8 0, .int .u8 0, .int .u8 0, .int .u8 0, .int .u8 0, .int .u8 0, .int .u8 0, .int .u8 0, .int .u8 0, .int .u8 0, .int .u8 0, .int .u8 0, .int .u8 0, .int .u8 0, .int .u8 0, .int .u8 0, .int .u8 0, .int .u8 0, .int .u8 0, .int .u8 0, .int .u8 0, .int .i64 0, .bool false] 26)).setRow w3.heap.size (atC ⟨p0, 1, false⟩).toArray)) := below_setRow ((HB1.out.trans (ho3.below (Nat.le_refl _) HB1.out.size)).alloc (Nat.le_of_lt hR3) _) (Nat.le_of_lt hR3) _
        have HO3 : Hid (OwnE 26 atC 34 ((w3.alloc (.cells #[.int .u8 0, .int .u8 0, .int .u8 0, .int .u8 0, .int .u8 0, .int .u8 0, .int .u8 0, .int .u8 0, .int .u8 0, .int .u8 0, .int .u8 0, .int .u8 0, .int .u8 0, .int .u8 0, .int .u8 0, .int .u8 0, .int .u8 0, .int .u8 0, .int .u8 0, .int .u8 0, .int .u8 0, .int .u8 0, .int .u8 0, .int .u8 0, .int .u8 0, .int .u8 0, .int .u8 0, .int .u8 0, .int .u8 0, .int .u8 0, .int .u8 0, .int .u8 0, .int .i64 0, .bool false] 26)).setRow w3.heap.size (atC ⟨p0, 1, false⟩).toArray) (w.heap.size + 1) (.slice A l.length cA) l) := own_same HO1.out fun k hk => by
          have h1 := HO1.out.lt k hk
          rw [setRow_other _ _ _ _ (by have := ho3.size; omega), Below.heap_alloc _ _ _ (by have := ho3.size; omega)]
          exact ho3.block k h1.2 (by omega)
        have hg3 : w.heap.size < w3.heap.size := hR3
        have HG : Hid (∀ k, (Value.slice A l.length cA).ownBlock = some k → k ≠ w3.heap.size) := fun k hk => by
          have h1 := HO1.out.lt k hk
          have := ho3.size
          omega
        have HGR : Hid (∀ k, (Value.slice A l.length cA).ownBlock = some k → k ≠ w.heap.size) := fun k hk => by
          have h1 := HO1.out.lt k hk
          omega
        clear hs3 ho3 HS1 HO1 HB1 HE q1 hR3
        generalize hw3 : w3.heap.size = g at HS3 HA3 HB3 HO3 hg3 HG ⊢
        generalize (w3.alloc (.cells #[.int .u8 0, .int .u8 0, .int .u8 0, .int .u8 0, .int .u8 0, .int .u8 0, .int .u8 0, .int .u8 0, .int .u8 0, .int .u8 0, .int .u8 0, .int .u8 0, .int .u8 0, .int .u8 0, .int .u8 0, .int .u8 0, .int .u8 0, .int .u8 0, .int .u8 0, .int .u8 0, .int .u8 0, .int .u8 0, .int .u8 0, .int .u8 0, .int .u8 0, .int .u8 0, .int .u8 0, .int .u8 0, .int .u8 0, .int .u8 0, .int .u8 0, .int .u8 0, .int .i64 0, .bool false] 26)).setRow g (atC ⟨p0, 1, false⟩).toArray = w4 at HS3 HA3 HB3 HO3 ⊢
        clear hw3
        have q2 := HS3.out.c2
        have q1 := HS3.out.c1
        by_cases hbad : bad0 = true
        · subst hbad
          have HVE : Hid (V = ([], j0, 2)) := by show _ = _; rw [← HX2.out.2, if_pos rfl]
          go_wp2_with fail
          go_quiet (fail)
          go_wp2_with fail
          go_ret3
          rw [HVE.out]
          exact ⟨_, rfl, OwnE.nil, below_drewN HB3.out _⟩
        · have hbad' : bad0 = false := by simpa using hbad
          subst hbad'
          have hj1 : i < j0 := (HJ.out rfl).1
          have hj2 : j0 ≤ s.size := (HJ.out rfl).2
          have HX3 : Hid (s.size - i < f' + 1 ∧ parseL s f' (quantF s j0).2.2 (l ++ [⟨p0, (quantF s j0).1, (quantF s j0).2.1⟩]) = V) := by
            have h := HX2.out
            rw [if_neg (by simp)] at h
            exact h
          clear HX2 HJ hbad q1
          by_cases hj0 : j0 < s.size
          · have hj0i : (j0 : Int) < (s.size : Int) := by omega
            go_upto_region 10 with (go_at_call 120; refine (more_any _ w.heap.size s j0 false (by exact HS3.out) (by unfold maxLen; omega)).mono ?_; rintro e w' ⟨rfl, nm, rfl⟩)
            have HS5 : Hid (ScIn (w4.drewN nm) w.heap.size s j0 false) := HS3.out
            have HA5 : Hid (AtIn (w4.drewN nm) g ⟨p0, 1, false⟩) := HA3.out
            have HO5 : Hid (OwnE 26 atC 34 (w4.drewN nm) (w.heap.size + 1) (.slice A l.length cA) l) := HO3.out
            have HB5 : Hid (Below w.heap.size w (w4.drewN nm)) := below_drewN HB3.out nm
            clear HS3 HA3 HO3 HB3 q2
            generalize w4.drewN nm = w5 at HS5 HA5 HB5 HO5 ⊢
            have q0 := HS5.out.c0
            have q1 := HS5.out.c1
            have f1 := HS5.out.free 1
            have r32 : w5.cell? ⟨g, 32, none⟩ = some (.int .i64 1) := HA5.out.mn
            have r33 : w5.cell? ⟨g, 33, none⟩ = some (.bool false) := HA5.out.many
            have g32 := HA5.out.free 32
            have g33 := HA5.out.free 33
            by_cases h42 : s[j0].toNat = 42
            · have t42 : ((s[j0].toNat : Int) == 42) = true := beq_iff_eq.2 (by omega)
              have h42' : bt s j0 = 42 := by rw [bt_get s j0 hj0]; exact h42
              clear h42
              have HQ : Hid (quantF s j0 = (0, true, j0 + 1)) := by
                show _ = _
                unfold quantF
                rw [if_pos hj0, if_pos h42']
              have HS6 : Hid (ScIn (((w5.setCell ⟨g, 32, none⟩ (.int .i64 0)).setCell ⟨g, 33, none⟩ (.bool true)).setCell ⟨w.heap.size, 1, none⟩ (.int .i64 ((j0 + 1 : Nat) : Int))) w.heap.size s (j0 + 1) false) := (((HS5.out.other (Nat.ne_of_lt hg3) 32 (.int .i64 0)).other (Nat.ne_of_lt hg3) 33 (.bool true)).set1 (j0 + 1))
              have HA6 : Hid (AtIn (((w5.setCell ⟨g, 32, none⟩ (.int .i64 0)).setCell ⟨g, 33, none⟩ (.bool true)).setCell ⟨w.heap.size, 1, none⟩ (.int .i64 ((j0 + 1 : Nat) : Int))) g ⟨p0, 0, true⟩) := (((HA5.out.setMn _).setMany _).keep (Below.heap_setCell _ ⟨w.heap.size, 1, none⟩ _ _ (Nat.ne_of_gt hg3)))
              have HB6 : Hid (Below w.heap.size w (((w5.setCell ⟨g, 32, none⟩ (.int .i64 0)).setCell ⟨g, 33, none⟩ (.bool true)).setCell ⟨w.heap.size, 1, none⟩ (.int .i64 ((j0 + 1 : Nat) : Int)))) := (below_set (below_set (below_set HB5.out (Nat.le_of_lt hg3) _ _) (Nat.le_of_lt hg3) _ _) (Nat.le_refl _) _ _)
              have HO6 : Hid (OwnE 26 atC 34 (((w5.setCell ⟨g, 32, none⟩ (.int .i64 0)).setCell ⟨g, 33, none⟩ (.bool true)).setCell ⟨w.heap.size, 1, none⟩ (.int .i64 ((j0 + 1 : Nat) : Int))) (w.heap.size + 1) (.slice A l.length cA) l) := (own_setAt (own_setAt (own_setAt HO5.out HG.out _ _) HG.out _ _) HGR.out _ _)
              go_upto_region 20 with fail
              rw [show (j0 : Int) + 1 = ((j0 + 1 : Nat) : Int) by omega]
              clear HS5 HA5 HB5 HO5 q0 q1 f1 r32 r33 g32 g33
              generalize ((w5.setCell ⟨g, 32, none⟩ (.int .i64 0)).setCell ⟨g, 33, none⟩ (.bool true)).setCell ⟨w.heap.size, 1, none⟩ (.int .i64 ((j0 + 1 : Nat) : Int)) = w6 at HS6 HA6 HB6 HO6 ⊢
              have hz6 := HS6.out.lt
              go_wp2_with (first
                | (refine wpList_load_row rfl 26 (.tmp 7) rfl (g) rfl 26 (atC ⟨p0, 0, true⟩).toArray (0, 0) _ HA6.out Tryd.underlying26 rfl (by rw [atom_size, atC_size]) ?_)
                | (refine wpList_buildOne rfl (.tmp 72) (by rfl) ⟨p0, 0, true⟩ (by rfl) ?_)
                | (refine wpList_app1 rfl (.tmp 71) (.tmp 73) 28 26 rfl Tryd.underlying28 _ 34 48 atom_info rfl (by decide) (w.heap.size + 1) (.slice A l.length cA) l.length (l.flatMap atC) rfl (own_below HO6.out ((Below.refl _ w6).alloc (Nat.le_refl _) _) (Nat.le_refl _)) ⟨w6.heap.size, 0, none⟩ 1 (atC ⟨p0, 0, true⟩) rfl (atC_len _) (cells_new w6 (atC ⟨p0, 0, true⟩) 26) (atC_one _) (by omega) (by decide) (by simp; omega) ?_; intro g2 cap w9 hown9 hbg9 hbel9 hgrow9))
              have HS9 := Lib.hid (HS6.out.keep ((hbel9 (w.heap.size + 1) w6 (Nat.le_refl _) ((Below.refl _ w6).alloc (by omega) _)).block _ (Nat.lt_succ_self _)))
              have HB9 := Lib.hid (hbel9 w.heap.size w (Nat.le_succ _) (HB6.out.alloc (by omega) _))
              have HO9 : Hid (OwnE 26 atC 34 w9 (w.heap.size + 1) (.slice (some ⟨g2, 0, none⟩) (l.length + 1) cap) (l ++ [⟨p0, 0, true⟩])) := OwnE.snoc hown9
              have HXE : Hid (s.size - (j0 + 1) < f' ∧ parseL s f' (j0 + 1) (l ++ [⟨p0, 0, true⟩]) = V) := by
                have h := HX3.out
                rw [HQ.out] at h
                exact ⟨by omega, h.2⟩
              clear hown9 hbel9 hgrow9 HX3 HQ HS6 HA6 HB6 HO6
              go_roundw
              case rel => exact ⟨(j0 + 1), l ++ [(At.mk p0 0 true)], HS9.out, by omega, by simp; omega, HO9.out, HB9.out, f', HXE.out⟩
              case measure => simp; omega
            · have t42 : ((s[j0].toNat : Int) == 42) = false := beq_eq_false_iff_ne.2 (by omega)
              have h42' : ¬ bt s j0 = 42 := by rw [bt_get s j0 hj0]; exact h42
              clear h42
              by_cases h43 : s[j0].toNat = 43
              · have t43 : ((s[j0].toNat : Int) == 43) = true := beq_iff_eq.2 (by omega)
                have h43' : bt s j0 = 43 := by rw [bt_get s j0 hj0]; exact h43
                clear h43
                have HQ : Hid (quantF s j0 = (1, true, j0 + 1)) := by
                  show _ = _
                  unfold quantF
                  rw [if_pos hj0, if_neg h42', if_pos h43']
                have HS6 : Hid (ScIn ((w5.setCell ⟨g, 33, none⟩ (.bool true)).setCell ⟨w.heap.size, 1, none⟩ (.int .i64 ((j0 + 1 : Nat) : Int))) w.heap.size s (j0 + 1) false) := ((HS5.out.other (Nat.ne_of_lt hg3) 33 (.bool true)).set1 (j0 + 1))
                have HA6 : Hid (AtIn ((w5.setCell ⟨g, 33, none⟩ (.bool true)).setCell ⟨w.heap.size, 1, none⟩ (.int .i64 ((j0 + 1 : Nat) : Int))) g ⟨p0, 1, true⟩) := ((HA5.out.setMany _).keep (Below.heap_setCell _ ⟨w.heap.size, 1, none⟩ _ _ (Nat.ne_of_gt hg3)))
                have HB6 : Hid (Below w.heap.size w ((w5.setCell ⟨g, 33, none⟩ (.bool true)).setCell ⟨w.heap.size, 1, none⟩ (.int .i64 ((j0 + 1 : Nat) : Int)))) := (below_set (below_set HB5.out (Nat.le_of_lt hg3) _ _) (Nat.le_refl _) _ _)
                have HO6 : Hid (OwnE 26 atC 34 ((w5.setCell ⟨g, 33, none⟩ (.bool true)).setCell ⟨w.heap.size, 1, none⟩ (.int .i64 ((j0 + 1 : Nat) : Int))) (w.heap.size + 1) (.slice A l.length cA) l) := (own_setAt (own_setAt HO5.out HG.out _ _) HGR.out _ _)
                go_upto_region 20 with fail
                rw [show (j0 : Int) + 1 = ((j0 + 1 : Nat) : Int) by omega]
                clear HS5 HA5 HB5 HO5 q0 q1 f1 r32 r33 g32 g33
                generalize (w5.setCell ⟨g, 33, none⟩ (.bool true)).setCell ⟨w.heap.size, 1, none⟩ (.int .i64 ((j0 + 1 : Nat) : Int)) = w6 at HS6 HA6 HB6 HO6 ⊢
                have hz6 := HS6.out.lt
                go_wp2_with (first
                  | (refine wpList_load_row rfl 26 (.tmp 7) rfl (g) rfl 26 (atC ⟨p0, 1, true⟩).toArray (0, 0) _ HA6.out Tryd.underlying26 rfl (by rw [atom_size, atC_size]) ?_)
                  | (refine wpList_buildOne rfl (.tmp 72) (by rfl) ⟨p0, 1, true⟩ (by rfl) ?_)
                  | (refine wpList_app1 rfl (.tmp 71) (.tmp 73) 28 26 rfl Tryd.underlying28 _ 34 48 atom_info rfl (by decide) (w.heap.size + 1) (.slice A l.length cA) l.length (l.flatMap atC) rfl (own_below HO6.out ((Below.refl _ w6).alloc (Nat.le_refl _) _) (Nat.le_refl _)) ⟨w6.heap.size, 0, none⟩ 1 (atC ⟨p0, 1, true⟩) rfl (atC_len _) (cells_new w6 (atC ⟨p0, 1, true⟩) 26) (atC_one _) (by omega) (by decide) (by simp; omega) ?_; intro g2 cap w9 hown9 hbg9 hbel9 hgrow9))
                have HS9 := Lib.hid (HS6.out.keep ((hbel9 (w.heap.size + 1) w6 (Nat.le_refl _) ((Below.refl _ w6).alloc (by omega) _)).block _ (Nat.lt_succ_self _)))
                have HB9 := Lib.hid (hbel9 w.heap.size w (Nat.le_succ _) (HB6.out.alloc (by omega) _))
                have HO9 : Hid (OwnE 26 atC 34 w9 (w.heap.size + 1) (.slice (some ⟨g2, 0, none⟩) (l.length + 1) cap) (l ++ [⟨p0, 1, true⟩])) := OwnE.snoc hown9
                have HXE : Hid (s.size - (j0 + 1) < f' ∧ parseL s f' (j0 + 1) (l ++ [⟨p0, 1, true⟩]) = V) := by
                  have h := HX3.out
                  rw [HQ.out] at h
                  exact ⟨by omega, h.2⟩
                clear hown9 hbel9 hgrow9 HX3 HQ HS6 HA6 HB6 HO6
                go_roundw
                case rel => exact ⟨(j0 + 1), l ++ [(At.mk p0 1 true)], HS9.out, by omega, by simp; omega, HO9.out, HB9.out, f', HXE.out⟩
                case measure => simp; omega
              · have t43 : ((s[j0].toNat : Int) == 43) = false := beq_eq_false_iff_ne.2 (by omega)
                have h43' : ¬ bt s j0 = 43 := by rw [bt_get s j0 hj0]; exact h43
                clear h43
                by_cases h63 : s[j0].toNat = 63
                · have t63 : ((s[j0].toNat : Int) == 63) = true := beq_iff_eq.2 (by omega)
                  have h63' : bt s j0 = 63 := by rw [bt_get s j0 hj0]; exact h63
                  clear h63
                  have HQ : Hid (quantF s j0 = (0, false, j0 + 1)) := by
                    show _ = _
                    unfold quantF
                    rw [if_pos hj0, if_neg h42', if_neg h43', if_pos h63']
                  have HS6 : Hid (ScIn ((w5.setCell ⟨g, 32, none⟩ (.int .i64 0)).setCell ⟨w.heap.size, 1, none⟩ (.int .i64 ((j0 + 1 : Nat) : Int))) w.heap.size s (j0 + 1) false) := ((HS5.out.other (Nat.ne_of_lt hg3) 32 (.int .i64 0)).set1 (j0 + 1))
                  have HA6 : Hid (AtIn ((w5.setCell ⟨g, 32, none⟩ (.int .i64 0)).setCell ⟨w.heap.size, 1, none⟩ (.int .i64 ((j0 + 1 : Nat) : Int))) g ⟨p0, 0, false⟩) := ((HA5.out.setMn _).keep (Below.heap_setCell _ ⟨w.heap.size, 1, none⟩ _ _ (Nat.ne_of_gt hg3)))
                  have HB6 : Hid (Below w.heap.size w ((w5.setCell ⟨g, 32, none⟩ (.int .i64 0)).setCell ⟨w.heap.size, 1, none⟩ (.int .i64 ((j0 + 1 : Nat) : Int)))) := (below_set (below_set HB5.out (Nat.le_of_lt hg3) _ _) (Nat.le_refl _) _ _)
                  have HO6 : Hid (OwnE 26 atC 34 ((w5.setCell ⟨g, 32, none⟩ (.int .i64 0)).setCell ⟨w.heap.size, 1, none⟩ (.int .i64 ((j0 + 1 : Nat) : Int))) (w.heap.size + 1) (.slice A l.length cA) l) := (own_setAt (own_setAt HO5.out HG.out _ _) HGR.out _ _)
                  go_upto_region 20 with fail
                  rw [show (j0 : Int) + 1 = ((j0 + 1 : Nat) : Int) by omega]
                  clear HS5 HA5 HB5 HO5 q0 q1 f1 r32 r33 g32 g33
                  generalize (w5.setCell ⟨g, 32, none⟩ (.int .i64 0)).setCell ⟨w.heap.size, 1, none⟩ (.int .i64 ((j0 + 1 : Nat) : Int)) = w6 at HS6 HA6 HB6 HO6 ⊢
                  have hz6 := HS6.out.lt
                  go_wp2_with (first
                    | (refine wpList_load_row rfl 26 (.tmp 7) rfl (g) rfl 26 (atC ⟨p0, 0, false⟩).toArray (0, 0) _ HA6.out Tryd.underlying26 rfl (by rw [atom_size, atC_size]) ?_)
                    | (refine wpList_buildOne rfl (.tmp 72) (by rfl) ⟨p0, 0, false⟩ (by rfl) ?_)
                    | (refine wpList_app1 rfl (.tmp 71) (.tmp 73) 28 26 rfl Tryd.underlying28 _ 34 48 atom_info rfl (by decide) (w.heap.size + 1) (.slice A l.length cA) l.length (l.flatMap atC) rfl (own_below HO6.out ((Below.refl _ w6).alloc (Nat.le_refl _) _) (Nat.le_refl _)) ⟨w6.heap.size, 0, none⟩ 1 (atC ⟨p0, 0, false⟩) rfl (atC_len _) (cells_new w6 (atC ⟨p0, 0, false⟩) 26) (atC_one _) (by omega) (by decide) (by simp; omega) ?_; intro g2 cap w9 hown9 hbg9 hbel9 hgrow9))
                  have HS9 := Lib.hid (HS6.out.keep ((hbel9 (w.heap.size + 1) w6 (Nat.le_refl _) ((Below.refl _ w6).alloc (by omega) _)).block _ (Nat.lt_succ_self _)))
                  have HB9 := Lib.hid (hbel9 w.heap.size w (Nat.le_succ _) (HB6.out.alloc (by omega) _))
                  have HO9 : Hid (OwnE 26 atC 34 w9 (w.heap.size + 1) (.slice (some ⟨g2, 0, none⟩) (l.length + 1) cap) (l ++ [⟨p0, 0, false⟩])) := OwnE.snoc hown9
                  have HXE : Hid (s.size - (j0 + 1) < f' ∧ parseL s f' (j0 + 1) (l ++ [⟨p0, 0, false⟩]) = V) := by
                    have h := HX3.out
                    rw [HQ.out] at h
                    exact ⟨by omega, h.2⟩
                  clear hown9 hbel9 hgrow9 HX3 HQ HS6 HA6 HB6 HO6
                  go_roundw
                  case rel => exact ⟨(j0 + 1), l ++ [(At.mk p0 0 false)], HS9.out, by omega, by simp; omega, HO9.out, HB9.out, f', HXE.out⟩
                  case measure => simp; omega
                · have t63 : ((s[j0].toNat : Int) == 63) = false := beq_eq_false_iff_ne.2 (by omega)
                  have h63' : ¬ bt s j0 = 63 := by rw [bt_get s j0 hj0]; exact h63
                  clear h63
                  have HQ : Hid (quantF s j0 = (1, false, j0)) := by
                    show _ = _
                    unfold quantF
                    rw [if_pos hj0, if_neg h42', if_neg h43', if_neg h63']
                  go_upto_region 20 with fail
                  clear q0 q1 f1 r32 r33 g32 g33
                  have hz5 := HS5.out.lt
                  go_wp2_with (first
                    | (refine wpList_load_row rfl 26 (.tmp 7) rfl (g) rfl 26 (atC ⟨p0, 1, false⟩).toArray (0, 0) _ HA5.out Tryd.underlying26 rfl (by rw [atom_size, atC_size]) ?_)
                    | (refine wpList_buildOne rfl (.tmp 72) (by rfl) ⟨p0, 1, false⟩ (by rfl) ?_)
                    | (refine wpList_app1 rfl (.tmp 71) (.tmp 73) 28 26 rfl Tryd.underlying28 _ 34 48 atom_info rfl (by decide) (w.heap.size + 1) (.slice A l.length cA) l.length (l.flatMap atC) rfl (own_below HO5.out ((Below.refl _ w5).alloc (Nat.le_refl _) _) (Nat.le_refl _)) ⟨w5.heap.size, 0, none⟩ 1 (atC ⟨p0, 1, false⟩) rfl (atC_len _) (cells_new w5 (atC ⟨p0, 1, false⟩) 26) (atC_one _) (by omega) (by decide) (by simp; omega) ?_; intro g2 cap w9 hown9 hbg9 hbel9 hgrow9))
                  have HS9 := Lib.hid (HS5.out.keep ((hbel9 (w.heap.size + 1) w5 (Nat.le_refl _) ((Below.refl _ w5).alloc (by omega) _)).block _ (Nat.lt_succ_self _)))
                  have HB9 := Lib.hid (hbel9 w.heap.size w (Nat.le_succ _) (HB5.out.alloc (by omega) _))
                  have HO9 : Hid (OwnE 26 atC 34 w9 (w.heap.size + 1) (.slice (some ⟨g2, 0, none⟩) (l.length + 1) cap) (l ++ [⟨p0, 1, false⟩])) := OwnE.snoc hown9
                  have HXE : Hid (s.size - j0 < f' ∧ parseL s f' j0 (l ++ [⟨p0, 1, false⟩]) = V) := by
                    have h := HX3.out
                    rw [HQ.out] at h
                    exact ⟨by omega, h.2⟩
                  clear hown9 hbel9 hgrow9 HX3 HQ HS5 HA5 HB5 HO5
                  go_roundw
                  case rel => exact ⟨j0, l ++ [(At.mk p0 1 false)], HS9.out, by omega, by simp; omega, HO9.out, HB9.out, f', HXE.out⟩
                  case measure => simp; omega
          · have HQ : Hid (quantF s j0 = (1, false, j0)) := by
              show _ = _
              unfold quantF
              rw [if_neg hj0]
            go_upto_region 20 with (go_at_call 120; refine (more_any _ w.heap.size s j0 false (by exact HS3.out) (by unfold maxLen; omega)).mono ?_; rintro e w' ⟨rfl, nm, rfl⟩)
            have HS5 : Hid (ScIn (w4.drewN nm) w.heap.size s j0 false) := HS3.out
            have HA5 : Hid (AtIn (w4.drewN nm) g ⟨p0, 1, false⟩) := HA3.out
            have HO5 : Hid (OwnE 26 atC 34 (w4.drewN nm) (w.heap.size + 1) (.slice A l.length cA) l) := HO3.out
            have HB5 : Hid (Below w.heap.size w (w4.drewN nm)) := below_drewN HB3.out nm
            clear HS3 HA3 HO3 HB3 q2
            generalize w4.drewN nm = w5 at HS5 HA5 HB5 HO5 ⊢
            have hz5 := HS5.out.lt
            go_wp2_with (first
              | (refine wpList_load_row rfl 26 (.tmp 7) rfl (g) rfl 26 (atC ⟨p0, 1, false⟩).toArray (0, 0) _ HA5.out Tryd.underlying26 rfl (by rw [atom_size, atC_size]) ?_)
              | (refine wpList_buildOne rfl (.tmp 72) (by rfl) ⟨p0, 1, false⟩ (by rfl) ?_)
              | (refine wpList_app1 rfl (.tmp 71) (.tmp 73) 28 26 rfl Tryd.underlying28 _ 34 48 atom_info rfl (by decide) (w.heap.size + 1) (.slice A l.length cA) l.length (l.flatMap atC) rfl (own_below HO5.out ((Below.refl _ w5).alloc (Nat.le_refl _) _) (Nat.le_refl _)) ⟨w5.heap.size, 0, none⟩ 1 (atC ⟨p0, 1, false⟩) rfl (atC_len _) (cells_new w5 (atC ⟨p0, 1, false⟩) 26) (atC_one _) (by omega) (by decide) (by simp; omega) ?_; intro g2 cap w9 hown9 hbg9 hbel9 hgrow9))
            have HS9 := Lib.hid (HS5.out.keep ((hbel9 (w.heap.size + 1) w5 (Nat.le_refl _) ((Below.refl _ w5).alloc (by omega) _)).block _ (Nat.lt_succ_self _)))
            have HB9 := Lib.hid (hbel9 w.heap.size w (Nat.le_succ _) (HB5.out.alloc (by omega) _))
            have HO9 : Hid (OwnE 26 atC 34 w9 (w.heap.size + 1) (.slice (some ⟨g2, 0, none⟩) (l.length + 1) cap) (l ++ [⟨p0, 1, false⟩])) := OwnE.snoc hown9
            have HXE : Hid (s.size - j0 < f' ∧ parseL s f' j0 (l ++ [⟨p0, 1, false⟩]) = V) := by
              have h := HX3.out
              rw [HQ.out] at h
              exact ⟨by omega, h.2⟩
            clear hown9 hbel9 hgrow9 HX3 HQ HS5 HA5 HB5 HO5
            go_roundw
            case rel => exact ⟨j0, l ++ [(At.mk p0 1 false)], HS9.out, by omega, by simp; omega, HO9.out, HB9.out, f', HXE.out⟩
            case measure => simp; omega
    · have HVE : Hid (V = (l, 0, 0)) := by
        have h := HX.out.2
        rw [HF'.out] at h
        unfold parseL at h
        rw [if_neg hlt] at h
        exact h.symm
      go_wp2_with (go_at_call 120; refine (more_any _ w.heap.size s i false (by exact HS.out) (by unfold maxLen; omega)).mono ?_; rintro e w' ⟨rfl, nm, rfl⟩)
      go_ret3
      rw [HVE.out]
      exact ⟨_, rfl, own_base HO.out (Nat.le_succ _), below_drewN HB.out _⟩

end Go.Proofs.YtpboaadjbkaidaaDoor

namespace Go.Proofs.YtpboaadjbkaidaaDoor
set_option maxRecDepth 100000
open Go.RowKit

theorem AtIn.range {w : World} {g : Nat} {x : At} (h : AtIn w g x) : w.rangeAt g 0 (atC x) := fun j v hj => by
  rw [Nat.zero_add, cell_of_row _ _ _ _ _ _ h]
  simpa using hj
theorem bool_info : (Tryd.prog.info? 4).map (fun i => (i.zero, i.size, i.bytes)) = some (some (.bool false), 1, 1) := by kernel_rfl
/-- A slice of n Bools. -/
def PlIn (w : World) (v : Value) (n : Nat) (f : Nat → Bool) : Prop := ∃ b o c, v = .slice (some ⟨b, o, none⟩) n c ∧ b < w.heap.size ∧ ∀ j, j < n → w.cell? ⟨b, o + j, none⟩ = some (.bool (f j))
theorem PlIn.below {w w' : World} {v : Value} {n : Nat} {f : Nat → Bool} (h : PlIn w v n f) {B : Nat} (hb : Below B w w') (hB : w.heap.size ≤ B) : PlIn w' v n f := by
  obtain ⟨b, o, c, hv, hl, hc⟩ := h
  exact ⟨b, o, c, hv, Nat.lt_of_lt_of_le hl hb.size, fun j hj => (hb.cell (p := ⟨b, o + j, none⟩) (Nat.lt_of_lt_of_le hl hB)).trans (hc j hj)⟩
theorem PlIn.congr {w : World} {v : Value} {n : Nat} {f g : Nat → Bool} (h : PlIn w v n f) (e : ∀ j, j < n → f j = g j) : PlIn w v n g := by
  obtain ⟨b, o, c, hv, hl, hc⟩ := h
  exact ⟨b, o, c, hv, hl, fun j hj => by rw [hc j hj, e j hj]⟩
/-- What a call gives that makes a row of n Bools. -/
def RetPl (w : World) (n : Nat) (f : Nat → Bool) (e : Ending) (w' : World) : Prop :=
  ∃ g, e = .returned (.slice (some ⟨g, 0, none⟩) n n) ∧ w.heap.size ≤ g ∧ w'.rowIs g 4 n (fun j => .bool (f j)) ∧ Below w.heap.size w w'
theorem row_pl {w : World} {g n c : Nat} {f : Nat → Bool} (h : w.rowIs g 4 n (fun j => .bool (f j))) : PlIn w (.slice (some ⟨g, 0, none⟩) n c) n f :=
  ⟨g, 0, c, rfl, h.lt, fun j hj => by rw [Nat.zero_add]; exact h.cell hj⟩

end Go.Proofs.YtpboaadjbkaidaaDoor

namespace Go.Proofs.YtpboaadjbkaidaaDoor
set_option maxRecDepth 100000
open Go.RowKit

def boolC (b : Bool) : List Value := [.bool b]
theorem boolC_len (b : Bool) : (boolC b).length = 1 := rfl
theorem boolC_one (b : Bool) : ∀ u ∈ boolC b, u.oneCell' = true := by
  intro u hu
  simp [boolC] at hu
  subst hu
  rfl
def spF (f : List Tk) : List Bool := (sqF f).map (·.2)
theorem spF_take (f : List Tk) (k : Nat) (h : k < f.length) : spF (f.take (k + 1)) = spF (f.take k) ++ (sqI f[k]).map (·.2) := by
  unfold spF
  rw [List.take_succ_eq_append_getElem h, sqF_app, List.map_append, sqF_one]
theorem spF_len (f : List Tk) : (spF f).length = lenI f := by unfold spF; rw [List.length_map, sqF_len]
theorem sqI_text (t : ByteArray) (d : Int) : (sqI ⟨1, t, d⟩).map (·.2) = t.data.toList.map spcB := by
  unfold sqI
  rw [if_pos rfl, List.map_map]
  rfl
theorem sqI_other (k : Int) (t : ByteArray) (d : Int) (h : k ≠ 1) : (sqI ⟨k, t, d⟩).map (·.2) = [false] := by
  unfold sqI
  rw [if_neg h]
  split <;> rfl
theorem take_map_snoc (s : ByteArray) (i : Nat) (h : i < s.size) : (s.data.toList.map spcB).take (i + 1) = (s.data.toList.map spcB).take i ++ [spcB s[i]] := by
  rw [List.take_succ_eq_append_getElem (by simpa using h)]
  congr 1
  simp only [List.getElem_map]
  rfl

/-- A block of another type is not the row's. -/
theorem own_apart {w : World} {B : Nat} {e : TypeId} {size : Nat} {v : Value} {n : Nat} {xs : List Value} (h : w.ownsRow B e size v n xs) {q : Nat} {cs : Array Value} {t : TypeId} (hq : w.heap[q]? = some (.cells cs t)) (ht : t ≠ e) : ∀ g, v.ownBlock = some g → g ≠ q := by
  rintro g hg rfl
  rcases h.2 with ⟨rfl, _⟩ | ⟨g', cap, cur, rfl, _, hh, _⟩
  · cases hg
  · injection hg with hg
    subst hg
    rw [hq] at hh
    injection hh with hh
    injection hh with _ h2 _
    exact ht h2

set_option maxRecDepth 100000 in
set_option maxHeartbeats 8000000 in
theorem blanks_any (f : List Tk) (v : Value) (w : World) (h1 : RdT w v f) (hl : lenI f ≤ 1000000000) (hfl : f.length ≤ 1000000) :
    Calls Tryd.prog 77 #[v] w (RetOwn 4 boolC 1 w (spF f)) := by
  obtain ⟨R, HRR⟩ : ∃ R, Hid (R = RetOwn 4 boolC 1 w (spF f)) := ⟨_, rfl⟩
  rw [← HRR.out]
  obtain ⟨A, c, rfl, _, _⟩ := h1.shape
  have H1 := Lib.hid h1
  clear h1
  go_enter Tryd.func77, Tryd.ntmps77
  go_wp2_with fail
  obtain ⟨wo, HWO⟩ : ∃ wo, Hid (wo = w) := ⟨w, rfl⟩
  go_loopg [3, 5, 6, 9] f.length (fun gk ov xv iv jv wr => ∃ k : Nat, jv = .int .i64 k ∧ k ≤ f.length ∧ Hid (OwnE 4 boolC 1 wr w.heap.size ov (spF (f.take k))) ∧ Hid (Below w.heap.size w wr) ∧ f.length - k ≤ gk)
  case atStart => exact ⟨0, rfl, Nat.zero_le _, by (show OwnE _ _ _ _ _ _ _); rw [List.take_zero]; exact OwnE.nil, Below.refl _ _, by omega⟩
  case round =>
    clear HWO
    obtain ⟨k, rfl, hk, HO, HB, hgk⟩ := hrel
    by_cases hkl : k < f.length
    · have hki : (k : Int) < (f.length : Int) := by omega
      have hk0 : (0 : Int) ≤ (k : Int) := by omega
      obtain ⟨b, o, rfl, hbl, q1, q2, q3⟩ := RdT.at_ H1.out k hkl
      have hsz := HB.out.size
      rw [← HB.out.cell (p := ⟨b, o + k * 3, none⟩) hbl] at q1
      rw [← HB.out.cell (p := ⟨b, o + k * 3 + 1, none⟩) hbl] at q2
      rw [← HB.out.cell (p := ⟨b, o + k * 3 + 2, none⟩) hbl] at q3
      have hbl2 : b < wr.heap.size := by omega
      have hle := lenI_le f (k + 1)
      have hle2 := lenI_take f k hkl
      have HTK := Lib.hid (spF_take f k hkl)
      have hol := spF_len (f.take k)
      have hol3 := spF_len (f.take (k + 1))
      obtain ⟨Ao, co, hov⟩ := own_shape HO.out
      generalize hl0 : spF (f.take k) = l0 at HO hov HTK hol
      generalize hl1 : spF (f.take (k + 1)) = l1 at HTK hol3
      subst hov
      have hln : l0.length ≤ 1000000000 := by omega
      have hln1 : l1.length ≤ 1000000000 := by omega
      have HL1 := Lib.hid hl1
      clear hl0 hl1 hol hol3
      generalize f[k] = x at q1 q2 q3 HTK hle2
      obtain ⟨xk, xt, xd⟩ := x
      simp only at q1 q2 q3
      have hxs : xk = 1 → xt.size ≤ 1000000000 := fun e => by
        have : wdI ⟨xk, xt, xd⟩ = xt.size := by unfold wdI; rw [if_pos e]
        omega
      have HX : Hid ((wr.alloc (.cells #[.int .i64 xk, .string xt, .int .i64 xd] 84)).heap[wr.heap.size]? = some (.cells #[.int .i64 xk, .string xt, .int .i64 xd] 84)) := heap_alloc_new wr _
      have HB1 := Lib.hid (HB.out.alloc hsz (.cells #[.int .i64 xk, .string xt, .int .i64 xd] 84))
      have HO1 := Lib.hid (World.ownsRow.alloc HO.out (.cells #[.int .i64 xk, .string xt, .int .i64 xd] 84))
      clear hle hle2
      go_upto_region 5 with fail
      generalize wr.alloc (.cells #[.int .i64 xk, .string xt, .int .i64 xd] 84) = w3 at HX HB1 HO1 ⊢
      obtain ⟨q, hq⟩ : ∃ q, Hid (q = wr.heap.size) := ⟨_, rfl⟩
      rw [← hq.out] at HX ⊢
      have hql : q < w3.heap.size := (Array.getElem?_eq_some_iff.1 HX.out).1
      clear q1 q2 q3
      obtain ⟨x0, x1, x2, _⟩ := bx3 HX.out
      have HLT : Hid (∀ g, (Value.slice Ao l0.length co).ownBlock = some g → g < q) := fun g hg => by have := (HO.out.lt g hg).2; rw [hq.out]; exact this
      have hzw := HB1.out.size
      by_cases hx : xk = 1
      · subst hx
        have hxs2 := hxs rfl
        rw [sqI_text] at HTK
        have t1 : ((1 : Int) != 1) = false := rfl
        clear hxs
        go_upto_region 8 with fail
        obtain ⟨wo, HWO⟩ : ∃ wo, Hid (wo = w3) := ⟨w3, rfl⟩
        go_loopg [3, 6] xt.size (fun gk ov iv wx => ∃ i : Nat, iv = .int .i64 i ∧ i ≤ xt.size ∧ Hid (OwnE 4 boolC 1 wx w.heap.size ov (l0 ++ (xt.data.toList.map spcB).take i)) ∧ Hid (Below w.heap.size w wx) ∧ Hid (wx.heap[q]? = some (.cells #[.int .i64 1, .string xt, .int .i64 xd] 84)) ∧ Hid (∀ g, ov.ownBlock = some g → g ≠ q) ∧ xt.size - i ≤ gk)
        case atStart => exact ⟨0, rfl, Nat.zero_le _, by (show OwnE _ _ _ _ _ _ _); rw [List.take_zero, List.append_nil]; exact HO1.out, HB1.out, HX.out, fun g hg => by have := HLT.out g hg; omega, by omega⟩
        case round =>
          clear HWO HO1 HB1 HX HLT hql x0 x1 x2 hzw
          obtain ⟨i, rfl, hi, HOX, HBX, HX, HLT, hgi⟩ := hrel
          obtain ⟨x0, x1, x2, _⟩ := bx3 HX.out
          have hql : q < wr.heap.size := (Array.getElem?_eq_some_iff.1 HX.out).1
          have hzx := HBX.out.size
          by_cases hil : i < xt.size
          · have hii : (i : Int) < (xt.size : Int) := by omega
            have hi0 : (0 : Int) ≤ (i : Int) := by omega
            have HSN := Lib.hid (take_map_snoc xt i hil)
            have h255 : xt[i].toNat < 256 := xt[i].toNat_lt
            have HOF := Lib.hid (fun w' => of_any (xt[i].toNat : Int) w' (by omega) (by omega))
            obtain ⟨bb, hbb⟩ : ∃ bb : Bool, Hid (spcB xt[i] = bb) := ⟨spcB xt[i], rfl⟩
            have t5 : (clsN (xt[i].toNat : Int) == 2) = bb := by rw [← hbb.out]; rfl
            rw [hbb.out] at HSN
            generalize hzz : clsN (xt[i].toNat : Int) = zz at HOF t5
            obtain ⟨Ax, cx, hvx⟩ := own_shape HOX.out
            have hlx : (l0 ++ (xt.data.toList.map spcB).take i).length ≤ 1000000000 := by
              have := congrArg List.length HTK.out
              rw [List.length_append] at this ⊢
              rw [List.length_take]
              simp only [List.length_map] at this ⊢
              omega
            generalize hlq : l0 ++ (xt.data.toList.map spcB).take i = lq at HOX hvx hlx
            subst hvx
            have HLQ := Lib.hid hlq
            clear hlq hzz
            have HSN2 : Hid (lq ++ [bb] = l0 ++ (xt.data.toList.map spcB).take (i + 1)) := by
              show _ = _
              rw [HSN.out, ← HLQ.out, List.append_assoc]
            go_wp2_with (first
              | (go_at_call 98; refine (HOF.out _).mono ?_; rintro e w4 ⟨rfl, rfl⟩)
              | (at_builtin; go_must (refine wpList_app1 rfl (.tmp 26) (.tmp 33) 86 4 rfl Tryd.underlying86 _ 1 1 bool_info rfl (by decide) w.heap.size _ lq.length (lq.flatMap boolC) rfl (by exact World.ownsRow.alloc HOX.out _) ⟨wr.heap.size, 0, none⟩ 1 (boolC bb) rfl rfl (by exact cells_new _ _ _) (boolC_one _) (by omega) (by decide) (by simp; omega) ?_); intro g9 cap9 w9 hown9 hg9 hbel9 hgr9))
            have HO9 := Lib.hid (OwnE.snoc (f := boolC) (l := lq) (x := bb) hown9)
            have HB9 := Lib.hid (hbel9 _ _ (Nat.le_refl _) (HBX.out.alloc hzx (.cells (boolC bb).toArray 4)))
            have HX9 : Hid (w9.heap[q]? = some (.cells #[.int .i64 1, .string xt, .int .i64 xd] 84)) := (hgr9.block q (by simp; omega) (fun e => HLT.out q e.symm rfl)).trans ((Below.heap_alloc wr _ q hql).trans HX.out)
            have HN9 : Hid (∀ g, (Value.slice (some ⟨g9, 0, none⟩) (lq.length + 1) cap9).ownBlock = some g → g ≠ q) := own_apart hown9 HX9.out (by decide)
            rw [HSN2.out] at HO9
            clear hown9 hbel9 hgr9
            go_wp2_with fail
            go_roundg (xt.size - (i + 1))
            case measure => omega
            case rel => exact ⟨i + 1, rfl, by omega, HO9.out, HB9.out, HX9.out, HN9.out, by omega⟩
          · obtain rfl : i = xt.size := by omega
            rw [List.take_of_length_le (by simp), ← HTK.out] at HOX
            go_wp2_with fail
            go_roundg (f.length - (k + 1))
            case measure => omega
            case rel => exact ⟨k + 1, rfl, by omega, by (show OwnE _ _ _ _ _ _ _); rw [HL1.out]; exact HOX.out, HBX.out, by omega⟩
      · have t1 : (xk != 1) = true := by simpa using hx
        rw [sqI_other _ _ _ hx] at HTK
        clear hxs
        go_wp2_with (at_builtin; refine wpList_app1 rfl (.tmp 16) (.tmp 17) 86 4 rfl Tryd.underlying86 _ 1 1 bool_info rfl (by decide) w.heap.size _ _ _ rfl (by exact World.ownsRow.alloc HO1.out _) ⟨w3.heap.size, 0, none⟩ 1 (boolC false) rfl rfl (by exact cells_new _ _ _) (boolC_one _) (by omega) (by decide) (by simp; omega) ?_; intro g9 cap9 w9 hown9 hg9 hbel9 hgr9)
        have HO9 := Lib.hid (OwnE.snoc (f := boolC) (l := l0) (x := false) hown9)
        have HB9 := Lib.hid (hbel9 _ _ (Nat.le_refl _) (HB1.out.alloc hzw (.cells (boolC false).toArray 4)))
        rw [← HTK.out] at HO9
        clear hown9 hbel9 hgr9
        go_roundg (f.length - (k + 1))
        case measure => omega
        case rel => exact ⟨k + 1, rfl, by omega, by (show OwnE _ _ _ _ _ _ _); rw [HL1.out]; exact HO9.out, HB9.out, by omega⟩
    · obtain rfl : k = f.length := by omega
      rw [List.take_length] at HO
      obtain ⟨Ao, co, hov⟩ := own_shape HO.out
      go_wp2_with fail
      rw [HRR.out]
      exact ⟨_, rfl, HO.out, HB.out⟩

end Go.Proofs.YtpboaadjbkaidaaDoor

namespace Go.Proofs.YtpboaadjbkaidaaDoor
set_option maxRecDepth 100000
open Go.RowKit

/-- The last k bytes of a string, backwards. -/
def rvS (s : ByteArray) (k : Nat) : ByteArray := ⟨((s.data.toList.drop (s.size - k)).reverse).toArray⟩
theorem rv_size (s : ByteArray) : (rvS s s.size).size = s.size := by
  show ((s.data.toList.drop (s.size - s.size)).reverse).length = _
  rw [Nat.sub_self, List.drop_zero, List.length_reverse, ← Lib.size_eq]
theorem rv_bt (s : ByteArray) (k : Nat) (hk : k < s.size) : bt (rvS s s.size) k = bt s (s.size - 1 - k) := by
  have hl : s.data.toList.length = s.size := (Lib.size_eq s).symm
  unfold bt rvS
  simp only
  rw [Nat.sub_self, List.drop_zero, List.getD_eq_getElem?_getD, List.getD_eq_getElem?_getD, List.getElem?_reverse (by omega), hl]
end Go.Proofs.YtpboaadjbkaidaaDoor

namespace Go.Proofs.YtpboaadjbkaidaaDoor
set_option maxRecDepth 100000
open Go.RowKit

theorem u8_info6 : (Tryd.prog.info? 5).map (fun i => (i.zero, i.size, i.bytes)) = some (some (.int .u8 0), 1, 1) := by kernel_rfl
theorem run_rev (s : ByteArray) (src dst : TypeId) {e : TypeId} (hs : Tryd.prog.underlying src = some (.slice e)) (he : Tryd.prog.underlying e = some (.int .u8)) (hd : Tryd.prog.underlying dst = some .string) (w : World) (g : Nat)
    (h : w.rowIs g e s.size (fun j => .int .u8 (bt s (s.size - 1 - j) : Int))) : (convert src dst (.slice (some ⟨g, 0, none⟩) s.size s.size)).run Tryd.prog w = .ok (.string (rvS s s.size)) w := by
  have hl : s.data.toList.length = s.size := (Lib.size_eq s).symm
  have := run_convert_bytes_back (P := Tryd.prog) w src dst e ⟨g, 0, none⟩ s.size s.data.toList.reverse hs he hd (fun j hj => by
    have hj2 : j < s.size := by simpa [hl] using hj
    rw [Addr.add_lit, Nat.zero_add, h.cell hj2]
    congr 2
    rw [List.getElem_reverse]
    unfold bt
    rw [List.getD_eq_getElem?_getD, List.getElem?_eq_getElem (by omega)]
    simp [hl])
  rw [List.length_reverse, hl] at this
  rw [this]
  congr 2
  unfold rvS
  rw [Nat.sub_self, List.drop_zero]

set_option maxRecDepth 100000 in
set_option maxHeartbeats 8000000 in
theorem reversed_any (s : ByteArray) (w : World) (hs : s.size ≤ 1048576) : Calls Tryd.prog 49 #[.string s] w fun e w' => e = .returned (.string (rvS s s.size)) ∧ Below w.heap.size w w' := by
  have hmk := fun w => run_make_row' (P := Tryd.prog) 23 5 (.int .u8 0) 1 Tryd.underlying23 u8_info6 rfl .i64 .i64 s.size (by omega) (by omega) w
  have HCV := Lib.hid (run_rev s 23 9 Tryd.underlying23 Tryd.underlying5 Tryd.underlying9)
  go_enter Tryd.func49, Tryd.ntmps49
  have HR0 : Hid ((w.alloc (.cells (madeCells #[.int .u8 0] s.size) 5)).rowIs w.heap.size 5 s.size (fun j => .int .u8 (if j < 0 then (bt s (s.size - 1 - j) : Int) else 0))) := (World.rowIs_made w (.int .u8 0) s.size 5).congr fun j _ => by rw [if_neg (Nat.not_lt_zero j)]
  have HB0 := Lib.hid ((Below.refl w.heap.size w).alloc (Nat.le_refl _) (.cells (madeCells #[.int .u8 0] s.size) 5))
  go_upto_region 2 with fail
  generalize hg : w.heap.size = g at HR0 ⊢
  generalize w.alloc (.cells (madeCells #[.int .u8 0] s.size) 5) = w1 at HR0 HB0 ⊢
  go_wp2_with fail
  go_loopg [10] s.size (fun gk kv wr => ∃ k : Nat, k ≤ s.size ∧ kv = .int .i64 k ∧ Hid (wr.rowIs g 5 s.size (fun j => .int .u8 (if j < k then (bt s (s.size - 1 - j) : Int) else 0))) ∧ Hid (Below w.heap.size w wr) ∧ s.size - k ≤ gk)
  case atStart => exact ⟨0, by omega, rfl, HR0.out, HB0.out, by omega⟩
  case round =>
    clear HR0 HB0
    obtain ⟨k, hk, rfl, HR, HB, hgk⟩ := hrel
    by_cases hkl : k < s.size
    · have hki : (k : Int) < (s.size : Int) := by omega
      obtain ⟨j, hj⟩ : ∃ j, j + k + 1 = s.size := ⟨s.size - 1 - k, by omega⟩
      have r0 := HR.out.cell (i := k) hkl
      have rf := HR.out.frozen k
      rw [if_neg (Nat.lt_irrefl k)] at r0
      have hjs : (j : Int) < (s.size : Int) := by omega
      have hjl : j < s.size := by omega
      have hj0 : (0 : Int) ≤ (j : Int) := by omega
      have HR1 : Hid ((wr.setCell ⟨g, k, none⟩ (.int .u8 (s[j].toNat : Int))).rowIs g 5 s.size (fun j => .int .u8 (if j < k + 1 then (bt s (s.size - 1 - j) : Int) else 0))) := (HR.out.set k (.int .u8 (s[j].toNat : Int))).congr fun i hi => by
        by_cases h : i = k
        · rw [if_pos h, if_pos (by omega), h, show s.size - 1 - k = j by omega, bt_get s j hjl]
        · rw [if_neg h]
          by_cases h2 : i < k
          · rw [if_pos h2, if_pos (by omega)]
          · rw [if_neg h2, if_neg (by omega)]
      obtain ⟨z, hz⟩ : ∃ z : Int, z = (s.size : Int) - 1 - (k : Int) := ⟨_, rfl⟩
      have hzj : z = (j : Int) := by omega
      subst hzj
      have hz2 : (s.size : Int) - 1 - (k : Int) = (j : Int) := hz.symm
      clear hz
      go_wp2_with fail
      go_roundg (s.size - (k + 1))
      case measure => omega
      case rel => exact ⟨k + 1, by omega, by go_num, HR1.out, HB.out.setCell (p := ⟨g, k, none⟩) (show w.heap.size ≤ g by omega) _, Nat.le_refl _⟩
    · obtain rfl : k = s.size := by omega
      have hki : ¬ (s.size : Int) < (s.size : Int) := by omega
      have hcv := HCV.out wr g (HR.out.congr fun j hj => by rw [if_pos hj])
      go_wp2_with fail
      go_ret
      exact ⟨rfl, hg ▸ HB.out⟩

end Go.Proofs.YtpboaadjbkaidaaDoor
