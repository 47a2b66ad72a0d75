
/-
  What Parse gives for letters, digits and signs behind backslashes. Plain.
-/
import Derived.Test.YtpboaadjbkaidaaDoorMathLang
namespace Go.Proofs.YtpboaadjbkaidaaDoor
set_option maxRecDepth 100000
open Go.RowKit

def litC : List Nat := [97, 90, 48, 46, 42, 43, 63, 40, 41, 124, 91, 93, 123, 125, 92, 94, 45, 33]
def bareB (c : Nat) : Bool := c == 97 || c == 90 || c == 48
def wrt (c : Nat) : List UInt8 := if bareB c = true then [UInt8.ofNat c] else [92, UInt8.ofNat c]
def litU (L : List Nat) : List UInt8 := L.flatMap wrt
def litT (L : List Nat) : List UInt8 := L.map UInt8.ofNat
def strU (L : List Nat) : ByteArray := ⟨(litU L).toArray⟩
def strT (L : List Nat) : ByteArray := ⟨(litT L).toArray⟩
def litA (c : Nat) : At := ⟨oneP c, 1, false⟩
theorem lit_fact : ∀ c ∈ litC, c < 256 ∧ (UInt8.ofNat c).toNat = c ∧ (bareB c = true → c ≠ 46 ∧ c ≠ 92 ∧ c ≠ 91 ∧ c ≠ 42 ∧ c ≠ 43 ∧ c ≠ 63 ∧ wrB c = true ∧ inOut c = false) ∧ (bareB c = false → clsN (c : Int) = 5) := by decide +kernel
theorem bt_mid (pre post : List UInt8) (x : UInt8) (k : Nat) (hk : k = pre.length) : bt ⟨(pre ++ x :: post).toArray⟩ k = x.toNat := by
  subst hk
  unfold bt
  simp [List.getD_eq_getElem?_getD]
theorem sz_list (l : List UInt8) : (⟨l.toArray⟩ : ByteArray).size = l.length := rfl
theorem out_lit (c : Nat) (hc : c ∈ litC) (pre post : List UInt8) : outF ⟨(pre ++ (wrt c ++ post)).toArray⟩ pre.length = ⟨oneP c, c, true, pre.length + (wrt c).length, false⟩ := by
  obtain ⟨_, ht, h1, h2⟩ := lit_fact c hc
  unfold wrt
  by_cases hb : bareB c = true
  · obtain ⟨g1, g2, g3, _, _, _, g7, g8⟩ := h1 hb
    rw [if_pos hb]
    unfold outF
    rw [show pre ++ ([UInt8.ofNat c] ++ post) = pre ++ UInt8.ofNat c :: post from rfl, bt_mid pre post _ _ rfl, ht, if_neg g1, if_neg g2, if_neg g3, if_pos ⟨g7, g8⟩]
    rfl
  · rw [if_neg hb]
    have g := h2 (by simpa using hb)
    unfold outF
    have e1 : bt ⟨(pre ++ ([92, UInt8.ofNat c] ++ post)).toArray⟩ pre.length = 92 := bt_mid pre (UInt8.ofNat c :: post) 92 _ rfl
    have e2 : bt ⟨(pre ++ ([92, UInt8.ofNat c] ++ post)).toArray⟩ (pre.length + 1) = c := by
      have := bt_mid (pre ++ [92]) post (UInt8.ofNat c) (pre.length + 1) (by simp)
      rw [ht] at this
      refine Eq.trans ?_ this
      congr 2
      simp
    rw [e1, if_neg (by decide), if_pos rfl]
    unfold escF
    rw [e2, if_pos (by rw [sz_list]; simp), if_pos g]
    rfl
theorem quant_lit (pre : List UInt8) (L : List Nat) (hL : ∀ c ∈ L, c ∈ litC) : quantF ⟨(pre ++ litU L).toArray⟩ pre.length = (1, false, pre.length) := by
  unfold quantF
  cases L with
  | nil => rw [if_neg (by rw [sz_list]; simp [litU])]
  | cons c L =>
    have hc := hL c (by simp)
    obtain ⟨_, ht, h1, _⟩ := lit_fact c hc
    have hs : pre.length < (⟨(pre ++ litU (c :: L)).toArray⟩ : ByteArray).size := by
      rw [sz_list]
      have : 0 < (wrt c).length := by unfold wrt; split <;> simp
      simp [litU]
      omega
    rw [if_pos hs]
    by_cases hb : bareB c = true
    · obtain ⟨_, _, _, g4, g5, g6, _⟩ := h1 hb
      have e : litU (c :: L) = UInt8.ofNat c :: litU L := by unfold litU; rw [List.flatMap_cons]; unfold wrt; rw [if_pos hb]; rfl
      rw [e, bt_mid pre _ _ _ rfl, ht, if_neg g4, if_neg g5, if_neg g6]
    · have e : litU (c :: L) = 92 :: UInt8.ofNat c :: litU L := by unfold litU; rw [List.flatMap_cons]; unfold wrt; rw [if_neg hb]; rfl
      rw [e, bt_mid pre _ _ _ rfl, if_neg (by decide), if_neg (by decide), if_neg (by decide)]
theorem wrt_pos (c : Nat) : 0 < (wrt c).length := by unfold wrt; split <;> simp
theorem parse_lits : ∀ (L : List Nat) (_ : ∀ c ∈ L, c ∈ litC) (pre : List UInt8) (l : List At) (f : Nat), (litU L).length < f → l.length + L.length ≤ 32 →
    parseL ⟨(pre ++ litU L).toArray⟩ f pre.length l = (l ++ L.map litA, 0, 0)
  | [], _, pre, l, f, hf, _ => by
    obtain ⟨g, rfl⟩ : ∃ g, f = g + 1 := ⟨f - 1, by omega⟩
    rw [parseL, if_neg (by rw [sz_list]; simp [litU])]
    simp
  | c :: L, hL, pre, l, f, hf, hl => by
    obtain ⟨g, rfl⟩ : ∃ g, f = g + 1 := ⟨f - 1, by omega⟩
    have hlen : (litU (c :: L)).length = (wrt c).length + (litU L).length := by unfold litU; simp
    have hp := wrt_pos c
    rw [List.length_cons] at hl
    have e : litU (c :: L) = wrt c ++ litU L := by unfold litU; rw [List.flatMap_cons]
    rw [parseL, if_pos (by rw [sz_list, List.length_append, hlen]; omega), if_neg (by omega), e, out_lit c (hL c (by simp)) pre (litU L), if_neg Bool.false_ne_true]
    simp only
    have e2 : pre ++ (wrt c ++ litU L) = (pre ++ wrt c) ++ litU L := by simp
    rw [e2, show pre.length + (wrt c).length = (pre ++ wrt c).length by simp, quant_lit (pre ++ wrt c) L (fun x hx => hL x (by simp [hx]))]
    simp only
    rw [parse_lits L (fun x hx => hL x (by simp [hx])) (pre ++ wrt c) _ g (by omega) (by simp; omega)]
    simp [litA]
theorem parse_lit (L : List Nat) (hL : ∀ c ∈ L, c ∈ litC) (hl : L.length ≤ 32) : parseF (strU L) = (L.map litA, 0, 0) := by
  have := parse_lits L hL [] [] ((strU L).size + 1) (by unfold strU; rw [sz_list]; omega) (by simpa using hl)
  unfold parseF
  exact this
theorem inA_lit (c : Nat) (a : List Nat) : inA (litA c) a ↔ a = [c] := by
  unfold inA litA
  simp only
  constructor
  · rintro (⟨_, h⟩ | ⟨_, h2, h3 | h3⟩)
    · exact absurd h (by decide)
    · obtain ⟨b, rfl⟩ : ∃ b, a = [b] := List.length_eq_one_iff.1 h3
      have := h2 b (by simp)
      unfold oneP addP noP at this
      simp at this
      rw [this]
    · exact absurd h3 Bool.false_ne_true
  · rintro rfl
    refine .inr ⟨by simp, fun b hb => ?_, .inl rfl⟩
    simp at hb
    subst hb
    unfold oneP addP
    simp
theorem lang_lits : ∀ (L u : List Nat), Lang (L.map litA) u ↔ u = L
  | [], u => Iff.rfl
  | c :: L, u => by
    constructor
    · rintro ⟨a, b, h1, h2, h3⟩
      rw [h1, (inA_lit c a).1 h2, (lang_lits L b).1 h3]
      rfl
    · rintro rfl
      exact ⟨[c], L, rfl, (inA_lit c _).2 rfl, (lang_lits L L).2 rfl⟩
theorem seg_all (s : ByteArray) : seg s 0 s.size = s.data.toList.map UInt8.toNat := by
  unfold seg
  refine List.ext_getElem? fun k => ?_
  by_cases hk : k < s.size
  · have hk2 : k < s.data.toList.length := by rw [← Lib.size_eq]; exact hk
    simp only [List.drop_zero, List.getElem?_map]
    rw [List.getElem?_range hk, List.getElem?_eq_getElem hk2]
    unfold bt
    simp [List.getD_eq_getElem?_getD]
    rw [Array.getElem?_eq_getElem (by simpa using hk)]
    rfl
  · rw [List.getElem?_eq_none (by simp; omega), List.getElem?_eq_none (by simp; exact Nat.le_of_not_lt hk)]
theorem match_lits (L : List Nat) (hL : ∀ c ∈ L, c ∈ litC) (s : ByteArray) : matchF (L.map litA) s = decide (s = strT L) := by
  rw [Bool.eq_iff_iff, match_lang, lang_lits, seg_all, decide_eq_true_iff]
  constructor
  · intro h
    apply ByteArray.ext
    apply Array.toList_inj.1
    unfold strT litT
    simp only
    rw [← h, List.map_map]
    refine ((List.map_congr_left fun c _ => ?_).trans (List.map_id _)).symm
    simp
  · rintro rfl
    show ((L.map UInt8.ofNat)).map UInt8.toNat = L
    rw [List.map_map]
    refine (List.map_congr_left fun c hc => ?_).trans (List.map_id L)
    exact (lit_fact c (hL c hc)).2.1

end Go.Proofs.YtpboaadjbkaidaaDoor
