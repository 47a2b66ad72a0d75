
/-
  Fragments from numbers (with tags, not nested), in plain words. No program in sight.
-/
import Derived.Test.YteccphcophjhpaaMathMake
namespace Go.Proofs.Yteccphcophjhpaa
open Go.RowKit

def slotW : List ByteArray := [⟨#[110]⟩, ⟨#[110, 97, 109, 101]⟩, ⟨#[120, 49]⟩]
def emptyW : List ByteArray := [⟨#[98, 114]⟩, ⟨#[105, 109, 103, 32, 97]⟩]
def openW : List ByteArray := [⟨#[98]⟩, ⟨#[105]⟩, ⟨#[97, 32, 104, 61, 49]⟩]
theorem getD_size (l : List ByteArray) (k : Nat) (h : ∀ x ∈ l, x.size ≤ 5) : (l.getD k ⟨#[]⟩).size ≤ 5 := by
  by_cases hk : k < l.length
  · rw [List.getD_eq_getElem?_getD, List.getElem?_eq_getElem hk]
    exact h _ (List.getElem_mem hk)
  · rw [List.getD_eq_getElem?_getD, List.getElem?_eq_none (by omega)]
    decide

def nameB (s : ByteArray) : ByteArray := ⟨(s.data.toList.takeWhile (fun c => c != 32)).toArray⟩
theorem nameB_size (s : ByteArray) : (nameB s).size ≤ s.size := by
  rw [Lib.size_eq, Lib.size_eq]
  show (s.data.toList.takeWhile _).toArray.toList.length ≤ _
  exact (List.takeWhile_prefix _).length_le

/-- The state behind some rounds. -/
structure FrT where
  f : List Tk
  op : List Tk
  id : Nat
  N : Nat

/-- The item of a round, whose text and number c have been drawn, at place M: the item, the open tags, the last id, the place. -/
def itemL (L : List Int) (c : Int) (t : ByteArray) (op : List Tk) (id M : Nat) : Tk × List Tk × Nat × Nat :=
  if c = 0 ∨ c = 1 then (⟨5, slotW.getD (nextN L M 3).toNat ⟨#[]⟩, 0⟩, op, id, M + 1)
  else if c = 2 then (⟨4, emptyW.getD (nextN L M 2).toNat ⟨#[]⟩, (id + 1 : Nat)⟩, op, id + 1, M + 1)
  else if c = 3 ∨ c = 4 then (⟨2, openW.getD (nextN L M 3).toNat ⟨#[]⟩, (id + 1 : Nat)⟩, op ++ [⟨2, openW.getD (nextN L M 3).toNat ⟨#[]⟩, (id + 1 : Nat)⟩], id + 1, M + 1)
  else if c = 5 ∨ c = 6 then
    if 0 < op.length then (⟨3, nameB (op.getD (nextN L M op.length).toNat ⟨0, ⟨#[]⟩, 0⟩).t, (op.getD (nextN L M op.length).toNat ⟨0, ⟨#[]⟩, 0⟩).d⟩,
      op.take (nextN L M op.length).toNat ++ op.drop ((nextN L M op.length).toNat + 1), id, M + 1)
    else (⟨3, ⟨#[98]⟩, (id + 1 : Nat)⟩, op, id + 1, M)
  else (⟨1, t, 0⟩, op, id, M)

def fragStep (L : List Int) (s : FrT) : FrT :=
  let ln := lineL L s.N 3
  let x := itemL L (nextN L ln.2 8) ln.1 s.op s.id (ln.2 + 1)
  ⟨normL (s.f ++ [x.1]), x.2.1, x.2.2.1, x.2.2.2⟩
def fragGo (L : List Int) : Nat → FrT → FrT
  | 0, s => s
  | i + 1, s => fragGo L i (fragStep L s)
def fragL (L : List Int) (N : Nat) (n : Int) : FrT := fragGo L (nextN L N (n + 1)).toNat ⟨[], [], 0, N + 1⟩

/-- What the items keep to. -/
structure FOK (s : FrT) (r : Nat) : Prop where
  len : s.f.length ≤ r
  bytes : bytesOf s.f ≤ 18 * r
  oplen : s.op.length ≤ r
  opsz : ∀ x ∈ s.op, x.t.size ≤ 5
  id : s.id ≤ r
  num : s.N ≤ 1 + 9 * r
  kinds : Kinds s.f
  normal : Normal s.f

theorem item_ok (L : List Int) (c : Int) (t : ByteArray) (op : List Tk) (id M r : Nat) (ht : t.size ≤ 18) (h1 : op.length ≤ r) (h2 : ∀ x ∈ op, x.t.size ≤ 5) (h3 : id ≤ r) :
    ∀ x op' id' M', itemL L c t op id M = (x, op', id', M') → x.t.size ≤ 18 ∧ (1 ≤ x.k ∧ x.k ≤ 5) ∧ op'.length ≤ r + 1 ∧ (∀ x ∈ op', x.t.size ≤ 5) ∧ id' ≤ r + 1 ∧ M' ≤ M + 1 := by
  intro x op' id' M' h
  unfold itemL at h
  have hs := getD_size slotW (nextN L M 3).toNat (by decide)
  have he := getD_size emptyW (nextN L M 2).toNat (by decide)
  have ho := getD_size openW (nextN L M 3).toNat (by decide)
  split at h
  · cases h; exact ⟨Nat.le_trans hs (by decide), (by show (1 : Int) ≤ 5 ∧ (5 : Int) ≤ 5; decide), by omega, h2, by omega, by omega⟩
  split at h
  · cases h; exact ⟨Nat.le_trans he (by decide), (by show (1 : Int) ≤ 4 ∧ (4 : Int) ≤ 5; decide), by omega, h2, by omega, by omega⟩
  split at h
  · cases h
    refine ⟨Nat.le_trans ho (by decide), (by show (1 : Int) ≤ 2 ∧ (2 : Int) ≤ 5; decide), by simp; omega, fun y hy => ?_, by omega, by omega⟩
    rcases List.mem_append.1 hy with hy | hy
    · exact h2 y hy
    · rw [List.mem_singleton.1 hy]; exact ho
  split at h
  · split at h
    · rename_i hop
      cases h
      have hb := nextN_bd L M op.length (by omega)
      have hk : (nextN L M op.length).toNat < op.length := by omega
      refine ⟨?_, (by show (1 : Int) ≤ 3 ∧ (3 : Int) ≤ 5; decide), ?_, fun y hy => ?_, by omega, by omega⟩
      · show (nameB _).size ≤ 18
        refine Nat.le_trans (nameB_size _) ?_
        rw [List.getD_eq_getElem?_getD, List.getElem?_eq_getElem hk]
        have := h2 _ (List.getElem_mem hk)
        rw [Option.getD_some]
        omega
      · simp; omega
      · rcases List.mem_append.1 hy with hy | hy
        · exact h2 y (List.mem_of_mem_take hy)
        · exact h2 y (List.mem_of_mem_drop hy)
    · cases h; exact ⟨by show (1 : Nat) ≤ 18; omega, (by show (1 : Int) ≤ 3 ∧ (3 : Int) ≤ 5; decide), by omega, h2, by omega, by omega⟩
  · cases h; exact ⟨ht, (by show (1 : Int) ≤ 1 ∧ (1 : Int) ≤ 5; decide), by omega, h2, by omega, by omega⟩

theorem FOK.step (L : List Int) (s : FrT) (r : Nat) (h : FOK s r) : FOK (fragStep L s) (r + 1) := by
  obtain ⟨f, op, id, N⟩ := s
  obtain ⟨h1, h2, h3, h4, h5, h6, h7, h8⟩ := h
  simp only at h1 h2 h3 h4 h5 h6 h7 h8
  have hl := lineL_bd L N 3 (by decide)
  unfold fragStep
  simp only
  generalize hln : lineL L N 3 = ln at hl
  obtain ⟨t, M⟩ := ln
  simp only at hl ⊢
  generalize hx : itemL L (nextN L M 8) t op id (M + 1) = x
  obtain ⟨x, op', id', M'⟩ := x
  have ht : t.size ≤ 18 := hl.1
  have hM : M ≤ N + 7 := hl.2
  obtain ⟨q1, q2, q3, q4, q5, q6⟩ := item_ok L _ t op id (M + 1) r ht h3 h4 h5 x op' id' M' hx
  refine ⟨?_, ?_, q3, q4, q5, ?_, ?_, ?_⟩
  · have := normL_length (f ++ [x])
    rw [List.length_append, List.length_singleton] at this
    show (normL (f ++ [x])).length ≤ r + 1
    omega
  · show bytesOf (normL (f ++ [x])) ≤ 18 * (r + 1)
    rw [normL_bytes, bytesOf_append, bytesOf_one]
    omega
  · show M' ≤ 1 + 9 * (r + 1)
    omega
  · refine Kinds.norm _ (fun y hy => ?_)
    rcases List.mem_append.1 hy with hy | hy
    · exact h7 y hy
    · rw [List.mem_singleton.1 hy]; exact q2
  · exact normL_normal _

theorem fragGo_ok (L : List Int) : ∀ i s r, FOK s r → FOK (fragGo L i s) (r + i)
  | 0, _, _, h => h
  | i + 1, s, r, h => by
    have := fragGo_ok L i (fragStep L s) (r + 1) (h.step L)
    rw [show r + 1 + i = r + (i + 1) by omega] at this
    exact this
theorem fok_start (N : Nat) (hN : N ≤ 1) : FOK ⟨[], [], 0, N⟩ 0 :=
  ⟨by simp, by simp [bytesOf], by simp, by simp, by simp, by simpa using hN, by intro x hx; simp at hx, trivial⟩

end Go.Proofs.Yteccphcophjhpaa
