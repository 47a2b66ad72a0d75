/-
  Contracts and plain laws that this claim leans on, part 1.
-/
import Derived.WalkKit
import Derived.WalkLawsBesides
import Derived.Lib.Hide
import Derived.Lib.Strings
import Derived.Laws.IdiomStrings
import Derived.Deep.Draws
import Derived.Deep.QuietTactic
import Derived.BigQuiet
import Derived.Deep.OwnRows
import Derived.Test.YtpboaadjbkaidaaDoorChecked
import Derived.ProofKit
import Derived.OpenShut
import Derived.KernelRfl
import Derived.BigRegion
import Derived.Below
import Derived.WalkSpells
import Derived.Laws.CopyOwn
import Derived.Deep.DeepCutAuto
import Derived.Deep.CutBlock
import Derived.Laws.ResultCell
import Derived.Lib.Bytealg
import Derived.Lib.Walk
set_option linter.unusedVariables false
set_option linter.unusedSimpArgs false
namespace Go.Proofs.YtpboaadjbkaidaaDoor
set_option maxRecDepth 100000
open Go.RowKit

theorem ret_int {k : IntKind} {a b : Int} (h : a = b) : Ending.returned (.int k a) = .returned (.int k b) := by rw [h]
theorem ret_bool {a b : Bool} (h : a = b) : Ending.returned (.bool a) = .returned (.bool b) := by rw [h]
/-- Block g holds the cells xs at its head; none is frozen. -/
def RowV (w : World) (g : Nat) (xs : List Value) : Prop :=
  g < w.heap.size ∧ ∀ j v, xs[j]? = some v → w.cell? ⟨g, j, none⟩ = some v ∧ w.frozen? ⟨g, j, none⟩ = false

theorem RowV.cell {w : World} {g : Nat} {xs : List Value} (h : RowV w g xs) {j : Nat} {v : Value} (hj : xs[j]? = some v) : w.cell? ⟨g, j, none⟩ = some v := (h.2 j v hj).1
theorem RowV.free {w : World} {g : Nat} {xs : List Value} (h : RowV w g xs) {j : Nat} (hj : j < xs.length) : w.frozen? ⟨g, j, none⟩ = false := (h.2 j _ (List.getElem?_eq_getElem hj)).2
theorem RowV.drew {w : World} {g : Nat} {xs : List Value} (h : RowV w g xs) : RowV w.drew g xs := h
theorem RowV.keep {w w' : World} {g : Nat} {xs : List Value} (h : RowV w g xs) (hs : w.heap.size ≤ w'.heap.size) (hb : w'.heap[g]? = w.heap[g]?) : RowV w' g xs :=
  ⟨Nat.lt_of_lt_of_le h.1 hs, fun j v hj => ⟨(World.cell?_of_block (w := w) hb).trans (h.2 j v hj).1, (World.frozen?_of_block (w := w) hb).trans (h.2 j v hj).2⟩⟩
theorem RowV.alloc {w : World} {g : Nat} {xs : List Value} (h : RowV w g xs) (o : Obj) : RowV (w.alloc o) g xs :=
  h.keep (by simp) (Below.heap_alloc w o g h.1)
theorem RowV.set {w : World} {g : Nat} {xs : List Value} (h : RowV w g xs) (k : Nat) (u : Value) : RowV (w.setCell ⟨g, k, none⟩ u) g (xs.set k u) := by
  refine ⟨by simpa [World.setCell] using h.1, fun j v hj => ?_⟩
  by_cases hjk : j = k
  · subst hjk
    have hl : j < xs.length := by
      have := (List.getElem?_eq_some_iff.1 hj).1
      simpa using this
    have hv : v = u := by
      rw [List.getElem?_set_self hl] at hj
      exact (Option.some.inj hj).symm
    subst hv
    have h2 := h.2 j _ (List.getElem?_eq_getElem hl)
    exact ⟨World.cell?_setCell_same _ _ _ h2.1, by rw [World.frozen?_setCell]; exact h2.2⟩
  · rw [List.getElem?_set_ne (fun e => hjk e.symm)] at hj
    have h2 := h.2 j v hj
    exact ⟨(World.cell?_setCell_other w ⟨g, k, none⟩ ⟨g, j, none⟩ u (fun e => hjk (by injection e with _ e; exact e.symm))).trans h2.1, by rw [World.frozen?_setCell]; exact h2.2⟩

/-- The cells of a block that has just been laid. -/
theorem cells_new (w : World) (xs : List Value) (t : TypeId) : ∀ j u, xs[j]? = some u → (w.alloc (.cells xs.toArray t)).cell? ((⟨w.heap.size, 0, none⟩ : Addr).add j) = some u := by
  intro j u hj
  rw [Addr.add_lit, Nat.zero_add]
  have : (w.alloc (.cells xs.toArray t)).heap[w.heap.size]? = some (.cells xs.toArray t) := by
    show (w.heap.push (.cells xs.toArray t))[w.heap.size]? = _
    simp
  rw [cell_of_row _ _ j _ _ _ this]
  simpa using hj

/-- One element appended to a row of the call's own; what is below stays. -/
theorem wpList_app1 {P : Program} {ops : Array Oper} {rest : List Oper} {o : Oper} {a : Act} {Q : Exit → Act → World → Prop} {w : World} (hgd : o.guard = none) (s x : Operand) (t e : TypeId)
    (ho : o.op = .call { callee := .builtin .append, args := #[s, x], argTypes := #[t, t] })
    (ht : P.underlying t = some (.slice e)) (z : Value) (size bytes : Nat) (hinfo : (P.info? e).map (fun i => (i.zero, i.size, i.bytes)) = some (some z, size, bytes)) (hzs : z.cells.size = size) (hsz : 0 < size)
    (base : Nat) (v : Value) (n : Nat) (xs : List Value) (hs : a.eval s = v) (hown : w.ownsRow base e size v n xs)
    (ad : Addr) (c : Nat) (news : List Value) (hx : a.eval x = .slice (some ad) 1 c) (hl : news.length = size) (hnews : ∀ j u, news[j]? = some u → w.cell? (ad.add j) = some u) (h1 : ∀ u ∈ news, u.oneCell' = true)
    (hbytes : (n + 1) * bytes ≤ 140737488355328) (hb1 : 1 ≤ bytes) (hbase : base ≤ w.heap.size)
    (h : ∀ g cap w', w'.ownsRow base e size (.slice (some ⟨g, 0, none⟩) (n + 1) cap) (n + 1) (xs ++ news) → base ≤ g → (∀ B W, B ≤ base → Below B W w → Below B W w') → w.grownBy w' v.ownBlock →
      wpList P ops Q rest (a.put o.dst (.slice (some ⟨g, 0, none⟩) (n + 1) cap)) w') : wpList P ops Q (o :: rest) a w := by
  obtain ⟨i, hi, hz, hsize, hby⟩ := info_parts hinfo
  have h2 : n + 1 ≤ 140737488355328 := Nat.le_trans (Nat.le_mul_of_pos_right _ hb1) hbytes
  refine wpList_append_own w hgd s x t ho base e i z size bytes ht hi hz hsize hby hzs hsz v n xs hs hown ad 1 c news hx (by rw [hl, Nat.one_mul]) hnews h1 (by unfold maxLen; omega) hbytes hbase ?_
  intro v' w' hown' hg _
  have hsh : ∃ g cap, v' = .slice (some ⟨g, 0, none⟩) (n + 1) cap ∧ base ≤ g := by
    rcases hown'.2 with ⟨_, h0⟩ | ⟨g, cap, _, h, hb, _⟩
    · omega
    · exact ⟨g, cap, h, hb⟩
  obtain ⟨g, cap, hv, hb⟩ := hsh
  rw [hv] at hown' ⊢
  exact h g cap w' hown' hb (fun B W hB hW => hW.grown hg (Nat.le_trans hB hbase) (fun k hk => Nat.le_trans hB (hown.lt k hk).1)) hg

/-- The shape of a row of the call's own. -/
theorem own_shape {w : World} {base : Nat} {e : TypeId} {size : Nat} {v : Value} {n : Nat} {xs : List Value} (h : w.ownsRow base e size v n xs) : ∃ A c, v = .slice A n c := by
  rcases h.2 with ⟨rfl, rfl⟩ | ⟨g, cap, _, h, _⟩
  · exact ⟨none, 0, rfl⟩
  · exact ⟨_, _, h⟩
theorem own_some {w : World} {base : Nat} {e : TypeId} {size : Nat} {v : Value} {n : Nat} {xs : List Value} (h : w.ownsRow base e size v n xs) (hn : 0 < n) : ∃ g c, v = .slice (some ⟨g, 0, none⟩) n c ∧ base ≤ g := by
  rcases h.2 with ⟨_, h0⟩ | ⟨g, cap, _, h, hb, _⟩
  · omega
  · exact ⟨_, _, h, hb⟩

/-- Element i, cell j of a list of elements of one size. -/
theorem flat_get {α : Type} (f : α → List Value) (m : Nat) (hm : ∀ x, (f x).length = m) : ∀ (l : List α) (i j : Nat) (x : α), l[i]? = some x → j < m → (l.flatMap f)[i * m + j]? = (f x)[j]?
  | [], i, j, x, h, _ => by simp at h
  | y :: l, 0, j, x, h, hj => by
    simp at h
    subst h
    simp [List.getElem?_append_left (show j < (f y).length by rw [hm]; exact hj)]
  | y :: l, i + 1, j, x, h, hj => by
    have ih := flat_get f m hm l i j x (by simpa using h) hj
    rw [List.flatMap_cons, List.getElem?_append_right (by rw [hm, Nat.add_mul]; omega), hm, ← ih]
    congr 1
    rw [Nat.add_mul]
    omega
theorem flat_length {α : Type} (f : α → List Value) (m : Nat) (hm : ∀ x, (f x).length = m) (l : List α) : (l.flatMap f).length = l.length * m := by
  induction l with
  | nil => simp
  | cons x l ih => rw [List.flatMap_cons, List.length_append, hm, ih, List.length_cons, Nat.add_mul]; omega

/-! ### Quiet calls in a region that draws its order -/
theorem below_drewN {B : Nat} {a w : World} (h : Below B a w) (n : Nat) : Below B a (w.drewN n) := ⟨h.os, h.tape, h.output, h.size, h.block⟩

/-- string([]byte{x}), the slice new. -/
theorem run_string_of_byte {P : Program} (src dst e : TypeId) (hs : P.underlying src = some (.slice e)) (he : P.underlying e = some (.int .u8)) (hd : P.underlying dst = some .string) (x : Int) (h0 : 0 ≤ x) (h1 : x < 256) (w : World) :
    (convert src dst (.slice (some ⟨w.heap.size, 0, none⟩) 1 1)).run P (w.alloc (.cells #[.int .u8 x] e)) = .ok (.string ⟨#[UInt8.ofNat x.toNat]⟩) (w.alloc (.cells #[.int .u8 x] e)) := by
  refine run_convert_bytes_back (w.alloc (.cells #[.int .u8 x] e)) src dst e ⟨w.heap.size, 0, none⟩ 1 [UInt8.ofNat x.toNat] hs he hd (fun j hj => ?_)
  have hj0 : j = 0 := by simpa using hj
  subst hj0
  rw [cells_new w [.int .u8 x] e 0 (.int .u8 x) rfl]
  congr 2
  simp only [List.getElem_cons_zero, UInt8.toNat_ofNat']
  omega

theorem size_append (a b : ByteArray) : (a ++ b).size = a.size + b.size := by simp
theorem toList_eq_data (a : ByteArray) : a.toList = a.data.toList := ByteArray.toList_eq a

/-- A row that has just been made, all zero. -/
theorem RowV.made (w : World) (z : Value) (n : Nat) (e : TypeId) : RowV (w.alloc (.cells (madeCells #[z] n) e)) w.heap.size (List.replicate n z) := by
  refine ⟨by simp, fun j v hj => ?_⟩
  have hb : (w.alloc (.cells (madeCells #[z] n) e)).heap[w.heap.size]? = some (.cells (madeCells #[z] n) e) := by
    show (w.heap.push _)[w.heap.size]? = _
    simp
  refine ⟨?_, frozen_of_row _ _ _ _ _ hb⟩
  rw [cell_of_row _ _ j _ _ _ hb, ← hj, ← toList_madeCells_one]
  simp

/-- A call that only draws and returns v. -/
def QuietRet (w : World) (v : Value) (e : Ending) (w' : World) : Prop := e = .returned v ∧ ∃ n, w' = w.drewN n

end Go.Proofs.YtpboaadjbkaidaaDoor

namespace Go.Proofs.YtpboaadjbkaidaaDoor
set_option maxRecDepth 100000
open Go.ChangeShapes Go.WideShapes Go.ChangeAt Go.RowKit

end Go.Proofs.YtpboaadjbkaidaaDoor

namespace Go.Proofs.YtpboaadjbkaidaaDoor
set_option maxRecDepth 100000
open Go.RowKit

def b2n (p : Nat → Bool) (i : Nat) : Nat := if p i = true then 1 else 0
theorem b2n_le (p : Nat → Bool) (i : Nat) : b2n p i ≤ 1 := by unfold b2n; split <;> omega
/-- Byte k of a set. -/
def byteOf (p : Nat → Bool) (k : Nat) : Nat := b2n p (8 * k) + 2 * b2n p (8 * k + 1) + 4 * b2n p (8 * k + 2) + 8 * b2n p (8 * k + 3) + 16 * b2n p (8 * k + 4) + 32 * b2n p (8 * k + 5) + 64 * b2n p (8 * k + 6) + 128 * b2n p (8 * k + 7)
theorem byteOf_lt (p : Nat → Bool) (k : Nat) : byteOf p k < 256 := by
  have h0 := b2n_le p (8 * k)
  have h1 := b2n_le p (8 * k + 1)
  have h2 := b2n_le p (8 * k + 2)
  have h3 := b2n_le p (8 * k + 3)
  have h4 := b2n_le p (8 * k + 4)
  have h5 := b2n_le p (8 * k + 5)
  have h6 := b2n_le p (8 * k + 6)
  have h7 := b2n_le p (8 * k + 7)
  unfold byteOf
  omega
theorem byteOf_bit (p : Nat → Bool) (k j : Nat) (hj : j < 8) : byteOf p k / 2 ^ j % 2 = b2n p (8 * k + j) := by
  have h0 := b2n_le p (8 * k)
  have h1 := b2n_le p (8 * k + 1)
  have h2 := b2n_le p (8 * k + 2)
  have h3 := b2n_le p (8 * k + 3)
  have h4 := b2n_le p (8 * k + 4)
  have h5 := b2n_le p (8 * k + 5)
  have h6 := b2n_le p (8 * k + 6)
  have h7 := b2n_le p (8 * k + 7)
  unfold byteOf
  rcases (show j = 0 ∨ j = 1 ∨ j = 2 ∨ j = 3 ∨ j = 4 ∨ j = 5 ∨ j = 6 ∨ j = 7 by omega) with rfl | rfl | rfl | rfl | rfl | rfl | rfl | rfl
  all_goals simp only [Nat.add_zero, show (2 : Nat) ^ 0 = 1 from rfl, show (2 : Nat) ^ 1 = 2 from rfl, show (2 : Nat) ^ 2 = 4 from rfl, show (2 : Nat) ^ 3 = 8 from rfl, show (2 : Nat) ^ 4 = 16 from rfl, show (2 : Nat) ^ 5 = 32 from rfl, show (2 : Nat) ^ 6 = 64 from rfl, show (2 : Nat) ^ 7 = 128 from rfl]
  all_goals omega
/-- A byte is known by its bits. -/
theorem byte_ext {v u : Nat} (hv : v < 256) (hu : u < 256) (h : ∀ j, j < 8 → v / 2 ^ j % 2 = u / 2 ^ j % 2) : v = u := by
  have h0 := h 0 (by omega)
  have h1 := h 1 (by omega)
  have h2 := h 2 (by omega)
  have h3 := h 3 (by omega)
  have h4 := h 4 (by omega)
  have h5 := h 5 (by omega)
  have h6 := h 6 (by omega)
  have h7 := h 7 (by omega)
  simp only [show (2 : Nat) ^ 0 = 1 from rfl, show (2 : Nat) ^ 1 = 2 from rfl, show (2 : Nat) ^ 2 = 4 from rfl, show (2 : Nat) ^ 3 = 8 from rfl, show (2 : Nat) ^ 4 = 16 from rfl, show (2 : Nat) ^ 5 = 32 from rfl, show (2 : Nat) ^ 6 = 64 from rfl, show (2 : Nat) ^ 7 = 128 from rfl] at h0 h1 h2 h3 h4 h5 h6 h7
  omega
theorem byteOf_congr {p q : Nat → Bool} {k : Nat} (h : ∀ j, j < 8 → p (8 * k + j) = q (8 * k + j)) : byteOf p k = byteOf q k := by
  refine byte_ext (byteOf_lt p k) (byteOf_lt q k) fun j hj => ?_
  rw [byteOf_bit p k j hj, byteOf_bit q k j hj]
  unfold b2n
  rw [h j hj]

/-! ### What the machine's operations do to bits: all bytes tried -/
theorem and_tab : ∀ v : Fin 256, ∀ j : Fin 8, (bits BinOp.and IntKind.u8 (((v.val : Nat) : Int) / 2 ^ j.val) 1 == 1) = (v.val / 2 ^ j.val % 2 == 1) := by decide +kernel
theorem or_tab : ∀ v : Fin 256, ∀ j : Fin 8, ∀ i : Fin 8, 0 ≤ bits BinOp.or IntKind.u8 ((v.val : Nat) : Int) (2 ^ j.val) ∧ bits BinOp.or IntKind.u8 ((v.val : Nat) : Int) (2 ^ j.val) < 256 ∧ (bits BinOp.or IntKind.u8 ((v.val : Nat) : Int) (2 ^ j.val)).toNat / 2 ^ i.val % 2 = if i = j then 1 else v.val / 2 ^ i.val % 2 := by decide +kernel
theorem not_tab : ∀ v : Fin 256, ∀ i : Fin 8, 0 ≤ bits BinOp.xor IntKind.u8 255 ((v.val : Nat) : Int) ∧ bits BinOp.xor IntKind.u8 255 ((v.val : Nat) : Int) < 256 ∧ (bits BinOp.xor IntKind.u8 255 ((v.val : Nat) : Int)).toNat / 2 ^ i.val % 2 = 1 - v.val / 2 ^ i.val % 2 := by decide +kernel

/-- The bit of a byte in a set. -/
theorem test_bit (p : Nat → Bool) (b : Nat) : (bits BinOp.and IntKind.u8 ((byteOf p (b / 8) : Nat) / 2 ^ (b % 8)) 1 == 1) = p b := by
  have h := and_tab ⟨byteOf p (b / 8), byteOf_lt _ _⟩ ⟨b % 8, Nat.mod_lt _ (by decide)⟩
  simp only at h
  rw [h, byteOf_bit p (b / 8) (b % 8) (Nat.mod_lt _ (by decide)), show 8 * (b / 8) + b % 8 = b by omega]
  unfold b2n
  cases p b <;> rfl
def addP (p : Nat → Bool) (b : Nat) : Nat → Bool := fun n => n == b || p n
theorem add_byte (p : Nat → Bool) (b : Nat) : bits BinOp.or IntKind.u8 (byteOf p (b / 8) : Nat) (2 ^ (b % 8)) = ((byteOf (addP p b) (b / 8) : Nat) : Int) := by
  have h := fun i : Fin 8 => or_tab ⟨byteOf p (b / 8), byteOf_lt _ _⟩ ⟨b % 8, Nat.mod_lt _ (by decide)⟩ i
  simp only at h
  have h0 := h 0
  generalize hz : bits BinOp.or IntKind.u8 (byteOf p (b / 8) : Nat) (2 ^ (b % 8)) = z at h h0
  obtain ⟨n, rfl⟩ : ∃ n : Nat, z = (n : Int) := ⟨z.toNat, by omega⟩
  have e : n = byteOf (addP p b) (b / 8) := byte_ext (by omega) (byteOf_lt _ _) fun j hj => by
    have h1 := (h ⟨j, hj⟩).2.2
    rw [Int.toNat_natCast] at h1
    rw [h1, byteOf_bit _ _ j hj, byteOf_bit _ _ j hj]
    unfold addP b2n
    by_cases hjb : j = b % 8
    · rw [if_pos (by ext; exact hjb)]
      have : (8 * (b / 8) + j == b) = true := by simp; omega
      simp [this]
    · rw [if_neg (fun e => hjb (by simpa using congrArg Fin.val e))]
      have : (8 * (b / 8) + j == b) = false := by simp; omega
      simp [this]
  rw [e]
theorem add_other (p : Nat → Bool) (b k : Nat) (h : k ≠ b / 8) : byteOf (addP p b) k = byteOf p k := byteOf_congr fun j hj => by
  unfold addP
  have : (8 * k + j == b) = false := by simp; omega
  rw [this, Bool.false_or]
def notP (p : Nat → Bool) : Nat → Bool := fun n => !p n
theorem not_byte (p : Nat → Bool) (k : Nat) : bits BinOp.xor IntKind.u8 255 (byteOf p k : Nat) = ((byteOf (notP p) k : Nat) : Int) := by
  have h := fun i : Fin 8 => not_tab ⟨byteOf p k, byteOf_lt _ _⟩ i
  simp only at h
  have h0 := h 0
  generalize hz : bits BinOp.xor IntKind.u8 255 (byteOf p k : Nat) = z at h h0
  obtain ⟨n, rfl⟩ : ∃ n : Nat, z = (n : Int) := ⟨z.toNat, by omega⟩
  have e : n = byteOf (notP p) k := byte_ext (by omega) (byteOf_lt _ _) fun j hj => by
    have h1 := (h ⟨j, hj⟩).2.2
    rw [Int.toNat_natCast] at h1
    rw [h1, byteOf_bit _ _ j hj, byteOf_bit _ _ j hj]
    unfold notP b2n
    cases hx : p (8 * k + j) <;> simp [hx]
  rw [e]
def orP (p q : Nat → Bool) : Nat → Bool := fun n => p n || q n
theorem bv_or (v u : BitVec 8) (j : Nat) : (v ||| u).toNat / 2 ^ j % 2 = if v.toNat / 2 ^ j % 2 = 1 ∨ u.toNat / 2 ^ j % 2 = 1 then 1 else 0 := by
  have h := Nat.testBit_or v.toNat u.toNat j
  rw [Nat.testBit_eq_decide_div_mod_eq, Nat.testBit_eq_decide_div_mod_eq, Nat.testBit_eq_decide_div_mod_eq] at h
  rw [BitVec.toNat_or]
  by_cases h1 : v.toNat / 2 ^ j % 2 = 1 ∨ u.toNat / 2 ^ j % 2 = 1
  · rw [if_pos h1]
    rcases h1 with h1 | h1
    · simp [h1] at h; exact h
    · simp [h1] at h; exact h
  · rw [if_neg h1]
    have h2 : ¬ v.toNat / 2 ^ j % 2 = 1 := fun e => h1 (.inl e)
    have h3 : ¬ u.toNat / 2 ^ j % 2 = 1 := fun e => h1 (.inr e)
    simp [h2, h3] at h
    omega
theorem or_byte (p q : Nat → Bool) (k : Nat) : bits BinOp.or IntKind.u8 (byteOf p k : Nat) (byteOf q k : Nat) = ((byteOf (orP p q) k : Nat) : Int) := by
  have hp := byteOf_lt p k
  have hq := byteOf_lt q k
  have e1 : bits BinOp.or IntKind.u8 (byteOf p k : Nat) (byteOf q k : Nat) = (((BitVec.ofNat 8 (byteOf p k) ||| BitVec.ofNat 8 (byteOf q k)).toNat : Nat) : Int) := by
    unfold bits
    show IntKind.u8.wrap (((BitVec.ofInt 8 (byteOf p k : Nat)) ||| (BitVec.ofInt 8 (byteOf q k : Nat))).toNat : Nat) = _
    rw [BitVec.ofInt_natCast, BitVec.ofInt_natCast]
    have := (BitVec.ofNat 8 (byteOf p k) ||| BitVec.ofNat 8 (byteOf q k)).isLt
    generalize (BitVec.ofNat 8 (byteOf p k) ||| BitVec.ofNat 8 (byteOf q k)).toNat = z at this
    rw [IntKind.wrap_u8]
    omega
  rw [e1]
  have hlt := (BitVec.ofNat 8 (byteOf p k) ||| BitVec.ofNat 8 (byteOf q k)).isLt
  have e : (BitVec.ofNat 8 (byteOf p k) ||| BitVec.ofNat 8 (byteOf q k)).toNat = byteOf (orP p q) k := byte_ext hlt (byteOf_lt _ _) fun j hj => by
    rw [bv_or, BitVec.toNat_ofNat, BitVec.toNat_ofNat, Nat.mod_eq_of_lt hp, Nat.mod_eq_of_lt hq, byteOf_bit _ _ j hj, byteOf_bit _ _ j hj, byteOf_bit _ _ j hj]
    unfold orP b2n
    cases hx : p (8 * k + j) <;> cases hy : q (8 * k + j) <;> simp [hx, hy]
  rw [e]

/-- The cells of a set. -/
def setC (p : Nat → Bool) : List Value := (List.range 32).map fun k => .int .u8 (byteOf p k : Nat)
theorem setC_length (p : Nat → Bool) : (setC p).length = 32 := by simp [setC]
theorem setC_get (p : Nat → Bool) (k : Nat) (h : k < 32) : (setC p)[k]? = some (.int .u8 (byteOf p k : Nat)) := by simp [setC, h]
theorem setC_congr {p q : Nat → Bool} (h : ∀ n, n < 256 → p n = q n) : setC p = setC q := by
  unfold setC
  refine List.map_congr_left fun k hk => ?_
  have hk' := List.mem_range.1 hk
  rw [byteOf_congr fun j hj => h _ (by omega)]
/-- A set with one byte written anew. -/
theorem setC_set (p q : Nat → Bool) (k : Nat) (hk : k < 32) (h : ∀ i, i < 32 → i ≠ k → byteOf q i = byteOf p i) : (setC p).toArray.setIfInBounds k (.int .u8 (byteOf q k : Nat)) = (setC q).toArray := by
  rw [List.setIfInBounds_toArray]
  congr 1
  refine List.ext_getElem? fun i => ?_
  by_cases hi : i < 32
  · by_cases hik : i = k
    · subst hik
      rw [List.getElem?_set_self (by rw [setC_length]; exact hk), setC_get q i hi]
    · rw [List.getElem?_set_ne (fun e => hik e.symm), setC_get p i hi, setC_get q i hi, h i hi hik]
  · rw [List.getElem?_eq_none (by rw [List.length_set, setC_length]; omega), List.getElem?_eq_none (by rw [setC_length]; omega)]
def noP : Nat → Bool := fun _ => false

end Go.Proofs.YtpboaadjbkaidaaDoor

namespace Go.Proofs.YtpboaadjbkaidaaDoor
set_option maxRecDepth 100000
open Go.RowKit

/-- An atom: its set, its least number, and whether it may be many. -/
structure At where
  p : Nat → Bool
  mn : Int
  many : Bool
def atC (x : At) : List Value := setC x.p ++ [.int .i64 x.mn, .bool x.many]
theorem atC_len (x : At) : (atC x).length = 34 := by simp [atC, setC_length]
theorem atC_set (x : At) (k : Nat) (h : k < 32) : (atC x)[k]? = some (.int .u8 (byteOf x.p k : Nat)) := by
  unfold atC
  rw [List.getElem?_append_left (by rw [setC_length]; exact h), setC_get x.p k h]
theorem atC_mn (x : At) : (atC x)[32]? = some (.int .i64 x.mn) := by
  unfold atC
  rw [List.getElem?_append_right (by rw [setC_length]; omega), setC_length]
  rfl
theorem atC_many (x : At) : (atC x)[33]? = some (.bool x.many) := by
  unfold atC
  rw [List.getElem?_append_right (by rw [setC_length]; omega), setC_length]
  rfl

theorem at_cell (w : World) (x : At) (t : TypeId) (k : Nat) (v : Value) (h : (atC x)[k]? = some v) : (w.alloc (.cells (atC x).toArray t)).cell? ⟨w.heap.size, k, none⟩ = some v := by
  rw [cell_of_row _ _ _ (atC x).toArray t _ (heap_alloc_new w _)]
  simpa using h

set_option maxRecDepth 100000 in
set_option maxHeartbeats 1000000 in
theorem contains_any (x : At) (b : Nat) (w : World) (hb : b < 256) :
    Calls Tryd.prog 82 #[.agg (atC x).toArray, .int .u8 b] w fun e w' => e = .returned (.bool (x.p b)) ∧ Below w.heap.size w w' := by
  have q := at_cell w x 26 (b / 8) _ (atC_set x (b / 8) (by omega))
  have H := Lib.hid (test_bit x.p b)
  have hv := byteOf_lt x.p (b / 8)
  generalize byteOf x.p (b / 8) = v at q H hv
  generalize (atC x).toArray = cs at q ⊢
  go_enter Tryd.func82, Tryd.ntmps82
  go_wp2_with fail
  go_ret
  exact ⟨ret_bool H.out, (Below.refl w.heap.size w).alloc (Nat.le_refl _) _⟩

/-- The set in block g. -/
def SetIn (w : World) (g : Nat) (t : TypeId) (p : Nat → Bool) : Prop := w.heap[g]? = some (.cells (setC p).toArray t)
theorem SetIn.cell {w : World} {g : Nat} {t : TypeId} {p : Nat → Bool} (h : SetIn w g t p) (k : Nat) (hk : k < 32) : w.cell? ⟨g, k, none⟩ = some (.int .u8 (byteOf p k : Nat)) := by
  rw [cell_of_row _ _ _ _ _ _ h]
  simpa using setC_get p k hk
theorem SetIn.free {w : World} {g : Nat} {t : TypeId} {p : Nat → Bool} (h : SetIn w g t p) (k : Nat) : w.frozen? ⟨g, k, none⟩ = false := frozen_of_row w g k _ t h
theorem SetIn.lt {w : World} {g : Nat} {t : TypeId} {p : Nat → Bool} (h : SetIn w g t p) : g < w.heap.size := (Array.getElem?_eq_some_iff.1 h).1
theorem SetIn.setByte {w : World} {g : Nat} {t : TypeId} {p : Nat → Bool} (h : SetIn w g t p) (q : Nat → Bool) (k : Nat) (hk : k < 32) (hq : ∀ i, i < 32 → i ≠ k → byteOf q i = byteOf p i) : SetIn (w.setCell ⟨g, k, none⟩ (.int .u8 (byteOf q k : Nat))) g t q := by
  unfold SetIn at *
  rw [heap_setCell_same w g k _ t _ h, setC_set p q k hk hq]

theorem pow_small (j : Nat) (h : j < 8) : (2 : Int) ^ j % 256 = 2 ^ j := by
  rcases (show j = 0 ∨ j = 1 ∨ j = 2 ∨ j = 3 ∨ j = 4 ∨ j = 5 ∨ j = 6 ∨ j = 7 by omega) with rfl | rfl | rfl | rfl | rfl | rfl | rfl | rfl <;> rfl
/-- Block g alone may have changed. -/
structure Only (g : Nat) (w w' : World) : Prop where
  os : w'.os = w.os
  tape : w'.tape = w.tape
  output : w'.output = w.output
  size : w.heap.size ≤ w'.heap.size
  block : ∀ k, k < w.heap.size → k ≠ g → w'.heap[k]? = w.heap[k]?
theorem Only.refl (g : Nat) (w : World) : Only g w w := ⟨rfl, rfl, rfl, Nat.le_refl _, fun _ _ _ => rfl⟩
theorem Only.trans {g : Nat} {a b c : World} (h : Only g a b) (k : Only g b c) : Only g a c :=
  ⟨k.os.trans h.os, k.tape.trans h.tape, k.output.trans h.output, Nat.le_trans h.size k.size, fun i hi hn => (k.block i (Nat.lt_of_lt_of_le hi h.size) hn).trans (h.block i hi hn)⟩
theorem Only.of_below {g : Nat} {w w' : World} (h : Below w.heap.size w w') : Only g w w' := ⟨h.os, h.tape, h.output, h.size, fun k hk _ => h.block k hk⟩
theorem Only.below {g B : Nat} {w w' : World} (h : Only g w w') (hB : B ≤ g) (hs : B ≤ w.heap.size) : Below B w w' := ⟨h.os, h.tape, h.output, h.size, fun k hk => h.block k (by omega) (by omega)⟩
theorem Only.alloc {g : Nat} {a w : World} (h : Only g a w) (o : Obj) : Only g a (w.alloc o) := h.trans (.of_below ((Below.refl _ _).alloc (Nat.le_refl _) o))
theorem Only.drewN {g : Nat} {a w : World} (h : Only g a w) (n : Nat) : Only g a (w.drewN n) := ⟨h.os, h.tape, h.output, h.size, h.block⟩
theorem Only.set {g : Nat} {a w : World} (h : Only g a w) (j : Nat) (u : Value) : Only g a (w.setCell ⟨g, j, none⟩ u) :=
  h.trans ⟨rfl, rfl, rfl, by simp [World.setCell], fun k _ hn => Below.heap_setCell _ _ _ _ (by show k ≠ g; exact hn)⟩

set_option maxRecDepth 100000 in
set_option maxHeartbeats 1000000 in
theorem add_any (p : Nat → Bool) (g b : Nat) (t : TypeId) (w : World) (h : SetIn w g t p) (hb : b < 256) :
    Calls Tryd.prog 133 #[.pointer (some ⟨g, 0, none⟩), .int .u8 b] w fun e w' => e = .returned (.tuple #[]) ∧ SetIn w' g t (addP p b) ∧ Only g w w' := by
  have q := h.cell (b / 8) (by omega)
  have qf := h.free (b / 8)
  have ha := add_byte p b
  rw [← pow_small (b % 8) (Nat.mod_lt _ (by decide))] at ha
  have HA := Lib.hid ha
  clear ha
  have HS := Lib.hid (h.setByte (addP p b) (b / 8) (by omega) fun i _ hi => add_other p b i hi)
  have hv := byteOf_lt p (b / 8)
  generalize byteOf p (b / 8) = v at q HA hv
  clear h
  go_enter Tryd.func133, Tryd.ntmps133
  go_wp2_with fail
  go_region
  all_goals
    go_wp2_with fail
    go_end0
    rw [HA.out]
    exact ⟨rfl, HS.out, ((Only.refl g w).set _ _).drewN 1⟩

set_option maxRecDepth 100000 in
set_option maxHeartbeats 1000000 in
theorem put_any (p : Nat → Bool) (g b : Nat) (t : TypeId) (w : World) (h : SetIn w g t p) (hb : b < 256) :
    Calls Tryd.prog 124 #[.pointer (some ⟨g, 0, none⟩), .int .u8 b] w fun e w' => e = .returned (.tuple #[]) ∧ SetIn w' g t (addP p b) ∧ Only g w w' := by
  have q := h.cell (b / 8) (by omega)
  have qf := h.free (b / 8)
  have ha := add_byte p b
  rw [← pow_small (b % 8) (Nat.mod_lt _ (by decide))] at ha
  have HA := Lib.hid ha
  clear ha
  have HS := Lib.hid (h.setByte (addP p b) (b / 8) (by omega) fun i _ hi => add_other p b i hi)
  have hv := byteOf_lt p (b / 8)
  generalize byteOf p (b / 8) = v at q HA hv
  clear h
  go_enter Tryd.func124, Tryd.ntmps124
  go_wp2_with fail
  go_region
  all_goals
    go_wp2_with fail
    go_end0
    rw [HA.out]
    exact ⟨rfl, HS.out, ((Only.refl g w).set _ _).drewN 1⟩

/-- A set joined byte by byte: k bytes are done. -/
def mixP (p q : Nat → Bool) (k : Nat) : Nat → Bool := fun n => if n / 8 < k then q n else p n
theorem mix_byte (p q : Nat → Bool) (k i : Nat) : byteOf (mixP p q k) i = if i < k then byteOf q i else byteOf p i := by
  by_cases h : i < k
  · rw [if_pos h]
    refine byteOf_congr fun j hj => ?_
    unfold mixP
    rw [if_pos (by omega)]
  · rw [if_neg h]
    refine byteOf_congr fun j hj => ?_
    unfold mixP
    rw [if_neg (by omega)]
theorem SetIn.congr {w : World} {g : Nat} {t : TypeId} {p q : Nat → Bool} (h : SetIn w g t p) (e : ∀ n, n < 256 → p n = q n) : SetIn w g t q := by
  unfold SetIn at *
  rw [← setC_congr e]
  exact h
theorem SetIn.mix {w : World} {g : Nat} {t : TypeId} {p q : Nat → Bool} {k : Nat} (h : SetIn w g t (mixP p q k)) (hk : k < 32) : SetIn (w.setCell ⟨g, k, none⟩ (.int .u8 (byteOf q k : Nat))) g t (mixP p q (k + 1)) := by
  have h2 := h.setByte (mixP p q (k + 1)) k hk fun i _ hi => by
    rw [mix_byte, mix_byte]
    by_cases h3 : i < k
    · rw [if_pos h3, if_pos (by omega)]
    · rw [if_neg h3, if_neg (by omega)]
  rw [mix_byte, if_pos (by omega)] at h2
  exact h2
theorem SetIn.keep {w w' : World} {g : Nat} {t : TypeId} {p : Nat → Bool} (h : SetIn w g t p) (e : w'.heap[g]? = w.heap[g]?) : SetIn w' g t p := e.trans h

set_option maxRecDepth 100000 in
set_option maxHeartbeats 2000000 in
theorem join_any (p q : Nat → Bool) (g : Nat) (t : TypeId) (w : World) (h : SetIn w g t p) :
    Calls Tryd.prog 139 #[.pointer (some ⟨g, 0, none⟩), .agg (setC q).toArray] w fun e w' => e = .returned (.tuple #[]) ∧ SetIn w' g t (orP p q) ∧ Only g w w' := by
  have hlt := h.lt
  have HQ0 : Hid (SetIn (w.alloc (.cells (setC q).toArray 138)) w.heap.size 138 q) := heap_alloc_new w _
  have HP0 : Hid (SetIn (w.alloc (.cells (setC q).toArray 138)) g t p) := h.keep (Below.heap_alloc w _ g hlt)
  have HO0 := Lib.hid ((Only.refl g w).alloc (.cells (setC q).toArray 138))
  clear h
  generalize (setC q).toArray = cs at HQ0 HP0 HO0 ⊢
  go_enter Tryd.func139, Tryd.ntmps139
  go_wp2_with fail
  go_loopw [5] (fun kv wr => ∃ k : Nat, k ≤ 32 ∧ kv = .int .i64 k ∧ Hid (SetIn wr w.heap.size 138 q) ∧ Hid (SetIn wr g t (mixP p (orP p q) k)) ∧ Hid (Only g w wr)) (fun kv _ => 32 - (intOf kv).toNat)
  case atStart => exact ⟨0, by omega, rfl, HQ0.out, HP0.out.congr fun n _ => by unfold mixP; rw [if_neg (by omega)], HO0.out⟩
  case round =>
    clear HQ0 HP0 HO0
    obtain ⟨k, hk, rfl, HQ, HP, HO⟩ := hrel
    by_cases hkl : k < 32
    · have q1 := HQ.out.cell k hkl
      have q2 := HP.out.cell k hkl
      have qf := HP.out.free k
      rw [mix_byte, if_neg (by omega)] at q2
      have HS := Lib.hid (HP.out.mix hkl)
      have HOR := Lib.hid (or_byte p q k)
      have hv := byteOf_lt p k
      have hu := byteOf_lt q k
      generalize byteOf p k = v at q2 HOR hv
      generalize byteOf q k = u at q1 HOR hu
      go_wp2_with fail
      go_region
      all_goals
        go_wp2_with fail
        rw [HOR.out]
        exact ⟨⟨k + 1, by omega, by go_num, HQ.out.keep (Below.heap_setCell _ _ _ _ (by show w.heap.size ≠ g; omega)), HS.out, (HO.out.set _ _).drewN 1⟩, by simp [intOf]; try omega⟩
    · obtain rfl : k = 32 := by omega
      go_wp2_with fail
      go_end0
      exact ⟨rfl, HP.out.congr fun n hn => by unfold mixP; rw [if_pos (by omega)], HO.out⟩

/-- A store of a whole set. -/
theorem SetIn.row {w : World} {g : Nat} {t : TypeId} {p : Nat → Bool} (h : SetIn w g t p) (q : Nat → Bool) : SetIn (w.setRow g (setC q).toArray) g t q := setRow_heap w g _ _ t _ h
theorem Only.row {g : Nat} {a w : World} (h : Only g a w) (cs : Array Value) : Only g a (w.setRow g cs) :=
  h.trans ⟨rfl, rfl, rfl, by simp, fun k _ hn => setRow_other w g k cs hn⟩
theorem set_size : (Tryd.prog.info? 138).map (·.size) = some 32 := by kernel_rfl
theorem setC_size (p : Nat → Bool) : (setC p).toArray.size = 32 := by simp [setC_length]

theorem res_set {fn : Func} {p : Tmp} (h : fn.results = #[.cell p 138]) (tmps : Array Value) (w : World) (g : Nat) (t : TypeId) (q : Nat → Bool) (hp : tmps.getD p undef = .pointer (some ⟨g, 0, none⟩)) (hs : SetIn w g t q) :
    (results fn tmps).run Tryd.prog w = .ok (.agg (setC q).toArray) w :=
  results_cell_row h tmps w g t (setC q).toArray (0, 0) _ hp hs Tryd.underlying138 rfl (by rw [set_size, setC_size])
theorem setC_one (p : Nat → Bool) : (setC p).toArray.all (·.oneCell') = true := by
  rw [Array.all_eq_true_iff_forall_mem]
  intro v hv
  simp [setC] at hv
  obtain ⟨k, _, rfl⟩ := hv
  rfl
theorem zero_set : (#[.int .u8 0, .int .u8 0, .int .u8 0, .int .u8 0, .int .u8 0, .int .u8 0, .int .u8 0, .int .u8 0, .int .u8 0, .int .u8 0, .int .u8 0, .int .u8 0, .int .u8 0, .int .u8 0, .int .u8 0, .int .u8 0, .int .u8 0, .int .u8 0, .int .u8 0, .int .u8 0, .int .u8 0, .int .u8 0, .int .u8 0, .int .u8 0, .int .u8 0, .int .u8 0, .int .u8 0, .int .u8 0, .int .u8 0, .int .u8 0, .int .u8 0, .int .u8 0] : Array Value) = (setC noP).toArray := by kernel_rfl
def zeroA : Array Value := #[.int .u8 0, .int .u8 0, .int .u8 0, .int .u8 0, .int .u8 0, .int .u8 0, .int .u8 0, .int .u8 0, .int .u8 0, .int .u8 0, .int .u8 0, .int .u8 0, .int .u8 0, .int .u8 0, .int .u8 0, .int .u8 0, .int .u8 0, .int .u8 0, .int .u8 0, .int .u8 0, .int .u8 0, .int .u8 0, .int .u8 0, .int .u8 0, .int .u8 0, .int .u8 0, .int .u8 0, .int .u8 0, .int .u8 0, .int .u8 0, .int .u8 0, .int .u8 0]

end Go.Proofs.YtpboaadjbkaidaaDoor

namespace Go.Proofs.YtpboaadjbkaidaaDoor
set_option maxRecDepth 100000
open Go.RowKit

/-- The class of a byte. -/
def clsN (n : Int) : Int :=
  if n = 9 ∨ n = 10 ∨ n = 13 ∨ n = 32 then 2
  else if n < 32 ∨ n = 127 then 1
  else if 48 ≤ n ∧ n ≤ 57 then 3
  else if (97 ≤ n ∧ n ≤ 122) ∨ (65 ≤ n ∧ n ≤ 90) ∨ 128 ≤ n then 4
  else 5

/-! ### Names -/
def headB (c : UInt8) : Bool := decide (97 ≤ c.toNat ∧ c.toNat ≤ 122)
def restB (c : UInt8) : Bool := decide ((97 ≤ c.toNat ∧ c.toNat ≤ 122) ∨ (48 ≤ c.toNat ∧ c.toNat ≤ 57) ∨ c.toNat = 45)
def nameL : List UInt8 → Bool
  | [] => false
  | c :: r => decide (r.length ≤ 23) && headB c && r.all restB

theorem nameL_short (l : List UInt8) (h : l.length < 1) : nameL l = false := by
  have : l = [] := List.eq_nil_of_length_eq_zero (by omega)
  subst this
  rfl
theorem nameL_long (l : List UInt8) (h : 24 < l.length) : nameL l = false := by
  match l, h with
  | c :: r, h => simp at h; simp [nameL]; omega
theorem nameL_head (l : List UInt8) (h : 0 < l.length) (hc : headB l[0] = false) : nameL l = false := by
  match l, h with
  | c :: r, h => simp at hc; simp [nameL, hc]
theorem nameL_tail (l : List UInt8) (h : 0 < l.length) (hl : l.length ≤ 24) (hc : headB l[0] = true) : nameL l = (l.drop 1).all restB := by
  match l, h with
  | c :: r, h => simp at hc hl; simp [nameL, hc, hl]
theorem all_drop_step (l : List UInt8) (k : Nat) (h : k < l.length) : (l.drop k).all restB = (restB l[k] && (l.drop (k + 1)).all restB) := by
  rw [List.drop_eq_getElem_cons h, List.all_cons]
theorem all_drop_end (l : List UInt8) (k : Nat) (h : ¬ k < l.length) : (l.drop k).all restB = true := by
  rw [List.drop_of_length_le (by omega)]; rfl

/-! ### Trim -/
/-- What Trim answers: nothing but spaces and 0, 0; or the first and the last byte that is none. -/
def IsTrim (l : List UInt8) (x y : Nat) : Prop :=
  (x = 0 ∧ y = 0 ∧ ∀ (j : Nat) (c : UInt8), l[j]? = some c → clsN c.toNat = 2) ∨
  (x < y ∧ y ≤ l.length ∧ (∀ c, l[x]? = some c → clsN c.toNat ≠ 2) ∧ (∀ c, l[y - 1]? = some c → clsN c.toNat ≠ 2) ∧ (∀ (j : Nat) (c : UInt8), j < x → l[j]? = some c → clsN c.toNat = 2) ∧ ∀ (j : Nat) (c : UInt8), y ≤ j → l[j]? = some c → clsN c.toNat = 2)

theorem IsTrim.bounds {l : List UInt8} {x y : Nat} (h : IsTrim l x y) : x ≤ y ∧ y ≤ l.length := by
  rcases h with ⟨rfl, rfl, _⟩ | ⟨h1, h2, _⟩
  · omega
  · omega

/-! ### Runs -/
end Go.Proofs.YtpboaadjbkaidaaDoor

namespace Go.Proofs.YtpboaadjbkaidaaDoor
set_option maxRecDepth 100000
open Go.RowKit

theorem of_any (n : Int) (w : World) (h0 : 0 ≤ n) (h1 : n < 256) :
    Calls Tryd.prog 98 #[.int .u8 n] w fun e w' => e = .returned (.int .i64 (clsN n)) ∧ w = w' := by
  go_enter Tryd.func98, Tryd.ntmps98
  go_wp2
  all_goals (go_ret; refine ⟨ret_int ?_, rfl⟩)
  all_goals (try simp only [beq_iff_eq, beq_eq_false_iff_ne] at *)
  all_goals (unfold clsN; repeat (first | rw [if_pos (by omega)] | rw [if_neg (by omega)]))

theorem cls_any (n : Int) (w : World) (h0 : 0 ≤ n) (h1 : n < 256) :
    Calls Tryd.prog 99 #[.int .u8 n] w fun e w' => e = .returned (.int .i64 (clsN n)) ∧ w = w' := by
  go_enter Tryd.func99, Tryd.ntmps99
  go_wp2
  all_goals (go_ret; refine ⟨ret_int ?_, rfl⟩)
  all_goals (try simp only [beq_iff_eq, beq_eq_false_iff_ne] at *)
  all_goals (unfold clsN; repeat (first | rw [if_pos (by omega)] | rw [if_neg (by omega)]))

end Go.Proofs.YtpboaadjbkaidaaDoor

namespace Go.Proofs.YtpboaadjbkaidaaDoor
set_option maxRecDepth 100000
open Go.RowKit

theorem zero_in (w : World) (t : TypeId) : SetIn (w.alloc (.cells #[.int .u8 0, .int .u8 0, .int .u8 0, .int .u8 0, .int .u8 0, .int .u8 0, .int .u8 0, .int .u8 0, .int .u8 0, .int .u8 0, .int .u8 0, .int .u8 0, .int .u8 0, .int .u8 0, .int .u8 0, .int .u8 0, .int .u8 0, .int .u8 0, .int .u8 0, .int .u8 0, .int .u8 0, .int .u8 0, .int .u8 0, .int .u8 0, .int .u8 0, .int .u8 0, .int .u8 0, .int .u8 0, .int .u8 0, .int .u8 0, .int .u8 0, .int .u8 0] t)) w.heap.size t noP := by
  rw [zero_set]
  exact heap_alloc_new w _

set_option maxRecDepth 100000 in
set_option maxHeartbeats 2000000 in
theorem inverted_any (p : Nat → Bool) (w : World) :
    Calls Tryd.prog 127 #[.agg (setC p).toArray] w fun e w' => e = .returned (.agg (setC (notP p)).toArray) ∧ Below w.heap.size w w' := by
  have HQ0 : Hid (SetIn ((w.alloc (.cells (setC p).toArray 138)).alloc (.cells #[.int .u8 0, .int .u8 0, .int .u8 0, .int .u8 0, .int .u8 0, .int .u8 0, .int .u8 0, .int .u8 0, .int .u8 0, .int .u8 0, .int .u8 0, .int .u8 0, .int .u8 0, .int .u8 0, .int .u8 0, .int .u8 0, .int .u8 0, .int .u8 0, .int .u8 0, .int .u8 0, .int .u8 0, .int .u8 0, .int .u8 0, .int .u8 0, .int .u8 0, .int .u8 0, .int .u8 0, .int .u8 0, .int .u8 0, .int .u8 0, .int .u8 0, .int .u8 0] 138)) w.heap.size 138 (mixP p (notP p) 0)) := by
    have h : SetIn (w.alloc (.cells (setC p).toArray 138)) w.heap.size 138 p := heap_alloc_new w _
    exact (h.keep (Below.heap_alloc _ _ _ (by simp))).congr fun n _ => by unfold mixP; rw [if_neg (by omega)]
  have HZ0 : Hid (SetIn ((w.alloc (.cells (setC p).toArray 138)).alloc (.cells #[.int .u8 0, .int .u8 0, .int .u8 0, .int .u8 0, .int .u8 0, .int .u8 0, .int .u8 0, .int .u8 0, .int .u8 0, .int .u8 0, .int .u8 0, .int .u8 0, .int .u8 0, .int .u8 0, .int .u8 0, .int .u8 0, .int .u8 0, .int .u8 0, .int .u8 0, .int .u8 0, .int .u8 0, .int .u8 0, .int .u8 0, .int .u8 0, .int .u8 0, .int .u8 0, .int .u8 0, .int .u8 0, .int .u8 0, .int .u8 0, .int .u8 0, .int .u8 0] 138)) (w.heap.size + 1) 138 noP) := by
    have h := zero_in (w.alloc (.cells (setC p).toArray 138)) 138
    rw [show (w.alloc (.cells (setC p).toArray 138)).heap.size = w.heap.size + 1 by simp] at h
    exact h
  have HB0 := Lib.hid (((Below.refl w.heap.size w).alloc (Nat.le_refl _) (.cells (setC p).toArray 138)).alloc (by simp) (.cells #[.int .u8 0, .int .u8 0, .int .u8 0, .int .u8 0, .int .u8 0, .int .u8 0, .int .u8 0, .int .u8 0, .int .u8 0, .int .u8 0, .int .u8 0, .int .u8 0, .int .u8 0, .int .u8 0, .int .u8 0, .int .u8 0, .int .u8 0, .int .u8 0, .int .u8 0, .int .u8 0, .int .u8 0, .int .u8 0, .int .u8 0, .int .u8 0, .int .u8 0, .int .u8 0, .int .u8 0, .int .u8 0, .int .u8 0, .int .u8 0, .int .u8 0, .int .u8 0] 138))
  generalize (setC p).toArray = cs at HQ0 HZ0 HB0 ⊢
  go_enter Tryd.func127, Tryd.ntmps127
  go_wp2_with fail
  generalize (w.alloc (.cells cs 138)).alloc (.cells #[.int .u8 0, .int .u8 0, .int .u8 0, .int .u8 0, .int .u8 0, .int .u8 0, .int .u8 0, .int .u8 0, .int .u8 0, .int .u8 0, .int .u8 0, .int .u8 0, .int .u8 0, .int .u8 0, .int .u8 0, .int .u8 0, .int .u8 0, .int .u8 0, .int .u8 0, .int .u8 0, .int .u8 0, .int .u8 0, .int .u8 0, .int .u8 0, .int .u8 0, .int .u8 0, .int .u8 0, .int .u8 0, .int .u8 0, .int .u8 0, .int .u8 0, .int .u8 0] 138) = w1 at HQ0 HZ0 HB0
  go_loopw [4] (fun kv wr => ∃ k : Nat, k ≤ 32 ∧ kv = .int .i64 k ∧ Hid (SetIn wr w.heap.size 138 (mixP p (notP p) k)) ∧ Hid (SetIn wr (w.heap.size + 1) 138 noP) ∧ Hid (Below w.heap.size w wr)) (fun kv _ => 32 - (intOf kv).toNat)
  case atStart => exact ⟨0, by omega, rfl, HQ0.out, HZ0.out, HB0.out⟩
  case round =>
    clear HQ0 HZ0 HB0
    obtain ⟨k, hk, rfl, HP, HZ, HB⟩ := hrel
    by_cases hkl : k < 32
    · have q2 := HP.out.cell k hkl
      have qf := HP.out.free k
      rw [mix_byte, if_neg (by omega)] at q2
      have HS := Lib.hid (HP.out.mix hkl)
      have HNT := Lib.hid (not_byte p k)
      have hv := byteOf_lt p k
      generalize byteOf p k = v at q2 HNT hv
      go_wp2_with fail
      rw [show (if IntKind.u8.signed = true then (-1 : Int) else IntKind.u8.max) = 255 from rfl, HNT.out]
      exact ⟨⟨k + 1, by omega, by go_num, HS.out, HZ.out.keep (Below.heap_setCell _ _ _ _ (by show w.heap.size + 1 ≠ w.heap.size; omega)), HB.out.setCell (p := ⟨w.heap.size, k, none⟩) (Nat.le_refl _) _⟩, by simp [intOf]; try omega⟩
    · obtain rfl : k = 32 := by omega
      have HI : Hid (SetIn wr w.heap.size 138 (notP p)) := HP.out.congr fun n hn => by unfold mixP; rw [if_pos (by omega)]
      go_wp2_with (first
        | (refine wpList_load_row rfl 138 (.tmp 1) rfl w.heap.size rfl 138 (setC (notP p)).toArray (0, 0) _ HI.out Tryd.underlying138 rfl (by rw [set_size, setC_size]) ?_)
        | (refine wpList_store_row rfl 138 (.tmp 2) (.tmp 14) rfl (w.heap.size + 1) (setC (notP p)).toArray rfl rfl 138 (setC noP).toArray HZ.out (by rw [set_size, setC_size]) (by rw [setC_size, setC_size]) (setC_one _) ?_))
      exact bodyPost_ret (v := .agg (setC (notP p)).toArray) (res_set Tryd.results127 _ _ (w.heap.size + 1) 138 (notP p) rfl (HZ.out.row (notP p))) rfl ⟨rfl, below_setRow HB.out (Nat.le_succ _) _⟩

/-- The bytes of a kind. -/
def kindP (k : Int) : Nat → Bool := fun b => if k = 0 then decide (65 ≤ b ∧ b ≤ 90) else decide (clsN (b : Int) = k)
/-- A set that is filled byte by byte. -/
def uptoP (p : Nat → Bool) (k : Nat) : Nat → Bool := fun n => decide (n < k) && p n
theorem upto_zero (p : Nat → Bool) : ∀ n, n < 256 → noP n = uptoP p 0 n := fun n _ => by unfold noP uptoP; simp
theorem upto_in (p : Nat → Bool) (k : Nat) (h : p k = true) : ∀ n, n < 256 → addP (uptoP p k) k n = uptoP p (k + 1) n := fun n _ => by
  unfold addP uptoP
  by_cases hn : n = k
  · subst hn; simp [h]
  · have h1 : (n == k) = false := by simpa using hn
    rw [h1, Bool.false_or]
    congr 1
    rw [decide_eq_decide]
    omega
theorem upto_out (p : Nat → Bool) (k : Nat) (h : p k = false) : ∀ n, n < 256 → uptoP p k n = uptoP p (k + 1) n := fun n _ => by
  unfold uptoP
  by_cases hn : n = k
  · subst hn; simp [h]
  · congr 1
    rw [decide_eq_decide]
    omega
theorem upto_all (p : Nat → Bool) : ∀ n, n < 256 → uptoP p 256 n = p n := fun n h => by unfold uptoP; simp [h]
theorem res_set_tmp {fn : Func} {p u : Tmp} (h : fn.results = #[.cell p 138, .tmp u]) (tmps : Array Value) (w : World) (g : Nat) (t : TypeId) (q : Nat → Bool) (v : Value) (hp : tmps.getD p undef = .pointer (some ⟨g, 0, none⟩)) (hu : tmps.getD u undef = v) (hs : SetIn w g t q) :
    (results fn tmps).run Tryd.prog w = .ok (.tuple #[.agg (setC q).toArray, v]) w := by
  rw [results_cell_tmp h, hp, hu]
  have hl := run_loadVar_row (P := Tryd.prog) w g t 138 (setC q).toArray (0, 0) _ hs Tryd.underlying138 rfl (by rw [set_size, setC_size])
  simp [asAddr, Result.andThen, hl]

set_option maxRecDepth 100000 in
set_option maxHeartbeats 8000000 in
theorem classSet_115 (l : Nat) (w : World) (hl : l < 256) (hs : bits BinOp.or IntKind.u8 (l : Int) 32 = 115) :
    Calls Tryd.prog 136 #[.int .u8 l] w fun e w' => e = .returned (.tuple #[.agg (setC (if l = 115 then kindP 2 else notP (kindP 2))).toArray, .bool true]) ∧ Below w.heap.size w w' := by
  go_enter Tryd.func136, Tryd.ntmps136
  go_wp2_with fail
  have HZ1 : Hid (SetIn ((w.alloc (.cells #[.int .u8 0, .int .u8 0, .int .u8 0, .int .u8 0, .int .u8 0, .int .u8 0, .int .u8 0, .int .u8 0, .int .u8 0, .int .u8 0, .int .u8 0, .int .u8 0, .int .u8 0, .int .u8 0, .int .u8 0, .int .u8 0, .int .u8 0, .int .u8 0, .int .u8 0, .int .u8 0, .int .u8 0, .int .u8 0, .int .u8 0, .int .u8 0, .int .u8 0, .int .u8 0, .int .u8 0, .int .u8 0, .int .u8 0, .int .u8 0, .int .u8 0, .int .u8 0] 138)).alloc (.cells #[.int .u8 0, .int .u8 0, .int .u8 0, .int .u8 0, .int .u8 0, .int .u8 0, .int .u8 0, .int .u8 0, .int .u8 0, .int .u8 0, .int .u8 0, .int .u8 0, .int .u8 0, .int .u8 0, .int .u8 0, .int .u8 0, .int .u8 0, .int .u8 0, .int .u8 0, .int .u8 0, .int .u8 0, .int .u8 0, .int .u8 0, .int .u8 0, .int .u8 0, .int .u8 0, .int .u8 0, .int .u8 0, .int .u8 0, .int .u8 0, .int .u8 0, .int .u8 0] 138)) w.heap.size 138 noP) := (zero_in w 138).keep (Below.heap_alloc _ _ _ (by simp))
  have HZ2 : Hid (SetIn ((w.alloc (.cells #[.int .u8 0, .int .u8 0, .int .u8 0, .int .u8 0, .int .u8 0, .int .u8 0, .int .u8 0, .int .u8 0, .int .u8 0, .int .u8 0, .int .u8 0, .int .u8 0, .int .u8 0, .int .u8 0, .int .u8 0, .int .u8 0, .int .u8 0, .int .u8 0, .int .u8 0, .int .u8 0, .int .u8 0, .int .u8 0, .int .u8 0, .int .u8 0, .int .u8 0, .int .u8 0, .int .u8 0, .int .u8 0, .int .u8 0, .int .u8 0, .int .u8 0, .int .u8 0] 138)).alloc (.cells #[.int .u8 0, .int .u8 0, .int .u8 0, .int .u8 0, .int .u8 0, .int .u8 0, .int .u8 0, .int .u8 0, .int .u8 0, .int .u8 0, .int .u8 0, .int .u8 0, .int .u8 0, .int .u8 0, .int .u8 0, .int .u8 0, .int .u8 0, .int .u8 0, .int .u8 0, .int .u8 0, .int .u8 0, .int .u8 0, .int .u8 0, .int .u8 0, .int .u8 0, .int .u8 0, .int .u8 0, .int .u8 0, .int .u8 0, .int .u8 0, .int .u8 0, .int .u8 0] 138)) (w.heap.size + 1) 138 (uptoP (kindP 2) 0)) := by
    have h := zero_in (w.alloc (.cells #[.int .u8 0, .int .u8 0, .int .u8 0, .int .u8 0, .int .u8 0, .int .u8 0, .int .u8 0, .int .u8 0, .int .u8 0, .int .u8 0, .int .u8 0, .int .u8 0, .int .u8 0, .int .u8 0, .int .u8 0, .int .u8 0, .int .u8 0, .int .u8 0, .int .u8 0, .int .u8 0, .int .u8 0, .int .u8 0, .int .u8 0, .int .u8 0, .int .u8 0, .int .u8 0, .int .u8 0, .int .u8 0, .int .u8 0, .int .u8 0, .int .u8 0, .int .u8 0] 138)) 138
    rw [show (w.alloc (.cells #[.int .u8 0, .int .u8 0, .int .u8 0, .int .u8 0, .int .u8 0, .int .u8 0, .int .u8 0, .int .u8 0, .int .u8 0, .int .u8 0, .int .u8 0, .int .u8 0, .int .u8 0, .int .u8 0, .int .u8 0, .int .u8 0, .int .u8 0, .int .u8 0, .int .u8 0, .int .u8 0, .int .u8 0, .int .u8 0, .int .u8 0, .int .u8 0, .int .u8 0, .int .u8 0, .int .u8 0, .int .u8 0, .int .u8 0, .int .u8 0, .int .u8 0, .int .u8 0] 138)).heap.size = w.heap.size + 1 by simp] at h
    exact h.congr (upto_zero _)
  have HB0 := Lib.hid (((Below.refl w.heap.size w).alloc (Nat.le_refl _) (.cells #[.int .u8 0, .int .u8 0, .int .u8 0, .int .u8 0, .int .u8 0, .int .u8 0, .int .u8 0, .int .u8 0, .int .u8 0, .int .u8 0, .int .u8 0, .int .u8 0, .int .u8 0, .int .u8 0, .int .u8 0, .int .u8 0, .int .u8 0, .int .u8 0, .int .u8 0, .int .u8 0, .int .u8 0, .int .u8 0, .int .u8 0, .int .u8 0, .int .u8 0, .int .u8 0, .int .u8 0, .int .u8 0, .int .u8 0, .int .u8 0, .int .u8 0, .int .u8 0] 138)).alloc (by simp) (.cells #[.int .u8 0, .int .u8 0, .int .u8 0, .int .u8 0, .int .u8 0, .int .u8 0, .int .u8 0, .int .u8 0, .int .u8 0, .int .u8 0, .int .u8 0, .int .u8 0, .int .u8 0, .int .u8 0, .int .u8 0, .int .u8 0, .int .u8 0, .int .u8 0, .int .u8 0, .int .u8 0, .int .u8 0, .int .u8 0, .int .u8 0, .int .u8 0, .int .u8 0, .int .u8 0, .int .u8 0, .int .u8 0, .int .u8 0, .int .u8 0, .int .u8 0, .int .u8 0] 138))
  generalize (w.alloc (.cells #[.int .u8 0, .int .u8 0, .int .u8 0, .int .u8 0, .int .u8 0, .int .u8 0, .int .u8 0, .int .u8 0, .int .u8 0, .int .u8 0, .int .u8 0, .int .u8 0, .int .u8 0, .int .u8 0, .int .u8 0, .int .u8 0, .int .u8 0, .int .u8 0, .int .u8 0, .int .u8 0, .int .u8 0, .int .u8 0, .int .u8 0, .int .u8 0, .int .u8 0, .int .u8 0, .int .u8 0, .int .u8 0, .int .u8 0, .int .u8 0, .int .u8 0, .int .u8 0] 138)).alloc (.cells #[.int .u8 0, .int .u8 0, .int .u8 0, .int .u8 0, .int .u8 0, .int .u8 0, .int .u8 0, .int .u8 0, .int .u8 0, .int .u8 0, .int .u8 0, .int .u8 0, .int .u8 0, .int .u8 0, .int .u8 0, .int .u8 0, .int .u8 0, .int .u8 0, .int .u8 0, .int .u8 0, .int .u8 0, .int .u8 0, .int .u8 0, .int .u8 0, .int .u8 0, .int .u8 0, .int .u8 0, .int .u8 0, .int .u8 0, .int .u8 0, .int .u8 0, .int .u8 0] 138) = w1 at HZ1 HZ2 HB0
  go_loopw [25] (fun kv wr => ∃ k : Nat, k ≤ 256 ∧ kv = .int .i64 k ∧ Hid (SetIn wr w.heap.size 138 noP) ∧ Hid (SetIn wr (w.heap.size + 1) 138 (uptoP (kindP 2) k)) ∧ Hid (Below w.heap.size w wr)) (fun kv _ => 256 - (intOf kv).toNat)
  case atStart => exact ⟨0, by omega, rfl, HZ1.out, HZ2.out, HB0.out⟩
  case round =>
    clear HZ1 HZ2 HB0
    obtain ⟨k, hk, rfl, HZ, HP, HB⟩ := hrel
    by_cases hkl : k < 256
    · have ec : IntKind.u8.wrap (k : Int) = (k : Int) := by rw [IntKind.wrap_u8]; omega
      by_cases hp : (kindP 2) k = true
      · have hcl : (clsN (k : Int) == 2) = true := by have h := hp; unfold kindP at h; rw [if_neg (by decide)] at h; simpa using h
        go_wp2_with fail
        refine (of_any (k : Int) _ (by omega) (by omega)).mono ?_
        rintro e w' ⟨rfl, rfl⟩
        go_wp2_with fail
        refine (add_any _ _ k _ _ (by exact HP.out) hkl).mono ?_
        rintro e w2 ⟨rfl, hs2, ho2⟩
        have HP2 := Lib.hid (hs2.congr (upto_in _ k hp))
        have HZ2 := Lib.hid (HZ.out.keep (ho2.block _ HZ.out.lt (by omega)))
        have HB2 := Lib.hid (HB.out.trans (ho2.below (B := w.heap.size) (Nat.le_succ _) HB.out.size))
        clear hs2 ho2
        go_wp2_with fail
        exact ⟨⟨k + 1, by omega, by go_num, HZ2.out, HP2.out, HB2.out⟩, by simp [intOf]; try omega⟩

      · have hp' : (kindP 2) k = false := by simpa using hp
        have hcl : (clsN (k : Int) == 2) = false := by have h := hp'; unfold kindP at h; rw [if_neg (by decide)] at h; simpa using h
        have HP2 := Lib.hid (HP.out.congr (upto_out _ k hp'))
        go_wp2_with fail
        refine (of_any (k : Int) _ (by omega) (by omega)).mono ?_
        rintro e w' ⟨rfl, rfl⟩
        go_wp2_with fail
        exact ⟨⟨k + 1, by omega, by go_num, HZ.out, HP2.out, HB.out⟩, by simp [intOf]; try omega⟩
    · obtain rfl : k = 256 := by omega
      have HP2 := Lib.hid (HP.out.congr (upto_all _))
      by_cases hls : l = 115
      · subst hls
        go_wp2_with (first
          | (refine wpList_load_row rfl 138 (.tmp 6) rfl (w.heap.size + 1) rfl 138 (setC (kindP 2)).toArray (0, 0) _ HP2.out Tryd.underlying138 rfl (by rw [set_size, setC_size]) ?_)
          | (refine wpList_store_row rfl 138 (.tmp 2) (.tmp 58) rfl (w.heap.size) (setC (kindP 2)).toArray rfl rfl 138 (setC noP).toArray HZ.out (by rw [set_size, setC_size]) (by rw [setC_size, setC_size]) (setC_one _) ?_))
        exact bodyPost_ret (v := .tuple #[.agg (setC (kindP 2)).toArray, .bool true]) (res_set_tmp Tryd.results136 _ _ w.heap.size 138 (kindP 2) _ rfl rfl (HZ.out.row (kindP 2))) rfl ⟨rfl, below_setRow HB.out (Nat.le_refl _) _⟩
      · have hne : ((l : Int) != 115) = true := bne_iff_ne.2 (by omega)
        go_wp2_with (refine wpList_load_row rfl 138 (.tmp 6) rfl (w.heap.size + 1) rfl 138 (setC (kindP 2)).toArray (0, 0) _ HP2.out Tryd.underlying138 rfl (by rw [set_size, setC_size]) ?_)
        refine (inverted_any (kindP 2) _).mono ?_
        rintro e w2 ⟨rfl, hb2⟩
        have HP3 := Lib.hid (HP2.out.keep (hb2.block _ HP2.out.lt))
        have HZ3 := Lib.hid (HZ.out.keep (hb2.block _ HZ.out.lt))
        have HB3 := Lib.hid (HB.out.trans (hb2.mono HB.out.size))
        clear hb2
        go_upto_region 26 with (refine wpList_store_row rfl 138 (.tmp 6) (.tmp 57) rfl (w.heap.size + 1) (setC (notP (kindP 2))).toArray rfl rfl 138 (setC (kindP 2)).toArray HP3.out (by rw [set_size, setC_size]) (by rw [setC_size, setC_size]) (setC_one _) ?_)
        have HP4 := Lib.hid (HP3.out.row (notP (kindP 2)))
        have HZ4 := Lib.hid (HZ3.out.keep (w' := w2.setRow (w.heap.size + 1) (setC (notP (kindP 2))).toArray) (setRow_other _ _ _ _ (by omega)))
        have HB4 := Lib.hid (below_setRow HB3.out (Nat.le_succ w.heap.size) (setC (notP (kindP 2))).toArray)
        generalize w2.setRow (w.heap.size + 1) (setC (notP (kindP 2))).toArray = w4 at HP4 HZ4 HB4
        go_wp2_with (first
          | (refine wpList_load_row rfl 138 (.tmp 6) rfl (w.heap.size + 1) rfl 138 (setC (notP (kindP 2))).toArray (0, 0) _ HP4.out Tryd.underlying138 rfl (by rw [set_size, setC_size]) ?_)
          | (refine wpList_store_row rfl 138 (.tmp 2) (.tmp 58) rfl (w.heap.size) (setC (notP (kindP 2))).toArray rfl rfl 138 (setC noP).toArray HZ4.out (by rw [set_size, setC_size]) (by rw [setC_size, setC_size]) (setC_one _) ?_))
        exact bodyPost_ret (v := .tuple #[.agg (setC (notP (kindP 2))).toArray, .bool true]) (res_set_tmp Tryd.results136 _ _ w.heap.size 138 (notP (kindP 2)) _ rfl rfl (HZ4.out.row (notP (kindP 2)))) rfl ⟨by first | rfl | rw [if_neg hls], below_setRow HB4.out (Nat.le_refl _) _⟩

set_option maxRecDepth 100000 in
set_option maxHeartbeats 8000000 in
theorem classSet_100 (l : Nat) (w : World) (hl : l < 256) (hs : bits BinOp.or IntKind.u8 (l : Int) 32 = 100) :
    Calls Tryd.prog 136 #[.int .u8 l] w fun e w' => e = .returned (.tuple #[.agg (setC (if l = 100 then kindP 3 else notP (kindP 3))).toArray, .bool true]) ∧ Below w.heap.size w w' := by
  go_enter Tryd.func136, Tryd.ntmps136
  go_wp2_with fail
  have HZ1 : Hid (SetIn ((w.alloc (.cells #[.int .u8 0, .int .u8 0, .int .u8 0, .int .u8 0, .int .u8 0, .int .u8 0, .int .u8 0, .int .u8 0, .int .u8 0, .int .u8 0, .int .u8 0, .int .u8 0, .int .u8 0, .int .u8 0, .int .u8 0, .int .u8 0, .int .u8 0, .int .u8 0, .int .u8 0, .int .u8 0, .int .u8 0, .int .u8 0, .int .u8 0, .int .u8 0, .int .u8 0, .int .u8 0, .int .u8 0, .int .u8 0, .int .u8 0, .int .u8 0, .int .u8 0, .int .u8 0] 138)).alloc (.cells #[.int .u8 0, .int .u8 0, .int .u8 0, .int .u8 0, .int .u8 0, .int .u8 0, .int .u8 0, .int .u8 0, .int .u8 0, .int .u8 0, .int .u8 0, .int .u8 0, .int .u8 0, .int .u8 0, .int .u8 0, .int .u8 0, .int .u8 0, .int .u8 0, .int .u8 0, .int .u8 0, .int .u8 0, .int .u8 0, .int .u8 0, .int .u8 0, .int .u8 0, .int .u8 0, .int .u8 0, .int .u8 0, .int .u8 0, .int .u8 0, .int .u8 0, .int .u8 0] 138)) w.heap.size 138 noP) := (zero_in w 138).keep (Below.heap_alloc _ _ _ (by simp))
  have HZ2 : Hid (SetIn ((w.alloc (.cells #[.int .u8 0, .int .u8 0, .int .u8 0, .int .u8 0, .int .u8 0, .int .u8 0, .int .u8 0, .int .u8 0, .int .u8 0, .int .u8 0, .int .u8 0, .int .u8 0, .int .u8 0, .int .u8 0, .int .u8 0, .int .u8 0, .int .u8 0, .int .u8 0, .int .u8 0, .int .u8 0, .int .u8 0, .int .u8 0, .int .u8 0, .int .u8 0, .int .u8 0, .int .u8 0, .int .u8 0, .int .u8 0, .int .u8 0, .int .u8 0, .int .u8 0, .int .u8 0] 138)).alloc (.cells #[.int .u8 0, .int .u8 0, .int .u8 0, .int .u8 0, .int .u8 0, .int .u8 0, .int .u8 0, .int .u8 0, .int .u8 0, .int .u8 0, .int .u8 0, .int .u8 0, .int .u8 0, .int .u8 0, .int .u8 0, .int .u8 0, .int .u8 0, .int .u8 0, .int .u8 0, .int .u8 0, .int .u8 0, .int .u8 0, .int .u8 0, .int .u8 0, .int .u8 0, .int .u8 0, .int .u8 0, .int .u8 0, .int .u8 0, .int .u8 0, .int .u8 0, .int .u8 0] 138)) (w.heap.size + 1) 138 (uptoP (kindP 3) 0)) := by
    have h := zero_in (w.alloc (.cells #[.int .u8 0, .int .u8 0, .int .u8 0, .int .u8 0, .int .u8 0, .int .u8 0, .int .u8 0, .int .u8 0, .int .u8 0, .int .u8 0, .int .u8 0, .int .u8 0, .int .u8 0, .int .u8 0, .int .u8 0, .int .u8 0, .int .u8 0, .int .u8 0, .int .u8 0, .int .u8 0, .int .u8 0, .int .u8 0, .int .u8 0, .int .u8 0, .int .u8 0, .int .u8 0, .int .u8 0, .int .u8 0, .int .u8 0, .int .u8 0, .int .u8 0, .int .u8 0] 138)) 138
    rw [show (w.alloc (.cells #[.int .u8 0, .int .u8 0, .int .u8 0, .int .u8 0, .int .u8 0, .int .u8 0, .int .u8 0, .int .u8 0, .int .u8 0, .int .u8 0, .int .u8 0, .int .u8 0, .int .u8 0, .int .u8 0, .int .u8 0, .int .u8 0, .int .u8 0, .int .u8 0, .int .u8 0, .int .u8 0, .int .u8 0, .int .u8 0, .int .u8 0, .int .u8 0, .int .u8 0, .int .u8 0, .int .u8 0, .int .u8 0, .int .u8 0, .int .u8 0, .int .u8 0, .int .u8 0] 138)).heap.size = w.heap.size + 1 by simp] at h
    exact h.congr (upto_zero _)
  have HB0 := Lib.hid (((Below.refl w.heap.size w).alloc (Nat.le_refl _) (.cells #[.int .u8 0, .int .u8 0, .int .u8 0, .int .u8 0, .int .u8 0, .int .u8 0, .int .u8 0, .int .u8 0, .int .u8 0, .int .u8 0, .int .u8 0, .int .u8 0, .int .u8 0, .int .u8 0, .int .u8 0, .int .u8 0, .int .u8 0, .int .u8 0, .int .u8 0, .int .u8 0, .int .u8 0, .int .u8 0, .int .u8 0, .int .u8 0, .int .u8 0, .int .u8 0, .int .u8 0, .int .u8 0, .int .u8 0, .int .u8 0, .int .u8 0, .int .u8 0] 138)).alloc (by simp) (.cells #[.int .u8 0, .int .u8 0, .int .u8 0, .int .u8 0, .int .u8 0, .int .u8 0, .int .u8 0, .int .u8 0, .int .u8 0, .int .u8 0, .int .u8 0, .int .u8 0, .int .u8 0, .int .u8 0, .int .u8 0, .int .u8 0, .int .u8 0, .int .u8 0, .int .u8 0, .int .u8 0, .int .u8 0, .int .u8 0, .int .u8 0, .int .u8 0, .int .u8 0, .int .u8 0, .int .u8 0, .int .u8 0, .int .u8 0, .int .u8 0, .int .u8 0, .int .u8 0] 138))
  generalize (w.alloc (.cells #[.int .u8 0, .int .u8 0, .int .u8 0, .int .u8 0, .int .u8 0, .int .u8 0, .int .u8 0, .int .u8 0, .int .u8 0, .int .u8 0, .int .u8 0, .int .u8 0, .int .u8 0, .int .u8 0, .int .u8 0, .int .u8 0, .int .u8 0, .int .u8 0, .int .u8 0, .int .u8 0, .int .u8 0, .int .u8 0, .int .u8 0, .int .u8 0, .int .u8 0, .int .u8 0, .int .u8 0, .int .u8 0, .int .u8 0, .int .u8 0, .int .u8 0, .int .u8 0] 138)).alloc (.cells #[.int .u8 0, .int .u8 0, .int .u8 0, .int .u8 0, .int .u8 0, .int .u8 0, .int .u8 0, .int .u8 0, .int .u8 0, .int .u8 0, .int .u8 0, .int .u8 0, .int .u8 0, .int .u8 0, .int .u8 0, .int .u8 0, .int .u8 0, .int .u8 0, .int .u8 0, .int .u8 0, .int .u8 0, .int .u8 0, .int .u8 0, .int .u8 0, .int .u8 0, .int .u8 0, .int .u8 0, .int .u8 0, .int .u8 0, .int .u8 0, .int .u8 0, .int .u8 0] 138) = w1 at HZ1 HZ2 HB0
  go_loopw [25] (fun kv wr => ∃ k : Nat, k ≤ 256 ∧ kv = .int .i64 k ∧ Hid (SetIn wr w.heap.size 138 noP) ∧ Hid (SetIn wr (w.heap.size + 1) 138 (uptoP (kindP 3) k)) ∧ Hid (Below w.heap.size w wr)) (fun kv _ => 256 - (intOf kv).toNat)
  case atStart => exact ⟨0, by omega, rfl, HZ1.out, HZ2.out, HB0.out⟩
  case round =>
    clear HZ1 HZ2 HB0
    obtain ⟨k, hk, rfl, HZ, HP, HB⟩ := hrel
    by_cases hkl : k < 256
    · have ec : IntKind.u8.wrap (k : Int) = (k : Int) := by rw [IntKind.wrap_u8]; omega
      by_cases hp : (kindP 3) k = true
      · have hcl : (clsN (k : Int) == 3) = true := by have h := hp; unfold kindP at h; rw [if_neg (by decide)] at h; simpa using h
        go_wp2_with fail
        refine (of_any (k : Int) _ (by omega) (by omega)).mono ?_
        rintro e w' ⟨rfl, rfl⟩
        go_wp2_with fail
        refine (add_any _ _ k _ _ (by exact HP.out) hkl).mono ?_
        rintro e w2 ⟨rfl, hs2, ho2⟩
        have HP2 := Lib.hid (hs2.congr (upto_in _ k hp))
        have HZ2 := Lib.hid (HZ.out.keep (ho2.block _ HZ.out.lt (by omega)))
        have HB2 := Lib.hid (HB.out.trans (ho2.below (B := w.heap.size) (Nat.le_succ _) HB.out.size))
        clear hs2 ho2
        go_wp2_with fail
        exact ⟨⟨k + 1, by omega, by go_num, HZ2.out, HP2.out, HB2.out⟩, by simp [intOf]; try omega⟩

      · have hp' : (kindP 3) k = false := by simpa using hp
        have hcl : (clsN (k : Int) == 3) = false := by have h := hp'; unfold kindP at h; rw [if_neg (by decide)] at h; simpa using h
        have HP2 := Lib.hid (HP.out.congr (upto_out _ k hp'))
        go_wp2_with fail
        refine (of_any (k : Int) _ (by omega) (by omega)).mono ?_
        rintro e w' ⟨rfl, rfl⟩
        go_wp2_with fail
        exact ⟨⟨k + 1, by omega, by go_num, HZ.out, HP2.out, HB.out⟩, by simp [intOf]; try omega⟩
    · obtain rfl : k = 256 := by omega
      have HP2 := Lib.hid (HP.out.congr (upto_all _))
      by_cases hls : l = 100
      · subst hls
        go_wp2_with (first
          | (refine wpList_load_row rfl 138 (.tmp 6) rfl (w.heap.size + 1) rfl 138 (setC (kindP 3)).toArray (0, 0) _ HP2.out Tryd.underlying138 rfl (by rw [set_size, setC_size]) ?_)
          | (refine wpList_store_row rfl 138 (.tmp 2) (.tmp 58) rfl (w.heap.size) (setC (kindP 3)).toArray rfl rfl 138 (setC noP).toArray HZ.out (by rw [set_size, setC_size]) (by rw [setC_size, setC_size]) (setC_one _) ?_))
        exact bodyPost_ret (v := .tuple #[.agg (setC (kindP 3)).toArray, .bool true]) (res_set_tmp Tryd.results136 _ _ w.heap.size 138 (kindP 3) _ rfl rfl (HZ.out.row (kindP 3))) rfl ⟨rfl, below_setRow HB.out (Nat.le_refl _) _⟩
      · have hne : ((l : Int) != 100) = true := bne_iff_ne.2 (by omega)
        go_wp2_with (refine wpList_load_row rfl 138 (.tmp 6) rfl (w.heap.size + 1) rfl 138 (setC (kindP 3)).toArray (0, 0) _ HP2.out Tryd.underlying138 rfl (by rw [set_size, setC_size]) ?_)
        refine (inverted_any (kindP 3) _).mono ?_
        rintro e w2 ⟨rfl, hb2⟩
        have HP3 := Lib.hid (HP2.out.keep (hb2.block _ HP2.out.lt))
        have HZ3 := Lib.hid (HZ.out.keep (hb2.block _ HZ.out.lt))
        have HB3 := Lib.hid (HB.out.trans (hb2.mono HB.out.size))
        clear hb2
        go_upto_region 26 with (refine wpList_store_row rfl 138 (.tmp 6) (.tmp 57) rfl (w.heap.size + 1) (setC (notP (kindP 3))).toArray rfl rfl 138 (setC (kindP 3)).toArray HP3.out (by rw [set_size, setC_size]) (by rw [setC_size, setC_size]) (setC_one _) ?_)
        have HP4 := Lib.hid (HP3.out.row (notP (kindP 3)))
        have HZ4 := Lib.hid (HZ3.out.keep (w' := w2.setRow (w.heap.size + 1) (setC (notP (kindP 3))).toArray) (setRow_other _ _ _ _ (by omega)))
        have HB4 := Lib.hid (below_setRow HB3.out (Nat.le_succ w.heap.size) (setC (notP (kindP 3))).toArray)
        generalize w2.setRow (w.heap.size + 1) (setC (notP (kindP 3))).toArray = w4 at HP4 HZ4 HB4
        go_wp2_with (first
          | (refine wpList_load_row rfl 138 (.tmp 6) rfl (w.heap.size + 1) rfl 138 (setC (notP (kindP 3))).toArray (0, 0) _ HP4.out Tryd.underlying138 rfl (by rw [set_size, setC_size]) ?_)
          | (refine wpList_store_row rfl 138 (.tmp 2) (.tmp 58) rfl (w.heap.size) (setC (notP (kindP 3))).toArray rfl rfl 138 (setC noP).toArray HZ4.out (by rw [set_size, setC_size]) (by rw [setC_size, setC_size]) (setC_one _) ?_))
        exact bodyPost_ret (v := .tuple #[.agg (setC (notP (kindP 3))).toArray, .bool true]) (res_set_tmp Tryd.results136 _ _ w.heap.size 138 (notP (kindP 3)) _ rfl rfl (HZ4.out.row (notP (kindP 3)))) rfl ⟨by first | rfl | rw [if_neg hls], below_setRow HB4.out (Nat.le_refl _) _⟩

set_option maxRecDepth 100000 in
set_option maxHeartbeats 8000000 in
theorem classSet_108 (l : Nat) (w : World) (hl : l < 256) (hs : bits BinOp.or IntKind.u8 (l : Int) 32 = 108) :
    Calls Tryd.prog 136 #[.int .u8 l] w fun e w' => e = .returned (.tuple #[.agg (setC (if l = 108 then kindP 4 else notP (kindP 4))).toArray, .bool true]) ∧ Below w.heap.size w w' := by
  go_enter Tryd.func136, Tryd.ntmps136
  go_wp2_with fail
  have HZ1 : Hid (SetIn ((w.alloc (.cells #[.int .u8 0, .int .u8 0, .int .u8 0, .int .u8 0, .int .u8 0, .int .u8 0, .int .u8 0, .int .u8 0, .int .u8 0, .int .u8 0, .int .u8 0, .int .u8 0, .int .u8 0, .int .u8 0, .int .u8 0, .int .u8 0, .int .u8 0, .int .u8 0, .int .u8 0, .int .u8 0, .int .u8 0, .int .u8 0, .int .u8 0, .int .u8 0, .int .u8 0, .int .u8 0, .int .u8 0, .int .u8 0, .int .u8 0, .int .u8 0, .int .u8 0, .int .u8 0] 138)).alloc (.cells #[.int .u8 0, .int .u8 0, .int .u8 0, .int .u8 0, .int .u8 0, .int .u8 0, .int .u8 0, .int .u8 0, .int .u8 0, .int .u8 0, .int .u8 0, .int .u8 0, .int .u8 0, .int .u8 0, .int .u8 0, .int .u8 0, .int .u8 0, .int .u8 0, .int .u8 0, .int .u8 0, .int .u8 0, .int .u8 0, .int .u8 0, .int .u8 0, .int .u8 0, .int .u8 0, .int .u8 0, .int .u8 0, .int .u8 0, .int .u8 0, .int .u8 0, .int .u8 0] 138)) w.heap.size 138 noP) := (zero_in w 138).keep (Below.heap_alloc _ _ _ (by simp))
  have HZ2 : Hid (SetIn ((w.alloc (.cells #[.int .u8 0, .int .u8 0, .int .u8 0, .int .u8 0, .int .u8 0, .int .u8 0, .int .u8 0, .int .u8 0, .int .u8 0, .int .u8 0, .int .u8 0, .int .u8 0, .int .u8 0, .int .u8 0, .int .u8 0, .int .u8 0, .int .u8 0, .int .u8 0, .int .u8 0, .int .u8 0, .int .u8 0, .int .u8 0, .int .u8 0, .int .u8 0, .int .u8 0, .int .u8 0, .int .u8 0, .int .u8 0, .int .u8 0, .int .u8 0, .int .u8 0, .int .u8 0] 138)).alloc (.cells #[.int .u8 0, .int .u8 0, .int .u8 0, .int .u8 0, .int .u8 0, .int .u8 0, .int .u8 0, .int .u8 0, .int .u8 0, .int .u8 0, .int .u8 0, .int .u8 0, .int .u8 0, .int .u8 0, .int .u8 0, .int .u8 0, .int .u8 0, .int .u8 0, .int .u8 0, .int .u8 0, .int .u8 0, .int .u8 0, .int .u8 0, .int .u8 0, .int .u8 0, .int .u8 0, .int .u8 0, .int .u8 0, .int .u8 0, .int .u8 0, .int .u8 0, .int .u8 0] 138)) (w.heap.size + 1) 138 (uptoP (kindP 4) 0)) := by
    have h := zero_in (w.alloc (.cells #[.int .u8 0, .int .u8 0, .int .u8 0, .int .u8 0, .int .u8 0, .int .u8 0, .int .u8 0, .int .u8 0, .int .u8 0, .int .u8 0, .int .u8 0, .int .u8 0, .int .u8 0, .int .u8 0, .int .u8 0, .int .u8 0, .int .u8 0, .int .u8 0, .int .u8 0, .int .u8 0, .int .u8 0, .int .u8 0, .int .u8 0, .int .u8 0, .int .u8 0, .int .u8 0, .int .u8 0, .int .u8 0, .int .u8 0, .int .u8 0, .int .u8 0, .int .u8 0] 138)) 138
    rw [show (w.alloc (.cells #[.int .u8 0, .int .u8 0, .int .u8 0, .int .u8 0, .int .u8 0, .int .u8 0, .int .u8 0, .int .u8 0, .int .u8 0, .int .u8 0, .int .u8 0, .int .u8 0, .int .u8 0, .int .u8 0, .int .u8 0, .int .u8 0, .int .u8 0, .int .u8 0, .int .u8 0, .int .u8 0, .int .u8 0, .int .u8 0, .int .u8 0, .int .u8 0, .int .u8 0, .int .u8 0, .int .u8 0, .int .u8 0, .int .u8 0, .int .u8 0, .int .u8 0, .int .u8 0] 138)).heap.size = w.heap.size + 1 by simp] at h
    exact h.congr (upto_zero _)
  have HB0 := Lib.hid (((Below.refl w.heap.size w).alloc (Nat.le_refl _) (.cells #[.int .u8 0, .int .u8 0, .int .u8 0, .int .u8 0, .int .u8 0, .int .u8 0, .int .u8 0, .int .u8 0, .int .u8 0, .int .u8 0, .int .u8 0, .int .u8 0, .int .u8 0, .int .u8 0, .int .u8 0, .int .u8 0, .int .u8 0, .int .u8 0, .int .u8 0, .int .u8 0, .int .u8 0, .int .u8 0, .int .u8 0, .int .u8 0, .int .u8 0, .int .u8 0, .int .u8 0, .int .u8 0, .int .u8 0, .int .u8 0, .int .u8 0, .int .u8 0] 138)).alloc (by simp) (.cells #[.int .u8 0, .int .u8 0, .int .u8 0, .int .u8 0, .int .u8 0, .int .u8 0, .int .u8 0, .int .u8 0, .int .u8 0, .int .u8 0, .int .u8 0, .int .u8 0, .int .u8 0, .int .u8 0, .int .u8 0, .int .u8 0, .int .u8 0, .int .u8 0, .int .u8 0, .int .u8 0, .int .u8 0, .int .u8 0, .int .u8 0, .int .u8 0, .int .u8 0, .int .u8 0, .int .u8 0, .int .u8 0, .int .u8 0, .int .u8 0, .int .u8 0, .int .u8 0] 138))
  generalize (w.alloc (.cells #[.int .u8 0, .int .u8 0, .int .u8 0, .int .u8 0, .int .u8 0, .int .u8 0, .int .u8 0, .int .u8 0, .int .u8 0, .int .u8 0, .int .u8 0, .int .u8 0, .int .u8 0, .int .u8 0, .int .u8 0, .int .u8 0, .int .u8 0, .int .u8 0, .int .u8 0, .int .u8 0, .int .u8 0, .int .u8 0, .int .u8 0, .int .u8 0, .int .u8 0, .int .u8 0, .int .u8 0, .int .u8 0, .int .u8 0, .int .u8 0, .int .u8 0, .int .u8 0] 138)).alloc (.cells #[.int .u8 0, .int .u8 0, .int .u8 0, .int .u8 0, .int .u8 0, .int .u8 0, .int .u8 0, .int .u8 0, .int .u8 0, .int .u8 0, .int .u8 0, .int .u8 0, .int .u8 0, .int .u8 0, .int .u8 0, .int .u8 0, .int .u8 0, .int .u8 0, .int .u8 0, .int .u8 0, .int .u8 0, .int .u8 0, .int .u8 0, .int .u8 0, .int .u8 0, .int .u8 0, .int .u8 0, .int .u8 0, .int .u8 0, .int .u8 0, .int .u8 0, .int .u8 0] 138) = w1 at HZ1 HZ2 HB0
  go_loopw [25] (fun kv wr => ∃ k : Nat, k ≤ 256 ∧ kv = .int .i64 k ∧ Hid (SetIn wr w.heap.size 138 noP) ∧ Hid (SetIn wr (w.heap.size + 1) 138 (uptoP (kindP 4) k)) ∧ Hid (Below w.heap.size w wr)) (fun kv _ => 256 - (intOf kv).toNat)
  case atStart => exact ⟨0, by omega, rfl, HZ1.out, HZ2.out, HB0.out⟩
  case round =>
    clear HZ1 HZ2 HB0
    obtain ⟨k, hk, rfl, HZ, HP, HB⟩ := hrel
    by_cases hkl : k < 256
    · have ec : IntKind.u8.wrap (k : Int) = (k : Int) := by rw [IntKind.wrap_u8]; omega
      by_cases hp : (kindP 4) k = true
      · have hcl : (clsN (k : Int) == 4) = true := by have h := hp; unfold kindP at h; rw [if_neg (by decide)] at h; simpa using h
        go_wp2_with fail
        refine (of_any (k : Int) _ (by omega) (by omega)).mono ?_
        rintro e w' ⟨rfl, rfl⟩
        go_wp2_with fail
        refine (add_any _ _ k _ _ (by exact HP.out) hkl).mono ?_
        rintro e w2 ⟨rfl, hs2, ho2⟩
        have HP2 := Lib.hid (hs2.congr (upto_in _ k hp))
        have HZ2 := Lib.hid (HZ.out.keep (ho2.block _ HZ.out.lt (by omega)))
        have HB2 := Lib.hid (HB.out.trans (ho2.below (B := w.heap.size) (Nat.le_succ _) HB.out.size))
        clear hs2 ho2
        go_wp2_with fail
        exact ⟨⟨k + 1, by omega, by go_num, HZ2.out, HP2.out, HB2.out⟩, by simp [intOf]; try omega⟩

      · have hp' : (kindP 4) k = false := by simpa using hp
        have hcl : (clsN (k : Int) == 4) = false := by have h := hp'; unfold kindP at h; rw [if_neg (by decide)] at h; simpa using h
        have HP2 := Lib.hid (HP.out.congr (upto_out _ k hp'))
        go_wp2_with fail
        refine (of_any (k : Int) _ (by omega) (by omega)).mono ?_
        rintro e w' ⟨rfl, rfl⟩
        go_wp2_with fail
        exact ⟨⟨k + 1, by omega, by go_num, HZ.out, HP2.out, HB.out⟩, by simp [intOf]; try omega⟩
    · obtain rfl : k = 256 := by omega
      have HP2 := Lib.hid (HP.out.congr (upto_all _))
      by_cases hls : l = 108
      · subst hls
        go_wp2_with (first
          | (refine wpList_load_row rfl 138 (.tmp 6) rfl (w.heap.size + 1) rfl 138 (setC (kindP 4)).toArray (0, 0) _ HP2.out Tryd.underlying138 rfl (by rw [set_size, setC_size]) ?_)
          | (refine wpList_store_row rfl 138 (.tmp 2) (.tmp 58) rfl (w.heap.size) (setC (kindP 4)).toArray rfl rfl 138 (setC noP).toArray HZ.out (by rw [set_size, setC_size]) (by rw [setC_size, setC_size]) (setC_one _) ?_))
        exact bodyPost_ret (v := .tuple #[.agg (setC (kindP 4)).toArray, .bool true]) (res_set_tmp Tryd.results136 _ _ w.heap.size 138 (kindP 4) _ rfl rfl (HZ.out.row (kindP 4))) rfl ⟨rfl, below_setRow HB.out (Nat.le_refl _) _⟩
      · have hne : ((l : Int) != 108) = true := bne_iff_ne.2 (by omega)
        go_wp2_with (refine wpList_load_row rfl 138 (.tmp 6) rfl (w.heap.size + 1) rfl 138 (setC (kindP 4)).toArray (0, 0) _ HP2.out Tryd.underlying138 rfl (by rw [set_size, setC_size]) ?_)
        refine (inverted_any (kindP 4) _).mono ?_
        rintro e w2 ⟨rfl, hb2⟩
        have HP3 := Lib.hid (HP2.out.keep (hb2.block _ HP2.out.lt))
        have HZ3 := Lib.hid (HZ.out.keep (hb2.block _ HZ.out.lt))
        have HB3 := Lib.hid (HB.out.trans (hb2.mono HB.out.size))
        clear hb2
        go_upto_region 26 with (refine wpList_store_row rfl 138 (.tmp 6) (.tmp 57) rfl (w.heap.size + 1) (setC (notP (kindP 4))).toArray rfl rfl 138 (setC (kindP 4)).toArray HP3.out (by rw [set_size, setC_size]) (by rw [setC_size, setC_size]) (setC_one _) ?_)
        have HP4 := Lib.hid (HP3.out.row (notP (kindP 4)))
        have HZ4 := Lib.hid (HZ3.out.keep (w' := w2.setRow (w.heap.size + 1) (setC (notP (kindP 4))).toArray) (setRow_other _ _ _ _ (by omega)))
        have HB4 := Lib.hid (below_setRow HB3.out (Nat.le_succ w.heap.size) (setC (notP (kindP 4))).toArray)
        generalize w2.setRow (w.heap.size + 1) (setC (notP (kindP 4))).toArray = w4 at HP4 HZ4 HB4
        go_wp2_with (first
          | (refine wpList_load_row rfl 138 (.tmp 6) rfl (w.heap.size + 1) rfl 138 (setC (notP (kindP 4))).toArray (0, 0) _ HP4.out Tryd.underlying138 rfl (by rw [set_size, setC_size]) ?_)
          | (refine wpList_store_row rfl 138 (.tmp 2) (.tmp 58) rfl (w.heap.size) (setC (notP (kindP 4))).toArray rfl rfl 138 (setC noP).toArray HZ4.out (by rw [set_size, setC_size]) (by rw [setC_size, setC_size]) (setC_one _) ?_))
        exact bodyPost_ret (v := .tuple #[.agg (setC (notP (kindP 4))).toArray, .bool true]) (res_set_tmp Tryd.results136 _ _ w.heap.size 138 (notP (kindP 4)) _ rfl rfl (HZ4.out.row (notP (kindP 4)))) rfl ⟨by first | rfl | rw [if_neg hls], below_setRow HB4.out (Nat.le_refl _) _⟩

set_option maxRecDepth 100000 in
set_option maxHeartbeats 8000000 in
theorem classSet_99 (l : Nat) (w : World) (hl : l < 256) (hs : bits BinOp.or IntKind.u8 (l : Int) 32 = 99) :
    Calls Tryd.prog 136 #[.int .u8 l] w fun e w' => e = .returned (.tuple #[.agg (setC (if l = 99 then kindP 1 else notP (kindP 1))).toArray, .bool true]) ∧ Below w.heap.size w w' := by
  go_enter Tryd.func136, Tryd.ntmps136
  go_wp2_with fail
  have HZ1 : Hid (SetIn ((w.alloc (.cells #[.int .u8 0, .int .u8 0, .int .u8 0, .int .u8 0, .int .u8 0, .int .u8 0, .int .u8 0, .int .u8 0, .int .u8 0, .int .u8 0, .int .u8 0, .int .u8 0, .int .u8 0, .int .u8 0, .int .u8 0, .int .u8 0, .int .u8 0, .int .u8 0, .int .u8 0, .int .u8 0, .int .u8 0, .int .u8 0, .int .u8 0, .int .u8 0, .int .u8 0, .int .u8 0, .int .u8 0, .int .u8 0, .int .u8 0, .int .u8 0, .int .u8 0, .int .u8 0] 138)).alloc (.cells #[.int .u8 0, .int .u8 0, .int .u8 0, .int .u8 0, .int .u8 0, .int .u8 0, .int .u8 0, .int .u8 0, .int .u8 0, .int .u8 0, .int .u8 0, .int .u8 0, .int .u8 0, .int .u8 0, .int .u8 0, .int .u8 0, .int .u8 0, .int .u8 0, .int .u8 0, .int .u8 0, .int .u8 0, .int .u8 0, .int .u8 0, .int .u8 0, .int .u8 0, .int .u8 0, .int .u8 0, .int .u8 0, .int .u8 0, .int .u8 0, .int .u8 0, .int .u8 0] 138)) w.heap.size 138 noP) := (zero_in w 138).keep (Below.heap_alloc _ _ _ (by simp))
  have HZ2 : Hid (SetIn ((w.alloc (.cells #[.int .u8 0, .int .u8 0, .int .u8 0, .int .u8 0, .int .u8 0, .int .u8 0, .int .u8 0, .int .u8 0, .int .u8 0, .int .u8 0, .int .u8 0, .int .u8 0, .int .u8 0, .int .u8 0, .int .u8 0, .int .u8 0, .int .u8 0, .int .u8 0, .int .u8 0, .int .u8 0, .int .u8 0, .int .u8 0, .int .u8 0, .int .u8 0, .int .u8 0, .int .u8 0, .int .u8 0, .int .u8 0, .int .u8 0, .int .u8 0, .int .u8 0, .int .u8 0] 138)).alloc (.cells #[.int .u8 0, .int .u8 0, .int .u8 0, .int .u8 0, .int .u8 0, .int .u8 0, .int .u8 0, .int .u8 0, .int .u8 0, .int .u8 0, .int .u8 0, .int .u8 0, .int .u8 0, .int .u8 0, .int .u8 0, .int .u8 0, .int .u8 0, .int .u8 0, .int .u8 0, .int .u8 0, .int .u8 0, .int .u8 0, .int .u8 0, .int .u8 0, .int .u8 0, .int .u8 0, .int .u8 0, .int .u8 0, .int .u8 0, .int .u8 0, .int .u8 0, .int .u8 0] 138)) (w.heap.size + 1) 138 (uptoP (kindP 1) 0)) := by
    have h := zero_in (w.alloc (.cells #[.int .u8 0, .int .u8 0, .int .u8 0, .int .u8 0, .int .u8 0, .int .u8 0, .int .u8 0, .int .u8 0, .int .u8 0, .int .u8 0, .int .u8 0, .int .u8 0, .int .u8 0, .int .u8 0, .int .u8 0, .int .u8 0, .int .u8 0, .int .u8 0, .int .u8 0, .int .u8 0, .int .u8 0, .int .u8 0, .int .u8 0, .int .u8 0, .int .u8 0, .int .u8 0, .int .u8 0, .int .u8 0, .int .u8 0, .int .u8 0, .int .u8 0, .int .u8 0] 138)) 138
    rw [show (w.alloc (.cells #[.int .u8 0, .int .u8 0, .int .u8 0, .int .u8 0, .int .u8 0, .int .u8 0, .int .u8 0, .int .u8 0, .int .u8 0, .int .u8 0, .int .u8 0, .int .u8 0, .int .u8 0, .int .u8 0, .int .u8 0, .int .u8 0, .int .u8 0, .int .u8 0, .int .u8 0, .int .u8 0, .int .u8 0, .int .u8 0, .int .u8 0, .int .u8 0, .int .u8 0, .int .u8 0, .int .u8 0, .int .u8 0, .int .u8 0, .int .u8 0, .int .u8 0, .int .u8 0] 138)).heap.size = w.heap.size + 1 by simp] at h
    exact h.congr (upto_zero _)
  have HB0 := Lib.hid (((Below.refl w.heap.size w).alloc (Nat.le_refl _) (.cells #[.int .u8 0, .int .u8 0, .int .u8 0, .int .u8 0, .int .u8 0, .int .u8 0, .int .u8 0, .int .u8 0, .int .u8 0, .int .u8 0, .int .u8 0, .int .u8 0, .int .u8 0, .int .u8 0, .int .u8 0, .int .u8 0, .int .u8 0, .int .u8 0, .int .u8 0, .int .u8 0, .int .u8 0, .int .u8 0, .int .u8 0, .int .u8 0, .int .u8 0, .int .u8 0, .int .u8 0, .int .u8 0, .int .u8 0, .int .u8 0, .int .u8 0, .int .u8 0] 138)).alloc (by simp) (.cells #[.int .u8 0, .int .u8 0, .int .u8 0, .int .u8 0, .int .u8 0, .int .u8 0, .int .u8 0, .int .u8 0, .int .u8 0, .int .u8 0, .int .u8 0, .int .u8 0, .int .u8 0, .int .u8 0, .int .u8 0, .int .u8 0, .int .u8 0, .int .u8 0, .int .u8 0, .int .u8 0, .int .u8 0, .int .u8 0, .int .u8 0, .int .u8 0, .int .u8 0, .int .u8 0, .int .u8 0, .int .u8 0, .int .u8 0, .int .u8 0, .int .u8 0, .int .u8 0] 138))
  generalize (w.alloc (.cells #[.int .u8 0, .int .u8 0, .int .u8 0, .int .u8 0, .int .u8 0, .int .u8 0, .int .u8 0, .int .u8 0, .int .u8 0, .int .u8 0, .int .u8 0, .int .u8 0, .int .u8 0, .int .u8 0, .int .u8 0, .int .u8 0, .int .u8 0, .int .u8 0, .int .u8 0, .int .u8 0, .int .u8 0, .int .u8 0, .int .u8 0, .int .u8 0, .int .u8 0, .int .u8 0, .int .u8 0, .int .u8 0, .int .u8 0, .int .u8 0, .int .u8 0, .int .u8 0] 138)).alloc (.cells #[.int .u8 0, .int .u8 0, .int .u8 0, .int .u8 0, .int .u8 0, .int .u8 0, .int .u8 0, .int .u8 0, .int .u8 0, .int .u8 0, .int .u8 0, .int .u8 0, .int .u8 0, .int .u8 0, .int .u8 0, .int .u8 0, .int .u8 0, .int .u8 0, .int .u8 0, .int .u8 0, .int .u8 0, .int .u8 0, .int .u8 0, .int .u8 0, .int .u8 0, .int .u8 0, .int .u8 0, .int .u8 0, .int .u8 0, .int .u8 0, .int .u8 0, .int .u8 0] 138) = w1 at HZ1 HZ2 HB0
  go_loopw [25] (fun kv wr => ∃ k : Nat, k ≤ 256 ∧ kv = .int .i64 k ∧ Hid (SetIn wr w.heap.size 138 noP) ∧ Hid (SetIn wr (w.heap.size + 1) 138 (uptoP (kindP 1) k)) ∧ Hid (Below w.heap.size w wr)) (fun kv _ => 256 - (intOf kv).toNat)
  case atStart => exact ⟨0, by omega, rfl, HZ1.out, HZ2.out, HB0.out⟩
  case round =>
    clear HZ1 HZ2 HB0
    obtain ⟨k, hk, rfl, HZ, HP, HB⟩ := hrel
    by_cases hkl : k < 256
    · have ec : IntKind.u8.wrap (k : Int) = (k : Int) := by rw [IntKind.wrap_u8]; omega
      by_cases hp : (kindP 1) k = true
      · have hcl : (clsN (k : Int) == 1) = true := by have h := hp; unfold kindP at h; rw [if_neg (by decide)] at h; simpa using h
        go_wp2_with fail
        refine (of_any (k : Int) _ (by omega) (by omega)).mono ?_
        rintro e w' ⟨rfl, rfl⟩
        go_wp2_with fail
        refine (add_any _ _ k _ _ (by exact HP.out) hkl).mono ?_
        rintro e w2 ⟨rfl, hs2, ho2⟩
        have HP2 := Lib.hid (hs2.congr (upto_in _ k hp))
        have HZ2 := Lib.hid (HZ.out.keep (ho2.block _ HZ.out.lt (by omega)))
        have HB2 := Lib.hid (HB.out.trans (ho2.below (B := w.heap.size) (Nat.le_succ _) HB.out.size))
        clear hs2 ho2
        go_wp2_with fail
        exact ⟨⟨k + 1, by omega, by go_num, HZ2.out, HP2.out, HB2.out⟩, by simp [intOf]; try omega⟩

      · have hp' : (kindP 1) k = false := by simpa using hp
        have hcl : (clsN (k : Int) == 1) = false := by have h := hp'; unfold kindP at h; rw [if_neg (by decide)] at h; simpa using h
        have HP2 := Lib.hid (HP.out.congr (upto_out _ k hp'))
        go_wp2_with fail
        refine (of_any (k : Int) _ (by omega) (by omega)).mono ?_
        rintro e w' ⟨rfl, rfl⟩
        go_wp2_with fail
        exact ⟨⟨k + 1, by omega, by go_num, HZ.out, HP2.out, HB.out⟩, by simp [intOf]; try omega⟩
    · obtain rfl : k = 256 := by omega
      have HP2 := Lib.hid (HP.out.congr (upto_all _))
      by_cases hls : l = 99
      · subst hls
        go_wp2_with (first
          | (refine wpList_load_row rfl 138 (.tmp 6) rfl (w.heap.size + 1) rfl 138 (setC (kindP 1)).toArray (0, 0) _ HP2.out Tryd.underlying138 rfl (by rw [set_size, setC_size]) ?_)
          | (refine wpList_store_row rfl 138 (.tmp 2) (.tmp 58) rfl (w.heap.size) (setC (kindP 1)).toArray rfl rfl 138 (setC noP).toArray HZ.out (by rw [set_size, setC_size]) (by rw [setC_size, setC_size]) (setC_one _) ?_))
        exact bodyPost_ret (v := .tuple #[.agg (setC (kindP 1)).toArray, .bool true]) (res_set_tmp Tryd.results136 _ _ w.heap.size 138 (kindP 1) _ rfl rfl (HZ.out.row (kindP 1))) rfl ⟨rfl, below_setRow HB.out (Nat.le_refl _) _⟩
      · have hne : ((l : Int) != 99) = true := bne_iff_ne.2 (by omega)
        go_wp2_with (refine wpList_load_row rfl 138 (.tmp 6) rfl (w.heap.size + 1) rfl 138 (setC (kindP 1)).toArray (0, 0) _ HP2.out Tryd.underlying138 rfl (by rw [set_size, setC_size]) ?_)
        refine (inverted_any (kindP 1) _).mono ?_
        rintro e w2 ⟨rfl, hb2⟩
        have HP3 := Lib.hid (HP2.out.keep (hb2.block _ HP2.out.lt))
        have HZ3 := Lib.hid (HZ.out.keep (hb2.block _ HZ.out.lt))
        have HB3 := Lib.hid (HB.out.trans (hb2.mono HB.out.size))
        clear hb2
        go_upto_region 26 with (refine wpList_store_row rfl 138 (.tmp 6) (.tmp 57) rfl (w.heap.size + 1) (setC (notP (kindP 1))).toArray rfl rfl 138 (setC (kindP 1)).toArray HP3.out (by rw [set_size, setC_size]) (by rw [setC_size, setC_size]) (setC_one _) ?_)
        have HP4 := Lib.hid (HP3.out.row (notP (kindP 1)))
        have HZ4 := Lib.hid (HZ3.out.keep (w' := w2.setRow (w.heap.size + 1) (setC (notP (kindP 1))).toArray) (setRow_other _ _ _ _ (by omega)))
        have HB4 := Lib.hid (below_setRow HB3.out (Nat.le_succ w.heap.size) (setC (notP (kindP 1))).toArray)
        generalize w2.setRow (w.heap.size + 1) (setC (notP (kindP 1))).toArray = w4 at HP4 HZ4 HB4
        go_wp2_with (first
          | (refine wpList_load_row rfl 138 (.tmp 6) rfl (w.heap.size + 1) rfl 138 (setC (notP (kindP 1))).toArray (0, 0) _ HP4.out Tryd.underlying138 rfl (by rw [set_size, setC_size]) ?_)
          | (refine wpList_store_row rfl 138 (.tmp 2) (.tmp 58) rfl (w.heap.size) (setC (notP (kindP 1))).toArray rfl rfl 138 (setC noP).toArray HZ4.out (by rw [set_size, setC_size]) (by rw [setC_size, setC_size]) (setC_one _) ?_))
        exact bodyPost_ret (v := .tuple #[.agg (setC (notP (kindP 1))).toArray, .bool true]) (res_set_tmp Tryd.results136 _ _ w.heap.size 138 (notP (kindP 1)) _ rfl rfl (HZ4.out.row (notP (kindP 1)))) rfl ⟨by first | rfl | rw [if_neg hls], below_setRow HB4.out (Nat.le_refl _) _⟩

set_option maxRecDepth 100000 in
set_option maxHeartbeats 8000000 in
theorem classSet_109 (l : Nat) (w : World) (hl : l < 256) (hs : bits BinOp.or IntKind.u8 (l : Int) 32 = 109) :
    Calls Tryd.prog 136 #[.int .u8 l] w fun e w' => e = .returned (.tuple #[.agg (setC (if l = 109 then kindP 5 else notP (kindP 5))).toArray, .bool true]) ∧ Below w.heap.size w w' := by
  go_enter Tryd.func136, Tryd.ntmps136
  go_wp2_with fail
  have HZ1 : Hid (SetIn ((w.alloc (.cells #[.int .u8 0, .int .u8 0, .int .u8 0, .int .u8 0, .int .u8 0, .int .u8 0, .int .u8 0, .int .u8 0, .int .u8 0, .int .u8 0, .int .u8 0, .int .u8 0, .int .u8 0, .int .u8 0, .int .u8 0, .int .u8 0, .int .u8 0, .int .u8 0, .int .u8 0, .int .u8 0, .int .u8 0, .int .u8 0, .int .u8 0, .int .u8 0, .int .u8 0, .int .u8 0, .int .u8 0, .int .u8 0, .int .u8 0, .int .u8 0, .int .u8 0, .int .u8 0] 138)).alloc (.cells #[.int .u8 0, .int .u8 0, .int .u8 0, .int .u8 0, .int .u8 0, .int .u8 0, .int .u8 0, .int .u8 0, .int .u8 0, .int .u8 0, .int .u8 0, .int .u8 0, .int .u8 0, .int .u8 0, .int .u8 0, .int .u8 0, .int .u8 0, .int .u8 0, .int .u8 0, .int .u8 0, .int .u8 0, .int .u8 0, .int .u8 0, .int .u8 0, .int .u8 0, .int .u8 0, .int .u8 0, .int .u8 0, .int .u8 0, .int .u8 0, .int .u8 0, .int .u8 0] 138)) w.heap.size 138 noP) := (zero_in w 138).keep (Below.heap_alloc _ _ _ (by simp))
  have HZ2 : Hid (SetIn ((w.alloc (.cells #[.int .u8 0, .int .u8 0, .int .u8 0, .int .u8 0, .int .u8 0, .int .u8 0, .int .u8 0, .int .u8 0, .int .u8 0, .int .u8 0, .int .u8 0, .int .u8 0, .int .u8 0, .int .u8 0, .int .u8 0, .int .u8 0, .int .u8 0, .int .u8 0, .int .u8 0, .int .u8 0, .int .u8 0, .int .u8 0, .int .u8 0, .int .u8 0, .int .u8 0, .int .u8 0, .int .u8 0, .int .u8 0, .int .u8 0, .int .u8 0, .int .u8 0, .int .u8 0] 138)).alloc (.cells #[.int .u8 0, .int .u8 0, .int .u8 0, .int .u8 0, .int .u8 0, .int .u8 0, .int .u8 0, .int .u8 0, .int .u8 0, .int .u8 0, .int .u8 0, .int .u8 0, .int .u8 0, .int .u8 0, .int .u8 0, .int .u8 0, .int .u8 0, .int .u8 0, .int .u8 0, .int .u8 0, .int .u8 0, .int .u8 0, .int .u8 0, .int .u8 0, .int .u8 0, .int .u8 0, .int .u8 0, .int .u8 0, .int .u8 0, .int .u8 0, .int .u8 0, .int .u8 0] 138)) (w.heap.size + 1) 138 (uptoP (kindP 5) 0)) := by
    have h := zero_in (w.alloc (.cells #[.int .u8 0, .int .u8 0, .int .u8 0, .int .u8 0, .int .u8 0, .int .u8 0, .int .u8 0, .int .u8 0, .int .u8 0, .int .u8 0, .int .u8 0, .int .u8 0, .int .u8 0, .int .u8 0, .int .u8 0, .int .u8 0, .int .u8 0, .int .u8 0, .int .u8 0, .int .u8 0, .int .u8 0, .int .u8 0, .int .u8 0, .int .u8 0, .int .u8 0, .int .u8 0, .int .u8 0, .int .u8 0, .int .u8 0, .int .u8 0, .int .u8 0, .int .u8 0] 138)) 138
    rw [show (w.alloc (.cells #[.int .u8 0, .int .u8 0, .int .u8 0, .int .u8 0, .int .u8 0, .int .u8 0, .int .u8 0, .int .u8 0, .int .u8 0, .int .u8 0, .int .u8 0, .int .u8 0, .int .u8 0, .int .u8 0, .int .u8 0, .int .u8 0, .int .u8 0, .int .u8 0, .int .u8 0, .int .u8 0, .int .u8 0, .int .u8 0, .int .u8 0, .int .u8 0, .int .u8 0, .int .u8 0, .int .u8 0, .int .u8 0, .int .u8 0, .int .u8 0, .int .u8 0, .int .u8 0] 138)).heap.size = w.heap.size + 1 by simp] at h
    exact h.congr (upto_zero _)
  have HB0 := Lib.hid (((Below.refl w.heap.size w).alloc (Nat.le_refl _) (.cells #[.int .u8 0, .int .u8 0, .int .u8 0, .int .u8 0, .int .u8 0, .int .u8 0, .int .u8 0, .int .u8 0, .int .u8 0, .int .u8 0, .int .u8 0, .int .u8 0, .int .u8 0, .int .u8 0, .int .u8 0, .int .u8 0, .int .u8 0, .int .u8 0, .int .u8 0, .int .u8 0, .int .u8 0, .int .u8 0, .int .u8 0, .int .u8 0, .int .u8 0, .int .u8 0, .int .u8 0, .int .u8 0, .int .u8 0, .int .u8 0, .int .u8 0, .int .u8 0] 138)).alloc (by simp) (.cells #[.int .u8 0, .int .u8 0, .int .u8 0, .int .u8 0, .int .u8 0, .int .u8 0, .int .u8 0, .int .u8 0, .int .u8 0, .int .u8 0, .int .u8 0, .int .u8 0, .int .u8 0, .int .u8 0, .int .u8 0, .int .u8 0, .int .u8 0, .int .u8 0, .int .u8 0, .int .u8 0, .int .u8 0, .int .u8 0, .int .u8 0, .int .u8 0, .int .u8 0, .int .u8 0, .int .u8 0, .int .u8 0, .int .u8 0, .int .u8 0, .int .u8 0, .int .u8 0] 138))
  generalize (w.alloc (.cells #[.int .u8 0, .int .u8 0, .int .u8 0, .int .u8 0, .int .u8 0, .int .u8 0, .int .u8 0, .int .u8 0, .int .u8 0, .int .u8 0, .int .u8 0, .int .u8 0, .int .u8 0, .int .u8 0, .int .u8 0, .int .u8 0, .int .u8 0, .int .u8 0, .int .u8 0, .int .u8 0, .int .u8 0, .int .u8 0, .int .u8 0, .int .u8 0, .int .u8 0, .int .u8 0, .int .u8 0, .int .u8 0, .int .u8 0, .int .u8 0, .int .u8 0, .int .u8 0] 138)).alloc (.cells #[.int .u8 0, .int .u8 0, .int .u8 0, .int .u8 0, .int .u8 0, .int .u8 0, .int .u8 0, .int .u8 0, .int .u8 0, .int .u8 0, .int .u8 0, .int .u8 0, .int .u8 0, .int .u8 0, .int .u8 0, .int .u8 0, .int .u8 0, .int .u8 0, .int .u8 0, .int .u8 0, .int .u8 0, .int .u8 0, .int .u8 0, .int .u8 0, .int .u8 0, .int .u8 0, .int .u8 0, .int .u8 0, .int .u8 0, .int .u8 0, .int .u8 0, .int .u8 0] 138) = w1 at HZ1 HZ2 HB0
  go_loopw [25] (fun kv wr => ∃ k : Nat, k ≤ 256 ∧ kv = .int .i64 k ∧ Hid (SetIn wr w.heap.size 138 noP) ∧ Hid (SetIn wr (w.heap.size + 1) 138 (uptoP (kindP 5) k)) ∧ Hid (Below w.heap.size w wr)) (fun kv _ => 256 - (intOf kv).toNat)
  case atStart => exact ⟨0, by omega, rfl, HZ1.out, HZ2.out, HB0.out⟩
  case round =>
    clear HZ1 HZ2 HB0
    obtain ⟨k, hk, rfl, HZ, HP, HB⟩ := hrel
    by_cases hkl : k < 256
    · have ec : IntKind.u8.wrap (k : Int) = (k : Int) := by rw [IntKind.wrap_u8]; omega
      by_cases hp : (kindP 5) k = true
      · have hcl : (clsN (k : Int) == 5) = true := by have h := hp; unfold kindP at h; rw [if_neg (by decide)] at h; simpa using h
        go_wp2_with fail
        refine (of_any (k : Int) _ (by omega) (by omega)).mono ?_
        rintro e w' ⟨rfl, rfl⟩
        go_wp2_with fail
        refine (add_any _ _ k _ _ (by exact HP.out) hkl).mono ?_
        rintro e w2 ⟨rfl, hs2, ho2⟩
        have HP2 := Lib.hid (hs2.congr (upto_in _ k hp))
        have HZ2 := Lib.hid (HZ.out.keep (ho2.block _ HZ.out.lt (by omega)))
        have HB2 := Lib.hid (HB.out.trans (ho2.below (B := w.heap.size) (Nat.le_succ _) HB.out.size))
        clear hs2 ho2
        go_wp2_with fail
        exact ⟨⟨k + 1, by omega, by go_num, HZ2.out, HP2.out, HB2.out⟩, by simp [intOf]; try omega⟩

      · have hp' : (kindP 5) k = false := by simpa using hp
        have hcl : (clsN (k : Int) == 5) = false := by have h := hp'; unfold kindP at h; rw [if_neg (by decide)] at h; simpa using h
        have HP2 := Lib.hid (HP.out.congr (upto_out _ k hp'))
        go_wp2_with fail
        refine (of_any (k : Int) _ (by omega) (by omega)).mono ?_
        rintro e w' ⟨rfl, rfl⟩
        go_wp2_with fail
        exact ⟨⟨k + 1, by omega, by go_num, HZ.out, HP2.out, HB.out⟩, by simp [intOf]; try omega⟩
    · obtain rfl : k = 256 := by omega
      have HP2 := Lib.hid (HP.out.congr (upto_all _))
      by_cases hls : l = 109
      · subst hls
        go_wp2_with (first
          | (refine wpList_load_row rfl 138 (.tmp 6) rfl (w.heap.size + 1) rfl 138 (setC (kindP 5)).toArray (0, 0) _ HP2.out Tryd.underlying138 rfl (by rw [set_size, setC_size]) ?_)
          | (refine wpList_store_row rfl 138 (.tmp 2) (.tmp 58) rfl (w.heap.size) (setC (kindP 5)).toArray rfl rfl 138 (setC noP).toArray HZ.out (by rw [set_size, setC_size]) (by rw [setC_size, setC_size]) (setC_one _) ?_))
        exact bodyPost_ret (v := .tuple #[.agg (setC (kindP 5)).toArray, .bool true]) (res_set_tmp Tryd.results136 _ _ w.heap.size 138 (kindP 5) _ rfl rfl (HZ.out.row (kindP 5))) rfl ⟨rfl, below_setRow HB.out (Nat.le_refl _) _⟩
      · have hne : ((l : Int) != 109) = true := bne_iff_ne.2 (by omega)
        go_wp2_with (refine wpList_load_row rfl 138 (.tmp 6) rfl (w.heap.size + 1) rfl 138 (setC (kindP 5)).toArray (0, 0) _ HP2.out Tryd.underlying138 rfl (by rw [set_size, setC_size]) ?_)
        refine (inverted_any (kindP 5) _).mono ?_
        rintro e w2 ⟨rfl, hb2⟩
        have HP3 := Lib.hid (HP2.out.keep (hb2.block _ HP2.out.lt))
        have HZ3 := Lib.hid (HZ.out.keep (hb2.block _ HZ.out.lt))
        have HB3 := Lib.hid (HB.out.trans (hb2.mono HB.out.size))
        clear hb2
        go_upto_region 26 with (refine wpList_store_row rfl 138 (.tmp 6) (.tmp 57) rfl (w.heap.size + 1) (setC (notP (kindP 5))).toArray rfl rfl 138 (setC (kindP 5)).toArray HP3.out (by rw [set_size, setC_size]) (by rw [setC_size, setC_size]) (setC_one _) ?_)
        have HP4 := Lib.hid (HP3.out.row (notP (kindP 5)))
        have HZ4 := Lib.hid (HZ3.out.keep (w' := w2.setRow (w.heap.size + 1) (setC (notP (kindP 5))).toArray) (setRow_other _ _ _ _ (by omega)))
        have HB4 := Lib.hid (below_setRow HB3.out (Nat.le_succ w.heap.size) (setC (notP (kindP 5))).toArray)
        generalize w2.setRow (w.heap.size + 1) (setC (notP (kindP 5))).toArray = w4 at HP4 HZ4 HB4
        go_wp2_with (first
          | (refine wpList_load_row rfl 138 (.tmp 6) rfl (w.heap.size + 1) rfl 138 (setC (notP (kindP 5))).toArray (0, 0) _ HP4.out Tryd.underlying138 rfl (by rw [set_size, setC_size]) ?_)
          | (refine wpList_store_row rfl 138 (.tmp 2) (.tmp 58) rfl (w.heap.size) (setC (notP (kindP 5))).toArray rfl rfl 138 (setC noP).toArray HZ4.out (by rw [set_size, setC_size]) (by rw [setC_size, setC_size]) (setC_one _) ?_))
        exact bodyPost_ret (v := .tuple #[.agg (setC (notP (kindP 5))).toArray, .bool true]) (res_set_tmp Tryd.results136 _ _ w.heap.size 138 (notP (kindP 5)) _ rfl rfl (HZ4.out.row (notP (kindP 5)))) rfl ⟨by first | rfl | rw [if_neg hls], below_setRow HB4.out (Nat.le_refl _) _⟩

set_option maxRecDepth 100000 in
set_option maxHeartbeats 8000000 in
theorem classSet_117 (l : Nat) (w : World) (hl : l < 256) (hs : bits BinOp.or IntKind.u8 (l : Int) 32 = 117) :
    Calls Tryd.prog 136 #[.int .u8 l] w fun e w' => e = .returned (.tuple #[.agg (setC (if l = 117 then kindP 0 else notP (kindP 0))).toArray, .bool true]) ∧ Below w.heap.size w w' := by
  go_enter Tryd.func136, Tryd.ntmps136
  go_wp2_with fail
  have HZ1 : Hid (SetIn ((w.alloc (.cells #[.int .u8 0, .int .u8 0, .int .u8 0, .int .u8 0, .int .u8 0, .int .u8 0, .int .u8 0, .int .u8 0, .int .u8 0, .int .u8 0, .int .u8 0, .int .u8 0, .int .u8 0, .int .u8 0, .int .u8 0, .int .u8 0, .int .u8 0, .int .u8 0, .int .u8 0, .int .u8 0, .int .u8 0, .int .u8 0, .int .u8 0, .int .u8 0, .int .u8 0, .int .u8 0, .int .u8 0, .int .u8 0, .int .u8 0, .int .u8 0, .int .u8 0, .int .u8 0] 138)).alloc (.cells #[.int .u8 0, .int .u8 0, .int .u8 0, .int .u8 0, .int .u8 0, .int .u8 0, .int .u8 0, .int .u8 0, .int .u8 0, .int .u8 0, .int .u8 0, .int .u8 0, .int .u8 0, .int .u8 0, .int .u8 0, .int .u8 0, .int .u8 0, .int .u8 0, .int .u8 0, .int .u8 0, .int .u8 0, .int .u8 0, .int .u8 0, .int .u8 0, .int .u8 0, .int .u8 0, .int .u8 0, .int .u8 0, .int .u8 0, .int .u8 0, .int .u8 0, .int .u8 0] 138)) w.heap.size 138 noP) := (zero_in w 138).keep (Below.heap_alloc _ _ _ (by simp))
  have HZ2 : Hid (SetIn ((w.alloc (.cells #[.int .u8 0, .int .u8 0, .int .u8 0, .int .u8 0, .int .u8 0, .int .u8 0, .int .u8 0, .int .u8 0, .int .u8 0, .int .u8 0, .int .u8 0, .int .u8 0, .int .u8 0, .int .u8 0, .int .u8 0, .int .u8 0, .int .u8 0, .int .u8 0, .int .u8 0, .int .u8 0, .int .u8 0, .int .u8 0, .int .u8 0, .int .u8 0, .int .u8 0, .int .u8 0, .int .u8 0, .int .u8 0, .int .u8 0, .int .u8 0, .int .u8 0, .int .u8 0] 138)).alloc (.cells #[.int .u8 0, .int .u8 0, .int .u8 0, .int .u8 0, .int .u8 0, .int .u8 0, .int .u8 0, .int .u8 0, .int .u8 0, .int .u8 0, .int .u8 0, .int .u8 0, .int .u8 0, .int .u8 0, .int .u8 0, .int .u8 0, .int .u8 0, .int .u8 0, .int .u8 0, .int .u8 0, .int .u8 0, .int .u8 0, .int .u8 0, .int .u8 0, .int .u8 0, .int .u8 0, .int .u8 0, .int .u8 0, .int .u8 0, .int .u8 0, .int .u8 0, .int .u8 0] 138)) (w.heap.size + 1) 138 (uptoP (kindP 0) 0)) := by
    have h := zero_in (w.alloc (.cells #[.int .u8 0, .int .u8 0, .int .u8 0, .int .u8 0, .int .u8 0, .int .u8 0, .int .u8 0, .int .u8 0, .int .u8 0, .int .u8 0, .int .u8 0, .int .u8 0, .int .u8 0, .int .u8 0, .int .u8 0, .int .u8 0, .int .u8 0, .int .u8 0, .int .u8 0, .int .u8 0, .int .u8 0, .int .u8 0, .int .u8 0, .int .u8 0, .int .u8 0, .int .u8 0, .int .u8 0, .int .u8 0, .int .u8 0, .int .u8 0, .int .u8 0, .int .u8 0] 138)) 138
    rw [show (w.alloc (.cells #[.int .u8 0, .int .u8 0, .int .u8 0, .int .u8 0, .int .u8 0, .int .u8 0, .int .u8 0, .int .u8 0, .int .u8 0, .int .u8 0, .int .u8 0, .int .u8 0, .int .u8 0, .int .u8 0, .int .u8 0, .int .u8 0, .int .u8 0, .int .u8 0, .int .u8 0, .int .u8 0, .int .u8 0, .int .u8 0, .int .u8 0, .int .u8 0, .int .u8 0, .int .u8 0, .int .u8 0, .int .u8 0, .int .u8 0, .int .u8 0, .int .u8 0, .int .u8 0] 138)).heap.size = w.heap.size + 1 by simp] at h
    exact h.congr (upto_zero _)
  have HB0 := Lib.hid (((Below.refl w.heap.size w).alloc (Nat.le_refl _) (.cells #[.int .u8 0, .int .u8 0, .int .u8 0, .int .u8 0, .int .u8 0, .int .u8 0, .int .u8 0, .int .u8 0, .int .u8 0, .int .u8 0, .int .u8 0, .int .u8 0, .int .u8 0, .int .u8 0, .int .u8 0, .int .u8 0, .int .u8 0, .int .u8 0, .int .u8 0, .int .u8 0, .int .u8 0, .int .u8 0, .int .u8 0, .int .u8 0, .int .u8 0, .int .u8 0, .int .u8 0, .int .u8 0, .int .u8 0, .int .u8 0, .int .u8 0, .int .u8 0] 138)).alloc (by simp) (.cells #[.int .u8 0, .int .u8 0, .int .u8 0, .int .u8 0, .int .u8 0, .int .u8 0, .int .u8 0, .int .u8 0, .int .u8 0, .int .u8 0, .int .u8 0, .int .u8 0, .int .u8 0, .int .u8 0, .int .u8 0, .int .u8 0, .int .u8 0, .int .u8 0, .int .u8 0, .int .u8 0, .int .u8 0, .int .u8 0, .int .u8 0, .int .u8 0, .int .u8 0, .int .u8 0, .int .u8 0, .int .u8 0, .int .u8 0, .int .u8 0, .int .u8 0, .int .u8 0] 138))
  generalize (w.alloc (.cells #[.int .u8 0, .int .u8 0, .int .u8 0, .int .u8 0, .int .u8 0, .int .u8 0, .int .u8 0, .int .u8 0, .int .u8 0, .int .u8 0, .int .u8 0, .int .u8 0, .int .u8 0, .int .u8 0, .int .u8 0, .int .u8 0, .int .u8 0, .int .u8 0, .int .u8 0, .int .u8 0, .int .u8 0, .int .u8 0, .int .u8 0, .int .u8 0, .int .u8 0, .int .u8 0, .int .u8 0, .int .u8 0, .int .u8 0, .int .u8 0, .int .u8 0, .int .u8 0] 138)).alloc (.cells #[.int .u8 0, .int .u8 0, .int .u8 0, .int .u8 0, .int .u8 0, .int .u8 0, .int .u8 0, .int .u8 0, .int .u8 0, .int .u8 0, .int .u8 0, .int .u8 0, .int .u8 0, .int .u8 0, .int .u8 0, .int .u8 0, .int .u8 0, .int .u8 0, .int .u8 0, .int .u8 0, .int .u8 0, .int .u8 0, .int .u8 0, .int .u8 0, .int .u8 0, .int .u8 0, .int .u8 0, .int .u8 0, .int .u8 0, .int .u8 0, .int .u8 0, .int .u8 0] 138) = w1 at HZ1 HZ2 HB0
  go_loopw [25] (fun kv wr => ∃ k : Nat, k ≤ 256 ∧ kv = .int .i64 k ∧ Hid (SetIn wr w.heap.size 138 noP) ∧ Hid (SetIn wr (w.heap.size + 1) 138 (uptoP (kindP 0) k)) ∧ Hid (Below w.heap.size w wr)) (fun kv _ => 256 - (intOf kv).toNat)
  case atStart => exact ⟨0, by omega, rfl, HZ1.out, HZ2.out, HB0.out⟩
  case round =>
    clear HZ1 HZ2 HB0
    obtain ⟨k, hk, rfl, HZ, HP, HB⟩ := hrel
    by_cases hkl : k < 256
    · have ec : IntKind.u8.wrap (k : Int) = (k : Int) := by rw [IntKind.wrap_u8]; omega
      by_cases hp : (kindP 0) k = true
      · have hc : 65 ≤ k ∧ k ≤ 90 := by have h := hp; unfold kindP at h; rw [if_pos rfl] at h; simpa using h
        obtain ⟨hc1, hc2⟩ := hc
        have hd1 : (65 : Int) ≤ (k : Int) := by omega
        have hd2 : (k : Int) ≤ 90 := by omega
        go_wp2_with fail
        refine (add_any _ _ k _ _ (by exact HP.out) hkl).mono ?_
        rintro e w2 ⟨rfl, hs2, ho2⟩
        have HP2 := Lib.hid (hs2.congr (upto_in _ k hp))
        have HZ2 := Lib.hid (HZ.out.keep (ho2.block _ HZ.out.lt (by omega)))
        have HB2 := Lib.hid (HB.out.trans (ho2.below (B := w.heap.size) (Nat.le_succ _) HB.out.size))
        clear hs2 ho2
        go_wp2_with fail
        exact ⟨⟨k + 1, by omega, by go_num, HZ2.out, HP2.out, HB2.out⟩, by simp [intOf]; try omega⟩

      · have hp' : (kindP 0) k = false := by simpa using hp
        have hc : ¬ (65 ≤ k ∧ k ≤ 90) := by have h := hp'; unfold kindP at h; rw [if_pos rfl] at h; simpa using h
        have HP2 := Lib.hid (HP.out.congr (upto_out _ k hp'))
        by_cases hc1 : 65 ≤ k
        · have hd1 : (65 : Int) ≤ (k : Int) := by omega
          have hd2 : ¬ (k : Int) ≤ 90 := by omega
          clear hc
          go_wp2_with fail
          exact ⟨⟨k + 1, by omega, by go_num, HZ.out, HP2.out, HB.out⟩, by simp [intOf]; try omega⟩
        · have hd1 : ¬ (65 : Int) ≤ (k : Int) := by omega
          clear hc
          go_wp2_with fail
          exact ⟨⟨k + 1, by omega, by go_num, HZ.out, HP2.out, HB.out⟩, by simp [intOf]; try omega⟩
    · obtain rfl : k = 256 := by omega
      have HP2 := Lib.hid (HP.out.congr (upto_all _))
      by_cases hls : l = 117
      · subst hls
        go_wp2_with (first
          | (refine wpList_load_row rfl 138 (.tmp 6) rfl (w.heap.size + 1) rfl 138 (setC (kindP 0)).toArray (0, 0) _ HP2.out Tryd.underlying138 rfl (by rw [set_size, setC_size]) ?_)
          | (refine wpList_store_row rfl 138 (.tmp 2) (.tmp 58) rfl (w.heap.size) (setC (kindP 0)).toArray rfl rfl 138 (setC noP).toArray HZ.out (by rw [set_size, setC_size]) (by rw [setC_size, setC_size]) (setC_one _) ?_))
        exact bodyPost_ret (v := .tuple #[.agg (setC (kindP 0)).toArray, .bool true]) (res_set_tmp Tryd.results136 _ _ w.heap.size 138 (kindP 0) _ rfl rfl (HZ.out.row (kindP 0))) rfl ⟨rfl, below_setRow HB.out (Nat.le_refl _) _⟩
      · have hne : ((l : Int) != 117) = true := bne_iff_ne.2 (by omega)
        go_wp2_with (refine wpList_load_row rfl 138 (.tmp 6) rfl (w.heap.size + 1) rfl 138 (setC (kindP 0)).toArray (0, 0) _ HP2.out Tryd.underlying138 rfl (by rw [set_size, setC_size]) ?_)
        refine (inverted_any (kindP 0) _).mono ?_
        rintro e w2 ⟨rfl, hb2⟩
        have HP3 := Lib.hid (HP2.out.keep (hb2.block _ HP2.out.lt))
        have HZ3 := Lib.hid (HZ.out.keep (hb2.block _ HZ.out.lt))
        have HB3 := Lib.hid (HB.out.trans (hb2.mono HB.out.size))
        clear hb2
        go_upto_region 26 with (refine wpList_store_row rfl 138 (.tmp 6) (.tmp 57) rfl (w.heap.size + 1) (setC (notP (kindP 0))).toArray rfl rfl 138 (setC (kindP 0)).toArray HP3.out (by rw [set_size, setC_size]) (by rw [setC_size, setC_size]) (setC_one _) ?_)
        have HP4 := Lib.hid (HP3.out.row (notP (kindP 0)))
        have HZ4 := Lib.hid (HZ3.out.keep (w' := w2.setRow (w.heap.size + 1) (setC (notP (kindP 0))).toArray) (setRow_other _ _ _ _ (by omega)))
        have HB4 := Lib.hid (below_setRow HB3.out (Nat.le_succ w.heap.size) (setC (notP (kindP 0))).toArray)
        generalize w2.setRow (w.heap.size + 1) (setC (notP (kindP 0))).toArray = w4 at HP4 HZ4 HB4
        go_wp2_with (first
          | (refine wpList_load_row rfl 138 (.tmp 6) rfl (w.heap.size + 1) rfl 138 (setC (notP (kindP 0))).toArray (0, 0) _ HP4.out Tryd.underlying138 rfl (by rw [set_size, setC_size]) ?_)
          | (refine wpList_store_row rfl 138 (.tmp 2) (.tmp 58) rfl (w.heap.size) (setC (notP (kindP 0))).toArray rfl rfl 138 (setC noP).toArray HZ4.out (by rw [set_size, setC_size]) (by rw [setC_size, setC_size]) (setC_one _) ?_))
        exact bodyPost_ret (v := .tuple #[.agg (setC (notP (kindP 0))).toArray, .bool true]) (res_set_tmp Tryd.results136 _ _ w.heap.size 138 (notP (kindP 0)) _ rfl rfl (HZ4.out.row (notP (kindP 0)))) rfl ⟨by first | rfl | rw [if_neg hls], below_setRow HB4.out (Nat.le_refl _) _⟩


end Go.Proofs.YtpboaadjbkaidaaDoor

namespace Go.Proofs.YtpboaadjbkaidaaDoor
set_option maxRecDepth 100000
open Go.RowKit

/-- Byte i of a string. -/
def bt (s : ByteArray) (i : Nat) : Nat := (s.data.toList.getD i 0).toNat
theorem bt_get (s : ByteArray) (i : Nat) (h : i < s.size) : bt s i = s[i].toNat := by
  unfold bt
  have hl : i < s.data.toList.length := by rw [← Lib.size_eq]; exact h
  rw [List.getD_eq_getElem?_getD, List.getElem?_eq_getElem hl]
  rfl
theorem bt_lt (s : ByteArray) (i : Nat) : bt s i < 256 := (s.data.toList.getD i 0).toNat_lt

/-- The set that a letter behind a backslash stands for. -/
def classP (c : Nat) : Option (Nat → Bool) :=
  if c = 115 then some (kindP 2) else if c = 83 then some (notP (kindP 2))
  else if c = 100 then some (kindP 3) else if c = 68 then some (notP (kindP 3))
  else if c = 108 then some (kindP 4) else if c = 76 then some (notP (kindP 4))
  else if c = 99 then some (kindP 1) else if c = 67 then some (notP (kindP 1))
  else if c = 109 then some (kindP 5) else if c = 77 then some (notP (kindP 5))
  else if c = 117 then some (kindP 0) else if c = 85 then some (notP (kindP 0))
  else none
theorem classP_letter : ∀ c : Fin 256, (classP c.val).isSome = true → clsN (c.val : Int) = 4 := by decide +kernel
theorem or32_tab : ∀ c : Fin 256, (bits BinOp.or IntKind.u8 ((c.val : Nat) : Int) 32 = 115 → c.val = 115 ∨ c.val = 83) ∧ (bits BinOp.or IntKind.u8 ((c.val : Nat) : Int) 32 = 100 → c.val = 100 ∨ c.val = 68)
    ∧ (bits BinOp.or IntKind.u8 ((c.val : Nat) : Int) 32 = 108 → c.val = 108 ∨ c.val = 76) ∧ (bits BinOp.or IntKind.u8 ((c.val : Nat) : Int) 32 = 99 → c.val = 99 ∨ c.val = 67)
    ∧ (bits BinOp.or IntKind.u8 ((c.val : Nat) : Int) 32 = 109 → c.val = 109 ∨ c.val = 77) ∧ (bits BinOp.or IntKind.u8 ((c.val : Nat) : Int) 32 = 117 → c.val = 117 ∨ c.val = 85) := by decide +kernel
/-- May a byte be written. -/
def wrB (b : Nat) : Bool := clsN (b : Int) == 4 || clsN (b : Int) == 3 || clsN (b : Int) == 5
def oneP (b : Nat) : Nat → Bool := addP noP b
/-- What a step of the scanner gives: the set, the byte, whether it is one, where it stands, whether it failed. -/
structure SR where
  p : Nat → Bool
  b : Nat
  one : Bool
  j : Nat
  bad : Bool
def badR (j : Nat) : SR := ⟨noP, 0, false, j, true⟩
/-- Behind a backslash at i. -/
def escF (s : ByteArray) (i : Nat) : SR :=
  if i + 1 < s.size then
    if clsN (bt s (i + 1) : Int) = 5 then ⟨oneP (bt s (i + 1)), bt s (i + 1), true, i + 2, false⟩
    else match classP (bt s (i + 1)) with
      | some p => ⟨p, bt s (i + 1), false, i + 2, false⟩
      | none => badR (i + 1)
  else badR (i + 1)
/-- The bytes that may not stand bare inside brackets; outside of them. -/
def inIn (b : Nat) : Bool := b == 93 || b == 91 || b == 94 || b == 45
def inOut (b : Nat) : Bool := b == 42 || b == 43 || b == 63 || b == 40 || b == 41 || b == 124 || b == 93 || b == 123 || b == 125
def singleF (s : ByteArray) (i : Nat) : SR :=
  if bt s i = 92 then escF s i
  else if wrB (bt s i) = true ∧ inIn (bt s i) = false then ⟨oneP (bt s i), bt s i, true, i + 1, false⟩
  else badR i
theorem index_in : ∀ b : Fin 256, decide (0 ≤ Lib.indexByte [93, 91, 94, 45] (b.val : Int).toNat.toUInt8) = inIn b.val := by decide +kernel
theorem index_out : ∀ b : Fin 256, decide (0 ≤ Lib.indexByte [42, 43, 63, 40, 41, 124, 93, 123, 125] (b.val : Int).toNat.toUInt8) = inOut b.val := by decide +kernel

theorem escF_ok (s : ByteArray) (i : Nat) (h : i < s.size) : (escF s i).b < 256 ∧ (escF s i).j ≤ s.size ∧ ((escF s i).bad = false → i < (escF s i).j) ∧ i ≤ (escF s i).j := by
  unfold escF
  have hb := bt_lt s (i + 1)
  split
  · split
    · refine ⟨hb, ?_, fun _ => ?_, ?_⟩ <;> simp only <;> omega
    · split
      · refine ⟨hb, ?_, fun _ => ?_, ?_⟩ <;> simp only <;> omega
      · refine ⟨(show (0 : Nat) < 256 by omega), ?_, fun h => absurd h (by simp [badR]), ?_⟩ <;> simp only [badR] <;> omega
  · refine ⟨(show (0 : Nat) < 256 by omega), ?_, fun h => absurd h (by simp [badR]), ?_⟩ <;> simp only [badR] <;> omega
theorem singleF_ok (s : ByteArray) (i : Nat) (h : i < s.size) : (singleF s i).b < 256 ∧ (singleF s i).j ≤ s.size ∧ ((singleF s i).bad = false → i < (singleF s i).j) ∧ i ≤ (singleF s i).j := by
  unfold singleF
  have hb := bt_lt s i
  split
  · exact escF_ok s i h
  · split
    · refine ⟨hb, ?_, fun _ => ?_, ?_⟩ <;> simp only <;> omega
    · refine ⟨(show (0 : Nat) < 256 by omega), ?_, fun h => absurd h (by simp [badR]), ?_⟩ <;> simp only [badR] <;> omega
/-- The bytes from lo up to k, k not among them. -/
def rng (lo k : Nat) : Nat → Bool := fun n => decide (lo ≤ n ∧ n < k)
theorem rng_none (p : Nat → Bool) (lo : Nat) : ∀ n, n < 256 → p n = orP p (rng lo lo) n := fun n _ => by
  unfold orP rng
  rw [decide_eq_false (by omega), Bool.or_false]
theorem rng_add (p : Nat → Bool) (lo k : Nat) (h : lo ≤ k) : ∀ n, n < 256 → addP (orP p (rng lo k)) k n = orP p (rng lo (k + 1)) n := fun n _ => by
  unfold addP orP rng
  by_cases hn : n = k
  · subst hn
    simp [h]
  · have h1 : (n == k) = false := by simpa using hn
    rw [h1, Bool.false_or]
    congr 1
    rw [decide_eq_decide]
    omega
/-- A member of a set in brackets at i: what the set becomes, where it stands, whether it failed. -/
def memberF (s : ByteArray) (i : Nat) (p : Nat → Bool) : (Nat → Bool) × Nat × Bool :=
  if (singleF s i).bad = true then (p, (singleF s i).j, true)
  else if (singleF s i).one = true ∧ (singleF s i).j < s.size ∧ bt s (singleF s i).j = 45 then
    if (singleF s i).j + 1 < s.size then
      if (singleF s ((singleF s i).j + 1)).bad = true then (p, (singleF s ((singleF s i).j + 1)).j, true)
      else if (singleF s ((singleF s i).j + 1)).one = false then (p, (singleF s i).j + 2, true)
      else if (singleF s ((singleF s i).j + 1)).b < (singleF s i).b then (p, (singleF s i).j + 1, true)
      else (orP p (rng (singleF s i).b ((singleF s ((singleF s i).j + 1)).b + 1)), (singleF s ((singleF s i).j + 1)).j, false)
    else (p, (singleF s i).j + 1, true)
  else (orP p (singleF s i).p, (singleF s i).j, false)
theorem memberF_ok (s : ByteArray) (i : Nat) (p : Nat → Bool) (h : i < s.size) : ((memberF s i p).2.2 = false → i < (memberF s i p).2.1 ∧ (memberF s i p).2.1 ≤ s.size) := by
  have h1 := singleF_ok s i h
  unfold memberF
  split
  · simp
  · rename_i hb
    have hb' : (singleF s i).bad = false := by simpa using hb
    have h3 := h1.2.2.1 hb'
    split
    · split
      · rename_i h4
        have h5 := singleF_ok s _ h4
        split
        · simp
        · rename_i hb2
          have hb2' : (singleF s ((singleF s i).j + 1)).bad = false := by simpa using hb2
          have h6 := h5.2.2.1 hb2'
          split
          · simp
          · split
            · simp
            · intro _
              exact ⟨Nat.lt_trans (Nat.lt_succ_of_lt h3) h6, h5.2.1⟩
      · simp
    · intro _
      exact ⟨h3, h1.2.1⟩

end Go.Proofs.YtpboaadjbkaidaaDoor

namespace Go.Proofs.YtpboaadjbkaidaaDoor
set_option maxRecDepth 100000
open Go.RowKit

set_option maxRecDepth 100000 in
set_option maxHeartbeats 1000000 in
theorem index_any (s : ByteArray) (b : Nat) (w : World) :
    Calls Tryd.prog 131 #[.string s, .int .u8 b] w fun e w' => e = .returned (.int .i64 (Lib.indexByte s.data.toList (b : Int).toNat.toUInt8)) ∧ w = w' := by
  have C : ∀ w, Calls Tryd.prog 106 #[.string s, .int .u8 b] w fun e w' => e = .returned (.int .i64 (Lib.indexByte s.data.toList (b : Int).toNat.toUInt8)) ∧ w = w' := fun w => by
    go_enter Tryd.func106, Tryd.ntmps106
    go_wp2
    rw [run_callFunc_extern Tryd.func115 (by kernel_rfl) (by kernel_rfl) (by kernel_rfl) (e := Extern.BytealgIndexByte.indexByte) (by kernel_rfl), Lib.run_indexByteString]
    simp only [Result.andThen]
    rw [Oper.upon_value]
    go_wp2
    go_ret
    exact ⟨rfl, rfl⟩
  have HC := Lib.hid C
  clear C
  go_enter Tryd.func131, Tryd.ntmps131
  go_wp2_with (go_at_call 106; refine (HC.out _).mono ?_; rintro e w' ⟨rfl, rfl⟩)
  go_ret
  exact ⟨rfl, rfl⟩

set_option maxRecDepth 100000 in
set_option maxHeartbeats 1000000 in
theorem written_any (b : Nat) (w : World) (hb : b < 256) :
    Calls Tryd.prog 130 #[.int .u8 b] w fun e w' => e = .returned (.bool (wrB b)) ∧ w = w' := by
  have H : Hid (wrB b = (clsN (b : Int) == 4 || clsN (b : Int) == 3 || clsN (b : Int) == 5)) := rfl
  by_cases h4 : clsN (b : Int) = 4
  · have t4 : (clsN (b : Int) == 4) = true := by rw [h4]; rfl
    clear h4
    go_enter Tryd.func130, Tryd.ntmps130
    go_wp2_with (go_at_call 98; refine (of_any _ _ (by omega) (by omega)).mono ?_; rintro e w' ⟨rfl, rfl⟩)
    go_ret
    exact ⟨ret_bool (by rw [H.out, t4]; rfl), rfl⟩
  have t4 : (clsN (b : Int) == 4) = false := by simpa using h4
  by_cases h3 : clsN (b : Int) = 3
  · have t3 : (clsN (b : Int) == 3) = true := by rw [h3]; rfl
    clear h4 h3
    go_enter Tryd.func130, Tryd.ntmps130
    go_wp2_with (go_at_call 98; refine (of_any _ _ (by omega) (by omega)).mono ?_; rintro e w' ⟨rfl, rfl⟩)
    go_ret
    exact ⟨ret_bool (by rw [H.out, t4, t3]; rfl), rfl⟩
  have t3 : (clsN (b : Int) == 3) = false := by simpa using h3
  clear h4 h3
  go_enter Tryd.func130, Tryd.ntmps130
  go_wp2_with (go_at_call 98; refine (of_any _ _ (by omega) (by omega)).mono ?_; rintro e w' ⟨rfl, rfl⟩)
  go_ret
  exact ⟨ret_bool (by rw [H.out, t4, t3]; simp), rfl⟩

/-- The scanner in block R. -/
def ScIn (w : World) (R : Nat) (s : ByteArray) (i : Nat) (bad : Bool) : Prop := w.heap[R]? = some (.cells #[.string s, .int .i64 i, .bool bad] 137)
section
variable {w w' : World} {R : Nat} {s : ByteArray} {i : Nat} {bad : Bool}
theorem ScIn.lt (h : ScIn w R s i bad) : R < w.heap.size := (Array.getElem?_eq_some_iff.1 h).1
theorem ScIn.c0 (h : ScIn w R s i bad) : w.cell? ⟨R, 0, none⟩ = some (.string s) := by rw [cell_of_row _ _ _ _ _ _ h]; rfl
theorem ScIn.c1 (h : ScIn w R s i bad) : w.cell? ⟨R, 1, none⟩ = some (.int .i64 i) := by rw [cell_of_row _ _ _ _ _ _ h]; rfl
theorem ScIn.c2 (h : ScIn w R s i bad) : w.cell? ⟨R, 2, none⟩ = some (.bool bad) := by rw [cell_of_row _ _ _ _ _ _ h]; rfl
theorem ScIn.free (h : ScIn w R s i bad) (k : Nat) : w.frozen? ⟨R, k, none⟩ = false := frozen_of_row w R k _ _ h
theorem ScIn.keep (h : ScIn w R s i bad) (e : w'.heap[R]? = w.heap[R]?) : ScIn w' R s i bad := e.trans h
theorem ScIn.set1 (h : ScIn w R s i bad) (k : Nat) : ScIn (w.setCell ⟨R, 1, none⟩ (.int .i64 k)) R s k bad := by
  unfold ScIn at *
  rw [heap_setCell_same w R 1 _ _ _ h]
  rfl
theorem ScIn.set2 (h : ScIn w R s i bad) (k : Bool) : ScIn (w.setCell ⟨R, 2, none⟩ (.bool k)) R s i k := by
  unfold ScIn at *
  rw [heap_setCell_same w R 2 _ _ _ h]
  rfl
theorem ScIn.other (h : ScIn w R s i bad) {g : Nat} (hg : R ≠ g) (k : Nat) (u : Value) : ScIn (w.setCell ⟨g, k, none⟩ u) R s i bad := h.keep (Below.heap_setCell _ _ _ _ hg)
theorem SetIn.other {t : TypeId} {g : Nat} {p : Nat → Bool} (h : SetIn w g t p) {r : Nat} (hg : g ≠ r) (k : Nat) (u : Value) : SetIn (w.setCell ⟨r, k, none⟩ u) g t p := h.keep (Below.heap_setCell _ _ _ _ hg)
theorem SetIn.below {t : TypeId} {g : Nat} {p : Nat → Bool} (h : SetIn w g t p) (hb : Below w.heap.size w w') : SetIn w' g t p := h.keep (hb.block _ h.lt)
theorem SetIn.only {t : TypeId} {g r : Nat} {p : Nat → Bool} (h : SetIn w g t p) (hb : Only r w w') (hg : g ≠ r) : SetIn w' g t p := h.keep (hb.block _ h.lt hg)
theorem ScIn.below (h : ScIn w R s i bad) (hb : Below w.heap.size w w') : ScIn w' R s i bad := h.keep (hb.block _ h.lt)
theorem ScIn.only {g : Nat} (h : ScIn w R s i bad) (hb : Only g w w') (hg : R ≠ g) : ScIn w' R s i bad := h.keep (hb.block _ h.lt hg)
theorem Only.new {a b c : World} {g : Nat} (h : Only R a b) (k : Only g b c) (hg : a.heap.size ≤ g) : Only R a c :=
  ⟨k.os.trans h.os, k.tape.trans h.tape, k.output.trans h.output, Nat.le_trans h.size k.size, fun i hi hn => (k.block i (Nat.lt_of_lt_of_le hi h.size) (by omega)).trans (h.block i hi hn)⟩
theorem Only.bel {a b c : World} (h : Only R a b) (k : Below b.heap.size b c) : Only R a c := h.trans (.of_below k)
theorem Only.rowNew {a b : World} {g : Nat} (h : Only R a b) (hg : a.heap.size ≤ g) (cs : Array Value) : Only R a (b.setRow g cs) := h.new ((Only.refl g b).row cs) hg
end

set_option maxRecDepth 100000 in
set_option maxHeartbeats 1000000 in
theorem more_any (w : World) (R : Nat) (s : ByteArray) (i : Nat) (bad : Bool) (h : ScIn w R s i bad) (hs : s.size ≤ maxLen) :
    Calls Tryd.prog 120 #[.pointer (some ⟨R, 0, none⟩)] w (QuietRet w (.bool (decide (i < s.size)))) := by
  unfold maxLen at hs
  have q0 := h.c0
  have q1 := h.c1
  have hd : decide ((i : Int) < (s.size : Int)) = decide (i < s.size) := by rw [decide_eq_decide]; omega
  have HD := Lib.hid hd
  clear h hd
  go_enter Tryd.func120, Tryd.ntmps120
  go_wp2_with fail
  go_quiet (fail)
  go_wp2_with fail
  go_ret
  exact ⟨ret_bool (by first | rfl | exact HD.out), _, rfl⟩

set_option maxRecDepth 100000 in
set_option maxHeartbeats 1000000 in
theorem fail_any (w : World) (R : Nat) (s : ByteArray) (i : Nat) (bad : Bool) (j : Nat) (h : ScIn w R s i bad) :
    Calls Tryd.prog 132 #[.pointer (some ⟨R, 0, none⟩), .int .i64 j] w fun e w' => e = .returned (.tuple #[]) ∧ ScIn w' R s j true ∧ Only R w w' := by
  have f1 := h.free 1
  have q1 := h.c1
  have q2 := h.c2
  have HS1 := Lib.hid (h.set1 j)
  have f2 := (h.set1 j).free 2
  clear h
  go_enter Tryd.func132, Tryd.ntmps132
  go_wp2_with fail
  go_end0
  exact ⟨rfl, HS1.out.set2 true, ((Only.refl R w).set _ _).set _ _⟩

end Go.Proofs.YtpboaadjbkaidaaDoor

namespace Go.Proofs.YtpboaadjbkaidaaDoor
set_option maxRecDepth 100000
open Go.RowKit

theorem zero_eq : zeroA = (setC noP).toArray := zero_set
theorem zero_one : zeroA.all (·.oneCell') = true := by rw [zero_eq]; exact setC_one _

set_option maxRecDepth 100000 in
set_option maxHeartbeats 4000000 in
theorem classSet_none (l : Nat) (w : World) (hl : l < 256) (h115 : ¬ bits BinOp.or IntKind.u8 (l : Int) 32 = 115) (h100 : ¬ bits BinOp.or IntKind.u8 (l : Int) 32 = 100) (h108 : ¬ bits BinOp.or IntKind.u8 (l : Int) 32 = 108) (h99 : ¬ bits BinOp.or IntKind.u8 (l : Int) 32 = 99) (h109 : ¬ bits BinOp.or IntKind.u8 (l : Int) 32 = 109) (h117 : ¬ bits BinOp.or IntKind.u8 (l : Int) 32 = 117) :
    Calls Tryd.prog 136 #[.int .u8 l] w fun e w' => e = .returned (.tuple #[.agg (setC noP).toArray, .bool false]) ∧ Below w.heap.size w w' := by
  have b115 : (bits BinOp.or IntKind.u8 (l : Int) 32 == 115) = false := by simpa using h115
  have b100 : (bits BinOp.or IntKind.u8 (l : Int) 32 == 100) = false := by simpa using h100
  have b108 : (bits BinOp.or IntKind.u8 (l : Int) 32 == 108) = false := by simpa using h108
  have b99 : (bits BinOp.or IntKind.u8 (l : Int) 32 == 99) = false := by simpa using h99
  have b109 : (bits BinOp.or IntKind.u8 (l : Int) 32 == 109) = false := by simpa using h109
  have b117 : (bits BinOp.or IntKind.u8 (l : Int) 32 == 117) = false := by simpa using h117
  have HZ1 : Hid (SetIn (w.alloc (.cells #[.int .u8 0, .int .u8 0, .int .u8 0, .int .u8 0, .int .u8 0, .int .u8 0, .int .u8 0, .int .u8 0, .int .u8 0, .int .u8 0, .int .u8 0, .int .u8 0, .int .u8 0, .int .u8 0, .int .u8 0, .int .u8 0, .int .u8 0, .int .u8 0, .int .u8 0, .int .u8 0, .int .u8 0, .int .u8 0, .int .u8 0, .int .u8 0, .int .u8 0, .int .u8 0, .int .u8 0, .int .u8 0, .int .u8 0, .int .u8 0, .int .u8 0, .int .u8 0] 138)) w.heap.size 138 noP) := zero_in w 138
  have HB0 := Lib.hid ((Below.refl w.heap.size w).alloc (Nat.le_refl _) (.cells #[.int .u8 0, .int .u8 0, .int .u8 0, .int .u8 0, .int .u8 0, .int .u8 0, .int .u8 0, .int .u8 0, .int .u8 0, .int .u8 0, .int .u8 0, .int .u8 0, .int .u8 0, .int .u8 0, .int .u8 0, .int .u8 0, .int .u8 0, .int .u8 0, .int .u8 0, .int .u8 0, .int .u8 0, .int .u8 0, .int .u8 0, .int .u8 0, .int .u8 0, .int .u8 0, .int .u8 0, .int .u8 0, .int .u8 0, .int .u8 0, .int .u8 0, .int .u8 0] 138))
  go_enter Tryd.func136, Tryd.ntmps136
  go_upto_region 4 with fail
  generalize w.alloc (.cells #[.int .u8 0, .int .u8 0, .int .u8 0, .int .u8 0, .int .u8 0, .int .u8 0, .int .u8 0, .int .u8 0, .int .u8 0, .int .u8 0, .int .u8 0, .int .u8 0, .int .u8 0, .int .u8 0, .int .u8 0, .int .u8 0, .int .u8 0, .int .u8 0, .int .u8 0, .int .u8 0, .int .u8 0, .int .u8 0, .int .u8 0, .int .u8 0, .int .u8 0, .int .u8 0, .int .u8 0, .int .u8 0, .int .u8 0, .int .u8 0, .int .u8 0, .int .u8 0] 138) = w1 at HZ1 HB0
  go_wp2_with (refine wpList_store_row rfl 138 (.tmp 2) (.tmp 12) rfl (w.heap.size) zeroA rfl rfl 138 (setC noP).toArray HZ1.out (by rw [set_size]; rfl) (by rw [setC_size]; rfl) zero_one ?_; rw [zero_eq])
  exact bodyPost_ret (v := .tuple #[.agg (setC noP).toArray, .bool false]) (res_set_tmp Tryd.results136 _ _ w.heap.size 138 noP _ rfl rfl (HZ1.out.row noP)) rfl ⟨rfl, below_setRow HB0.out (Nat.le_refl _) _⟩

theorem classSet_any (l : Nat) (w : World) (hl : l < 256) :
    Calls Tryd.prog 136 #[.int .u8 l] w fun e w' => e = .returned (.tuple #[.agg (setC ((classP l).getD noP)).toArray, .bool (classP l).isSome]) ∧ Below w.heap.size w w' := by
  by_cases n115 : l = 115
  · subst n115
    exact classSet_115 115 w (by omega) (by decide +kernel)
  by_cases n83 : l = 83
  · subst n83
    exact classSet_115 83 w (by omega) (by decide +kernel)
  by_cases n100 : l = 100
  · subst n100
    exact classSet_100 100 w (by omega) (by decide +kernel)
  by_cases n68 : l = 68
  · subst n68
    exact classSet_100 68 w (by omega) (by decide +kernel)
  by_cases n108 : l = 108
  · subst n108
    exact classSet_108 108 w (by omega) (by decide +kernel)
  by_cases n76 : l = 76
  · subst n76
    exact classSet_108 76 w (by omega) (by decide +kernel)
  by_cases n99 : l = 99
  · subst n99
    exact classSet_99 99 w (by omega) (by decide +kernel)
  by_cases n67 : l = 67
  · subst n67
    exact classSet_99 67 w (by omega) (by decide +kernel)
  by_cases n109 : l = 109
  · subst n109
    exact classSet_109 109 w (by omega) (by decide +kernel)
  by_cases n77 : l = 77
  · subst n77
    exact classSet_109 77 w (by omega) (by decide +kernel)
  by_cases n117 : l = 117
  · subst n117
    exact classSet_117 117 w (by omega) (by decide +kernel)
  by_cases n85 : l = 85
  · subst n85
    exact classSet_117 85 w (by omega) (by decide +kernel)

  have hc : classP l = none := by
    unfold classP
    rw [if_neg n115, if_neg n83, if_neg n100, if_neg n68, if_neg n108, if_neg n76, if_neg n99, if_neg n67, if_neg n109, if_neg n77, if_neg n117, if_neg n85]
  rw [hc]
  have t := or32_tab ⟨l, hl⟩
  simp only at t
  exact classSet_none l w hl (fun e => by rcases t.1 e with e | e <;> contradiction) (fun e => by rcases t.2.1 e with e | e <;> contradiction) (fun e => by rcases t.2.2.1 e with e | e <;> contradiction) (fun e => by rcases t.2.2.2.1 e with e | e <;> contradiction) (fun e => by rcases t.2.2.2.2.1 e with e | e <;> contradiction) (fun e => by rcases t.2.2.2.2.2 e with e | e <;> contradiction)

end Go.Proofs.YtpboaadjbkaidaaDoor

namespace Go.Proofs.YtpboaadjbkaidaaDoor
set_option maxRecDepth 100000
open Go.RowKit

theorem results_cell_tmp2 {fn : Func} {p u v : Tmp} {ty : TypeId} (h : fn.results = #[.cell p ty, .tmp u, .tmp v]) (tmps : Array Value) (P : Program) (w : World) :
    (results fn tmps).run P w =
      ((asAddr (tmps.getD p undef)).run P w).andThen fun a w₁ => ((loadVar ty a).run P w₁).andThen fun x w₂ => .ok (.tuple #[x, tmps.getD u undef, tmps.getD v undef]) w₂ := by
  simp only [results, h]
  simp [Sem.run_bind, Result.andThen]
theorem res_set3 {fn : Func} {p u v : Tmp} (h : fn.results = #[.cell p 138, .tmp u, .tmp v]) (tmps : Array Value) (w : World) (g : Nat) (t : TypeId) (q : Nat → Bool) (x y : Value) (hp : tmps.getD p undef = .pointer (some ⟨g, 0, none⟩)) (hu : tmps.getD u undef = x) (hv : tmps.getD v undef = y) (hs : SetIn w g t q) :
    (results fn tmps).run Tryd.prog w = .ok (.tuple #[.agg (setC q).toArray, x, y]) w := by
  rw [results_cell_tmp2 h, hp, hu, hv]
  have hl := run_loadVar_row (P := Tryd.prog) w g t 138 (setC q).toArray (0, 0) _ hs Tryd.underlying138 rfl (by rw [set_size, setC_size])
  simp [asAddr, Result.andThen, hl]

set_option maxRecDepth 100000 in
set_option maxHeartbeats 4000000 in
theorem escaped_any (w : World) (R : Nat) (s : ByteArray) (i : Nat) (h : ScIn w R s i false) (hi : i < s.size) (hs : s.size ≤ 2147483648) :
    Calls Tryd.prog 128 #[.pointer (some ⟨R, 0, none⟩)] w fun e w' => e = .returned (.tuple #[.agg (setC (escF s i).p).toArray, .int .u8 (escF s i).b, .bool (escF s i).one]) ∧ ScIn w' R s (escF s i).j (escF s i).bad ∧ Only R w w' := by
  have hR := h.lt
  have hRG : R ≠ w.heap.size := by omega
  have HS0 : Hid (ScIn (w.alloc (.cells #[.int .u8 0, .int .u8 0, .int .u8 0, .int .u8 0, .int .u8 0, .int .u8 0, .int .u8 0, .int .u8 0, .int .u8 0, .int .u8 0, .int .u8 0, .int .u8 0, .int .u8 0, .int .u8 0, .int .u8 0, .int .u8 0, .int .u8 0, .int .u8 0, .int .u8 0, .int .u8 0, .int .u8 0, .int .u8 0, .int .u8 0, .int .u8 0, .int .u8 0, .int .u8 0, .int .u8 0, .int .u8 0, .int .u8 0, .int .u8 0, .int .u8 0, .int .u8 0] 138)) R s i false) := h.below ((Below.refl _ w).alloc (Nat.le_refl _) (.cells #[.int .u8 0, .int .u8 0, .int .u8 0, .int .u8 0, .int .u8 0, .int .u8 0, .int .u8 0, .int .u8 0, .int .u8 0, .int .u8 0, .int .u8 0, .int .u8 0, .int .u8 0, .int .u8 0, .int .u8 0, .int .u8 0, .int .u8 0, .int .u8 0, .int .u8 0, .int .u8 0, .int .u8 0, .int .u8 0, .int .u8 0, .int .u8 0, .int .u8 0, .int .u8 0, .int .u8 0, .int .u8 0, .int .u8 0, .int .u8 0, .int .u8 0, .int .u8 0] 138))
  have HZ0 : Hid (SetIn (w.alloc (.cells #[.int .u8 0, .int .u8 0, .int .u8 0, .int .u8 0, .int .u8 0, .int .u8 0, .int .u8 0, .int .u8 0, .int .u8 0, .int .u8 0, .int .u8 0, .int .u8 0, .int .u8 0, .int .u8 0, .int .u8 0, .int .u8 0, .int .u8 0, .int .u8 0, .int .u8 0, .int .u8 0, .int .u8 0, .int .u8 0, .int .u8 0, .int .u8 0, .int .u8 0, .int .u8 0, .int .u8 0, .int .u8 0, .int .u8 0, .int .u8 0, .int .u8 0, .int .u8 0] 138)) w.heap.size 138 noP) := zero_in w 138
  have HO0 := Lib.hid ((Only.refl R w).alloc (.cells #[.int .u8 0, .int .u8 0, .int .u8 0, .int .u8 0, .int .u8 0, .int .u8 0, .int .u8 0, .int .u8 0, .int .u8 0, .int .u8 0, .int .u8 0, .int .u8 0, .int .u8 0, .int .u8 0, .int .u8 0, .int .u8 0, .int .u8 0, .int .u8 0, .int .u8 0, .int .u8 0, .int .u8 0, .int .u8 0, .int .u8 0, .int .u8 0, .int .u8 0, .int .u8 0, .int .u8 0, .int .u8 0, .int .u8 0, .int .u8 0, .int .u8 0, .int .u8 0] 138))
  clear h
  obtain ⟨k1, HK1⟩ : ∃ k1, Hid (k1 = i + 1) := ⟨_, rfl⟩
  have hk1a : i < k1 := by have := HK1.out; omega
  have hk1b : k1 < i + 2 := by have := HK1.out; omega
  have hk1' : k1 ≤ s.size := by omega
  go_enter Tryd.func128, Tryd.ntmps128
  go_upto_region 1 with fail
  generalize w.alloc (.cells #[.int .u8 0, .int .u8 0, .int .u8 0, .int .u8 0, .int .u8 0, .int .u8 0, .int .u8 0, .int .u8 0, .int .u8 0, .int .u8 0, .int .u8 0, .int .u8 0, .int .u8 0, .int .u8 0, .int .u8 0, .int .u8 0, .int .u8 0, .int .u8 0, .int .u8 0, .int .u8 0, .int .u8 0, .int .u8 0, .int .u8 0, .int .u8 0, .int .u8 0, .int .u8 0, .int .u8 0, .int .u8 0, .int .u8 0, .int .u8 0, .int .u8 0, .int .u8 0] 138) = w1 at HS0 HZ0 HO0
  have q1 := HS0.out.c1
  have f1 := HS0.out.free 1
  go_upto_region 2 with fail
  rw [show (i : Int) + 1 = (k1 : Int) by omega]
  have HS1 := Lib.hid (HS0.out.set1 k1)
  have HZ1 := Lib.hid (HZ0.out.other (Ne.symm hRG) 1 (.int .i64 k1))
  have HO1 := Lib.hid (HO0.out.set 1 (.int .i64 k1))
  clear q1 f1 HS0 HZ0 HO0
  generalize w1.setCell ⟨R, 1, none⟩ (.int .i64 k1) = w2 at HS1 HZ1 HO1 ⊢
  by_cases hlt : k1 < s.size
  · obtain ⟨c, HC⟩ : ∃ c, Hid (c = bt s k1) := ⟨_, rfl⟩
    have hc2 : c < 256 := by rw [HC.out]; exact bt_lt s k1
    go_upto_region 5 with (go_at_call 120; refine (more_any _ R s k1 false (by exact HS1.out) (by unfold maxLen; omega)).mono ?_; rintro e w' ⟨rfl, nm, rfl⟩)
    have HS2 : Hid (ScIn (w2.drewN nm) R s k1 false) := HS1.out
    have HZ2 : Hid (SetIn (w2.drewN nm) w.heap.size 138 noP) := HZ1.out
    have HO2 : Hid (Only R w (w2.drewN nm)) := HO1.out.drewN nm
    clear HS1 HZ1 HO1
    generalize w2.drewN nm = w3 at HS2 HZ2 HO2 ⊢
    have q0 := HS2.out.c0
    have q1 := HS2.out.c1
    have hlt' : (k1 : Int) < (s.size : Int) := by omega
    go_wp2_with fail
    go_quiet (fail)
    rw [show s[k1].toNat = c by rw [HC.out, bt_get s k1 hlt]]
    have HS3 : Hid (ScIn (w3.drewN nq) R s k1 false) := HS2.out
    have HZ3 : Hid (SetIn (w3.drewN nq) w.heap.size 138 noP) := HZ2.out
    have HO3 : Hid (Only R w (w3.drewN nq)) := HO2.out.drewN nq
    clear q0 q1 HS2 HZ2 HO2
    generalize w3.drewN nq = w4 at HS3 HZ3 HO3 ⊢
    have q1 := HS3.out.c1
    have f1 := HS3.out.free 1
    obtain ⟨k2, HK2⟩ : ∃ k2, Hid (k2 = k1 + 1) := ⟨_, rfl⟩
    have hk2a : k1 < k2 := by have := HK2.out; omega
    have hk2b : k2 < k1 + 2 := by have := HK2.out; omega
    by_cases hm : clsN (c : Int) = 5
    · have t5 : (clsN (c : Int) == 5) = true := by rw [hm]; rfl
      have HR : Hid (escF s i = ⟨oneP c, c, true, k2, false⟩) := by
        show _ = _
        unfold escF
        rw [HK2.out, HC.out, HK1.out] at *
        rw [if_pos hlt, if_pos hm]
      clear hm
      go_upto_region 8 with (go_at_call 98; refine (of_any _ _ (by omega) (by omega)).mono ?_; rintro e w' ⟨rfl, rfl⟩)
      rw [show (k1 : Int) + 1 = (k2 : Int) by omega]
      have HS4 := Lib.hid (HS3.out.set1 k2)
      have HZ4 := Lib.hid (HZ3.out.other (Ne.symm hRG) 1 (.int .i64 k2))
      have HO4 := Lib.hid (HO3.out.set 1 (.int .i64 k2))
      clear q1 f1 HS3 HZ3 HO3
      generalize w4.setCell ⟨R, 1, none⟩ (.int .i64 k2) = w5 at HS4 HZ4 HO4 ⊢
      go_upto_region 9 with (go_at_call 133; refine (add_any noP w.heap.size c 138 _ (by exact HZ4.out) hc2).mono ?_; rintro e w6 ⟨rfl, hz6, ho6⟩)
      have HS6 := Lib.hid (HS4.out.only ho6 hRG)
      have HZ6 : Hid (SetIn w6 w.heap.size 138 (oneP c)) := hz6
      have HO6 := Lib.hid (HO4.out.new ho6 (Nat.le_refl _))
      clear hz6 ho6 HS4 HZ4 HO4
      go_wp2_with (first
        | (refine wpList_load_row rfl 138 (.tmp 2) rfl (w.heap.size) rfl 138 (setC (oneP c)).toArray (0, 0) _ HZ6.out Tryd.underlying138 rfl (by rw [set_size, setC_size]) ?_)
        | (refine wpList_store_row rfl 138 (.tmp 2) (.tmp 44) rfl (w.heap.size) (setC (oneP c)).toArray rfl rfl 138 (setC (oneP c)).toArray HZ6.out (by rw [set_size, setC_size]) (by simp only [setC_size]) (setC_one _) ?_))
      exact bodyPost_ret (v := .tuple #[.agg (setC (oneP c)).toArray, .int .u8 c, .bool true]) (res_set3 Tryd.results128 _ _ w.heap.size 138 (oneP c) _ _ rfl rfl rfl (HZ6.out.row (oneP c))) rfl ⟨by (rw [HR.out] <;> rfl), by rw [HR.out]; exact HS6.out.keep (setRow_other _ _ _ _ hRG), HO6.out.rowNew (Nat.le_refl _) _⟩
    · have t5 : (clsN (c : Int) == 5) = false := by simpa using hm
      rcases hcl : classP c with _ | p
      · have HR : Hid (escF s i = badR k1) := by
          show _ = _
          unfold escF
          rw [← HK1.out, if_pos hlt, ← HC.out, if_neg hm, hcl]
        have C := classSet_any c w4 hc2
        rw [hcl] at C
        have HCL := Lib.hid C
        clear C hcl hm
        go_upto_region 10 with (go_at_call 98; refine (of_any _ _ (by omega) (by omega)).mono ?_; rintro e w' ⟨rfl, rfl⟩)
        go_upto_region 11 with (first
          | (go_at_call 136; refine HCL.out.mono ?_; rintro e w5 ⟨rfl, hb5⟩)
          | (refine wpList_store_row rfl 138 (.tmp 2) (.tmp 49) rfl (w.heap.size) (setC noP).toArray rfl rfl 138 (setC noP).toArray (HZ3.out.below hb5) (by rw [set_size, setC_size]) (by simp only [setC_size]) (setC_one _) ?_))
        have HS4 := Lib.hid ((HS3.out.below hb5).keep (w' := w5.setRow w.heap.size (setC noP).toArray) (setRow_other _ _ _ _ hRG))
        have HZ4 := Lib.hid ((HZ3.out.below hb5).row noP)
        have HO4 := Lib.hid ((HO3.out.bel hb5).rowNew (Nat.le_refl _) (setC noP).toArray)
        clear q1 f1 HS3 HZ3 HO3
        generalize w5.setRow w.heap.size (setC noP).toArray = w6 at HS4 HZ4 HO4 ⊢
        have q1 := HS4.out.c1
        go_upto_region 13 with (first
          | (go_at_call 98; refine (of_any _ _ (by omega) (by omega)).mono ?_; rintro e w' ⟨rfl, rfl⟩)
          | (go_at_call 132; refine (fail_any _ R s k1 false k1 (by exact HS4.out)).mono ?_; rintro e wf ⟨rfl, hsf, hof⟩))
        have HZf := Lib.hid (HZ4.out.only hof (Ne.symm hRG))
        have HOf := Lib.hid (HO4.out.trans hof)
        have HSf := Lib.hid hsf
        clear hsf hof q1 HS4 HZ4 HO4
        go_wp2_with (refine wpList_store_row rfl 138 (.tmp 2) (.tmp 64) rfl (w.heap.size) zeroA rfl rfl 138 (setC noP).toArray HZf.out (by rw [set_size]; rfl) (by rw [setC_size]; rfl) zero_one ?_; rw [zero_eq])
        exact bodyPost_ret (v := .tuple #[.agg (setC noP).toArray, .int .u8 ((0 : Nat) : Int), .bool false]) (res_set3 Tryd.results128 _ _ w.heap.size 138 noP _ _ rfl rfl rfl (HZf.out.row noP)) rfl ⟨by (rw [HR.out] <;> rfl), by rw [HR.out]; exact HSf.out.keep (setRow_other _ _ _ _ hRG), HOf.out.rowNew (Nat.le_refl _) _⟩
      · have HR : Hid (escF s i = ⟨p, c, false, k2, false⟩) := by
          show _ = _
          unfold escF
          rw [← HK1.out, if_pos hlt, ← HC.out, if_neg hm, hcl, HK2.out, HK1.out]
        have C := classSet_any c w4 hc2
        rw [hcl] at C
        have HCL := Lib.hid C
        have t4 : (clsN (c : Int) == 4) = true := by
          have h4 := classP_letter ⟨c, hc2⟩ (by simp [hcl])
          simpa using h4
        have t4' : (clsN (c : Int) != 4) = false := by
          have h4 := classP_letter ⟨c, hc2⟩ (by simp [hcl])
          simpa using h4
        clear C hcl hm
        go_upto_region 10 with (go_at_call 98; refine (of_any _ _ (by omega) (by omega)).mono ?_; rintro e w' ⟨rfl, rfl⟩)
        go_upto_region 11 with (first
          | (go_at_call 136; refine HCL.out.mono ?_; rintro e w5 ⟨rfl, hb5⟩)
          | (refine wpList_store_row rfl 138 (.tmp 2) (.tmp 49) rfl (w.heap.size) (setC p).toArray rfl rfl 138 (setC noP).toArray (HZ3.out.below hb5) (by rw [set_size, setC_size]) (by simp only [setC_size]) (setC_one _) ?_))
        have HS4 := Lib.hid ((HS3.out.below hb5).keep (w' := w5.setRow w.heap.size (setC p).toArray) (setRow_other _ _ _ _ hRG))
        have HZ4 := Lib.hid ((HZ3.out.below hb5).row p)
        have HO4 := Lib.hid ((HO3.out.bel hb5).rowNew (Nat.le_refl _) (setC p).toArray)
        clear q1 f1 HS3 HZ3 HO3
        generalize w5.setRow w.heap.size (setC p).toArray = w6 at HS4 HZ4 HO4 ⊢
        have q1 := HS4.out.c1
        have f1 := HS4.out.free 1
        go_upto_region 15 with (go_at_call 98; refine (of_any _ _ (by omega) (by omega)).mono ?_; rintro e w' ⟨rfl, rfl⟩)
        rw [show (k1 : Int) + 1 = (k2 : Int) by omega]
        have HS5 := Lib.hid (HS4.out.set1 k2)
        have HZ5 := Lib.hid (HZ4.out.other (Ne.symm hRG) 1 (.int .i64 k2))
        have HO5 := Lib.hid (HO4.out.set 1 (.int .i64 k2))
        clear q1 f1 HS4 HZ4 HO4
        generalize w6.setCell ⟨R, 1, none⟩ (.int .i64 k2) = w7 at HS5 HZ5 HO5 ⊢
        go_wp2_with (first
          | (refine wpList_load_row rfl 138 (.tmp 2) rfl (w.heap.size) rfl 138 (setC p).toArray (0, 0) _ HZ5.out Tryd.underlying138 rfl (by rw [set_size, setC_size]) ?_)
          | (refine wpList_store_row rfl 138 (.tmp 2) (.tmp 72) rfl (w.heap.size) (setC p).toArray rfl rfl 138 (setC p).toArray HZ5.out (by rw [set_size, setC_size]) (by simp only [setC_size]) (setC_one _) ?_))
        exact bodyPost_ret (v := .tuple #[.agg (setC p).toArray, .int .u8 c, .bool false]) (res_set3 Tryd.results128 _ _ w.heap.size 138 p _ _ rfl rfl rfl (HZ5.out.row p)) rfl ⟨by (rw [HR.out] <;> rfl), by rw [HR.out]; exact HS5.out.keep (setRow_other _ _ _ _ hRG), HO5.out.rowNew (Nat.le_refl _) _⟩
  · have HR : Hid (escF s i = badR k1) := by
      show _ = _
      unfold escF
      rw [← HK1.out, if_neg hlt]
    go_upto_region 3 with (go_at_call 120; refine (more_any _ R s k1 false (by exact HS1.out) (by unfold maxLen; omega)).mono ?_; rintro e w' ⟨rfl, nm, rfl⟩)
    have HS2 : Hid (ScIn (w2.drewN nm) R s k1 false) := HS1.out
    have HZ2 : Hid (SetIn (w2.drewN nm) w.heap.size 138 noP) := HZ1.out
    have HO2 : Hid (Only R w (w2.drewN nm)) := HO1.out.drewN nm
    clear HS1 HZ1 HO1
    generalize w2.drewN nm = w3 at HS2 HZ2 HO2 ⊢
    have q1 := HS2.out.c1
    go_upto_region 4 with (go_at_call 132; refine (fail_any _ R s k1 false k1 (by exact HS2.out)).mono ?_; rintro e wf ⟨rfl, hsf, hof⟩)
    have HZf := Lib.hid (HZ2.out.only hof (Ne.symm hRG))
    have HOf := Lib.hid (HO2.out.trans hof)
    have HSf := Lib.hid hsf
    clear hsf hof q1 HS2 HZ2 HO2
    go_wp2_with (refine wpList_store_row rfl 138 (.tmp 2) (.tmp 22) rfl (w.heap.size) zeroA rfl rfl 138 (setC noP).toArray HZf.out (by rw [set_size]; rfl) (by rw [setC_size]; rfl) zero_one ?_; rw [zero_eq])
    exact bodyPost_ret (v := .tuple #[.agg (setC noP).toArray, .int .u8 ((0 : Nat) : Int), .bool false]) (res_set3 Tryd.results128 _ _ w.heap.size 138 noP _ _ rfl rfl rfl (HZf.out.row noP)) rfl ⟨by (rw [HR.out] <;> rfl), by rw [HR.out]; exact HSf.out.keep (setRow_other _ _ _ _ hRG), HOf.out.rowNew (Nat.le_refl _) _⟩

end Go.Proofs.YtpboaadjbkaidaaDoor

namespace Go.Proofs.YtpboaadjbkaidaaDoor
set_option maxRecDepth 100000
open Go.RowKit

set_option maxRecDepth 100000 in
set_option maxHeartbeats 4000000 in
theorem single_any5 (w : World) (R : Nat) (s : ByteArray) (i : Nat) (h : ScIn w R s i false) (hi : i < s.size) (hs : s.size ≤ 2147483648) :
    Calls Tryd.prog 138 #[.pointer (some ⟨R, 0, none⟩)] w fun e w' => e = .returned (.tuple #[.agg (setC (singleF s i).p).toArray, .int .u8 (singleF s i).b, .bool (singleF s i).one]) ∧ ScIn w' R s (singleF s i).j (singleF s i).bad ∧ Only R w w' := by
  have hR := h.lt
  have hRG : R ≠ w.heap.size := by omega
  have HS0 : Hid (ScIn (w.alloc (.cells #[.int .u8 0, .int .u8 0, .int .u8 0, .int .u8 0, .int .u8 0, .int .u8 0, .int .u8 0, .int .u8 0, .int .u8 0, .int .u8 0, .int .u8 0, .int .u8 0, .int .u8 0, .int .u8 0, .int .u8 0, .int .u8 0, .int .u8 0, .int .u8 0, .int .u8 0, .int .u8 0, .int .u8 0, .int .u8 0, .int .u8 0, .int .u8 0, .int .u8 0, .int .u8 0, .int .u8 0, .int .u8 0, .int .u8 0, .int .u8 0, .int .u8 0, .int .u8 0] 138)) R s i false) := h.below ((Below.refl _ w).alloc (Nat.le_refl _) (.cells #[.int .u8 0, .int .u8 0, .int .u8 0, .int .u8 0, .int .u8 0, .int .u8 0, .int .u8 0, .int .u8 0, .int .u8 0, .int .u8 0, .int .u8 0, .int .u8 0, .int .u8 0, .int .u8 0, .int .u8 0, .int .u8 0, .int .u8 0, .int .u8 0, .int .u8 0, .int .u8 0, .int .u8 0, .int .u8 0, .int .u8 0, .int .u8 0, .int .u8 0, .int .u8 0, .int .u8 0, .int .u8 0, .int .u8 0, .int .u8 0, .int .u8 0, .int .u8 0] 138))
  have HZ0 : Hid (SetIn (w.alloc (.cells #[.int .u8 0, .int .u8 0, .int .u8 0, .int .u8 0, .int .u8 0, .int .u8 0, .int .u8 0, .int .u8 0, .int .u8 0, .int .u8 0, .int .u8 0, .int .u8 0, .int .u8 0, .int .u8 0, .int .u8 0, .int .u8 0, .int .u8 0, .int .u8 0, .int .u8 0, .int .u8 0, .int .u8 0, .int .u8 0, .int .u8 0, .int .u8 0, .int .u8 0, .int .u8 0, .int .u8 0, .int .u8 0, .int .u8 0, .int .u8 0, .int .u8 0, .int .u8 0] 138)) w.heap.size 138 noP) := zero_in w 138
  have HO0 := Lib.hid ((Only.refl R w).alloc (.cells #[.int .u8 0, .int .u8 0, .int .u8 0, .int .u8 0, .int .u8 0, .int .u8 0, .int .u8 0, .int .u8 0, .int .u8 0, .int .u8 0, .int .u8 0, .int .u8 0, .int .u8 0, .int .u8 0, .int .u8 0, .int .u8 0, .int .u8 0, .int .u8 0, .int .u8 0, .int .u8 0, .int .u8 0, .int .u8 0, .int .u8 0, .int .u8 0, .int .u8 0, .int .u8 0, .int .u8 0, .int .u8 0, .int .u8 0, .int .u8 0, .int .u8 0, .int .u8 0] 138))
  clear h
  obtain ⟨c, HC⟩ : ∃ c, Hid (c = bt s i) := ⟨_, rfl⟩
  have hc2 : c < 256 := by rw [HC.out]; exact bt_lt s i
  go_enter Tryd.func138, Tryd.ntmps138
  go_upto_region 1 with fail
  generalize w.alloc (.cells #[.int .u8 0, .int .u8 0, .int .u8 0, .int .u8 0, .int .u8 0, .int .u8 0, .int .u8 0, .int .u8 0, .int .u8 0, .int .u8 0, .int .u8 0, .int .u8 0, .int .u8 0, .int .u8 0, .int .u8 0, .int .u8 0, .int .u8 0, .int .u8 0, .int .u8 0, .int .u8 0, .int .u8 0, .int .u8 0, .int .u8 0, .int .u8 0, .int .u8 0, .int .u8 0, .int .u8 0, .int .u8 0, .int .u8 0, .int .u8 0, .int .u8 0, .int .u8 0] 138) = w1 at HS0 HZ0 HO0
  have q0 := HS0.out.c0
  have q1 := HS0.out.c1
  have hi' : (i : Int) < (s.size : Int) := by omega
  go_wp2_with fail
  go_quiet (fail)
  rw [show s[i].toNat = c by rw [HC.out, bt_get s i hi]]
  have HS1 : Hid (ScIn (w1.drewN nq) R s i false) := HS0.out
  have HZ1 : Hid (SetIn (w1.drewN nq) w.heap.size 138 noP) := HZ0.out
  have HO1 : Hid (Only R w (w1.drewN nq)) := HO0.out.drewN nq
  clear q0 q1 HS0 HZ0 HO0
  generalize w1.drewN nq = w2 at HS1 HZ1 HO1 ⊢
  have q1 := HS1.out.c1
  have f1 := HS1.out.free 1
  by_cases h92 : c = 92
  · have HR : Hid (singleF s i = escF s i) := by
      show _ = _
      unfold singleF
      rw [← HC.out, if_pos h92]
    have C := escaped_any w2 R s i HS1.out hi hs
    generalize escF s i = r at C HR
    have HE := Lib.hid C
    clear C q1 f1
    subst h92
    go_wp2_with (first
      | (go_at_call 128; refine HE.out.mono ?_; rintro e w3 ⟨rfl, hs3, ho3⟩)
      | (refine wpList_store_row rfl 138 (.tmp 2) (.tmp 18) rfl (w.heap.size) (setC r.p).toArray rfl rfl 138 (setC noP).toArray (HZ1.out.only ho3 (Ne.symm hRG)) (by rw [set_size, setC_size]) (by simp only [setC_size]) (setC_one _) ?_))
    exact bodyPost_ret (v := .tuple #[.agg (setC r.p).toArray, .int .u8 r.b, .bool r.one]) (res_set3 Tryd.results138 _ _ w.heap.size 138 r.p _ _ rfl rfl rfl ((HZ1.out.only ho3 (Ne.symm hRG)).row r.p)) rfl ⟨by (rw [HR.out] <;> rfl), by rw [HR.out]; exact hs3.keep (setRow_other _ _ _ _ hRG), (HO1.out.trans ho3).rowNew (Nat.le_refl _) _⟩
  have h92' : ((c : Int) == 92) = false := beq_eq_false_iff_ne.2 (by omega)
  obtain ⟨z, HI, hz⟩ : ∃ z, Hid (∀ w, Calls Tryd.prog 131 #[.string (⟨#[93, 91, 94, 45]⟩ : ByteArray), .int .u8 c] w fun e w' => e = .returned (.int .i64 z) ∧ w = w') ∧ decide (0 ≤ z) = inIn c := ⟨_, fun w => index_any (⟨#[93, 91, 94, 45]⟩ : ByteArray) c w, index_in ⟨c, hc2⟩⟩
  by_cases hw : wrB c = true
  · by_cases hin : inIn c = true
    · have hz1 : 0 ≤ z := by rw [hin] at hz; simpa using hz
      have HR : Hid (singleF s i = badR i) := by
        show _ = _
        unfold singleF
        rw [← HC.out, if_neg h92, if_neg (by simp [hin])]
      clear hz hin h92
      go_upto_region 6 with (first
        | (go_at_call 130; refine (written_any _ _ (by omega)).mono ?_; rintro e w' ⟨rfl, rfl⟩)
        | (go_at_call 131; refine (HI.out _).mono ?_; rintro e w' ⟨rfl, rfl⟩)
        | (go_at_call 132; refine (fail_any _ R s i false i (by exact HS1.out)).mono ?_; rintro e wf ⟨rfl, hsf, hof⟩))
      have HZf := Lib.hid (HZ1.out.only hof (Ne.symm hRG))
      have HOf := Lib.hid (HO1.out.trans hof)
      have HSf := Lib.hid hsf
      clear hsf hof q1 f1 HS1 HZ1 HO1
      go_wp2_with (refine wpList_store_row rfl 138 (.tmp 2) (.tmp 35) rfl (w.heap.size) zeroA rfl rfl 138 (setC noP).toArray HZf.out (by rw [set_size]; rfl) (by rw [setC_size]; rfl) zero_one ?_; rw [zero_eq])
      exact bodyPost_ret (v := .tuple #[.agg (setC noP).toArray, .int .u8 ((0 : Nat) : Int), .bool false]) (res_set3 Tryd.results138 _ _ w.heap.size 138 noP _ _ rfl rfl rfl (HZf.out.row noP)) rfl ⟨by (rw [HR.out] <;> rfl), by rw [HR.out]; exact HSf.out.keep (setRow_other _ _ _ _ hRG), HOf.out.rowNew (Nat.le_refl _) _⟩
    · have hin' : inIn c = false := by simpa using hin
      have hz1 : ¬ 0 ≤ z := by rw [hin'] at hz; simpa using hz
      have HR : Hid (singleF s i = ⟨oneP c, c, true, i + 1, false⟩) := by
        show _ = _
        unfold singleF
        rw [← HC.out, if_neg h92, if_pos ⟨hw, hin'⟩]
      clear hz hin hin' h92
      obtain ⟨k1, HK1⟩ : ∃ k1, Hid (k1 = i + 1) := ⟨_, rfl⟩
      have hk1a : i < k1 := by have := HK1.out; omega
      have hk1b : k1 < i + 2 := by have := HK1.out; omega
      go_upto_region 8 with (first
        | (go_at_call 130; refine (written_any _ _ (by omega)).mono ?_; rintro e w' ⟨rfl, rfl⟩)
        | (go_at_call 131; refine (HI.out _).mono ?_; rintro e w' ⟨rfl, rfl⟩))
      rw [show (i : Int) + 1 = (k1 : Int) by omega]
      have HS4 := Lib.hid (HS1.out.set1 k1)
      have HZ4 := Lib.hid (HZ1.out.other (Ne.symm hRG) 1 (.int .i64 k1))
      have HO4 := Lib.hid (HO1.out.set 1 (.int .i64 k1))
      clear q1 f1 HS1 HZ1 HO1
      generalize w2.setCell ⟨R, 1, none⟩ (.int .i64 k1) = w5 at HS4 HZ4 HO4 ⊢
      go_upto_region 9 with (go_at_call 133; refine (add_any noP w.heap.size c 138 _ (by exact HZ4.out) hc2).mono ?_; rintro e w6 ⟨rfl, hz6, ho6⟩)
      have HS6 := Lib.hid (HS4.out.only ho6 hRG)
      have HZ6 : Hid (SetIn w6 w.heap.size 138 (oneP c)) := hz6
      have HO6 := Lib.hid (HO4.out.new ho6 (Nat.le_refl _))
      clear hz6 ho6 HS4 HZ4 HO4
      rw [HK1.out] at HS6
      go_wp2_with (first
        | (refine wpList_load_row rfl 138 (.tmp 2) rfl (w.heap.size) rfl 138 (setC (oneP c)).toArray (0, 0) _ HZ6.out Tryd.underlying138 rfl (by rw [set_size, setC_size]) ?_)
        | (refine wpList_store_row rfl 138 (.tmp 2) (.tmp 45) rfl (w.heap.size) (setC (oneP c)).toArray rfl rfl 138 (setC (oneP c)).toArray HZ6.out (by rw [set_size, setC_size]) (by simp only [setC_size]) (setC_one _) ?_))
      exact bodyPost_ret (v := .tuple #[.agg (setC (oneP c)).toArray, .int .u8 c, .bool true]) (res_set3 Tryd.results138 _ _ w.heap.size 138 (oneP c) _ _ rfl rfl rfl (HZ6.out.row (oneP c))) rfl ⟨by (rw [HR.out] <;> rfl), by rw [HR.out]; exact HS6.out.keep (setRow_other _ _ _ _ hRG), HO6.out.rowNew (Nat.le_refl _) _⟩
  · have hw' : wrB c = false := by simpa using hw
    have HR : Hid (singleF s i = badR i) := by
      show _ = _
      unfold singleF
      rw [← HC.out, if_neg h92, if_neg (by simp [hw'])]
    clear hz HI hw h92
    go_upto_region 6 with (first
      | (go_at_call 130; refine (written_any _ _ (by omega)).mono ?_; rintro e w' ⟨rfl, rfl⟩)
      | (go_at_call 132; refine (fail_any _ R s i false i (by exact HS1.out)).mono ?_; rintro e wf ⟨rfl, hsf, hof⟩))
    have HZf := Lib.hid (HZ1.out.only hof (Ne.symm hRG))
    have HOf := Lib.hid (HO1.out.trans hof)
    have HSf := Lib.hid hsf
    clear hsf hof q1 f1 HS1 HZ1 HO1
    go_wp2_with (refine wpList_store_row rfl 138 (.tmp 2) (.tmp 35) rfl (w.heap.size) zeroA rfl rfl 138 (setC noP).toArray HZf.out (by rw [set_size]; rfl) (by rw [setC_size]; rfl) zero_one ?_; rw [zero_eq])
    exact bodyPost_ret (v := .tuple #[.agg (setC noP).toArray, .int .u8 ((0 : Nat) : Int), .bool false]) (res_set3 Tryd.results138 _ _ w.heap.size 138 noP _ _ rfl rfl rfl (HZf.out.row noP)) rfl ⟨by (rw [HR.out] <;> rfl), by rw [HR.out]; exact HSf.out.keep (setRow_other _ _ _ _ hRG), HOf.out.rowNew (Nat.le_refl _) _⟩

end Go.Proofs.YtpboaadjbkaidaaDoor

namespace Go.Proofs.YtpboaadjbkaidaaDoor
set_option maxRecDepth 100000
open Go.RowKit

/-- Blocks g and h alone may have changed. -/
structure Two (g h : Nat) (w w' : World) : Prop where
  os : w'.os = w.os
  tape : w'.tape = w.tape
  output : w'.output = w.output
  size : w.heap.size ≤ w'.heap.size
  block : ∀ k, k < w.heap.size → k ≠ g → k ≠ h → w'.heap[k]? = w.heap[k]?
section
variable {g h : Nat} {a b c : World}
theorem Two.refl (g h : Nat) (w : World) : Two g h w w := ⟨rfl, rfl, rfl, Nat.le_refl _, fun _ _ _ _ => rfl⟩
theorem Two.trans (x : Two g h a b) (y : Two g h b c) : Two g h a c :=
  ⟨y.os.trans x.os, y.tape.trans x.tape, y.output.trans x.output, Nat.le_trans x.size y.size, fun i hi h1 h2 => (y.block i (Nat.lt_of_lt_of_le hi x.size) h1 h2).trans (x.block i hi h1 h2)⟩
theorem Two.ofL (x : Only g a b) : Two g h a b := ⟨x.os, x.tape, x.output, x.size, fun k hk h1 _ => x.block k hk h1⟩
theorem Two.ofR (x : Only h a b) : Two g h a b := ⟨x.os, x.tape, x.output, x.size, fun k hk _ h2 => x.block k hk h2⟩
theorem Two.bel (x : Below a.heap.size a b) : Two g h a b := ⟨x.os, x.tape, x.output, x.size, fun k hk _ _ => x.block k hk⟩
theorem Two.new {r : Nat} (x : Two g h a b) (y : Only r b c) (hr : a.heap.size ≤ r) : Two g h a c :=
  ⟨y.os.trans x.os, y.tape.trans x.tape, y.output.trans x.output, Nat.le_trans x.size y.size, fun i hi h1 h2 => (y.block i (Nat.lt_of_lt_of_le hi x.size) (by omega)).trans (x.block i hi h1 h2)⟩
theorem Two.rowNew {g' : Nat} (x : Two g' h a b) {g : Nat} (hg : a.heap.size ≤ g) (cs : Array Value) : Two g' h a (b.setRow g cs) := x.new ((Only.refl g b).row cs) hg
theorem Two.drewN (x : Two g h a b) (n : Nat) : Two g h a (b.drewN n) := ⟨x.os, x.tape, x.output, x.size, x.block⟩
theorem Two.setL (x : Two g h a b) (j : Nat) (u : Value) : Two g h a (b.setCell ⟨g, j, none⟩ u) := x.trans (.ofL ((Only.refl g b).set j u))
/-- A block that the call made itself is forgotten. -/
theorem Two.onlyL (x : Two g h a b) (hh : a.heap.size ≤ h) : Only g a b := ⟨x.os, x.tape, x.output, x.size, fun k hk h1 => x.block k hk h1 (by omega)⟩
theorem SetIn.two {t : TypeId} {r : Nat} {p : Nat → Bool} (x : SetIn a r t p) (y : Two g h a b) (h1 : r ≠ g) (h2 : r ≠ h) : SetIn b r t p := x.keep (y.block _ x.lt h1 h2)
theorem ScIn.two {R i : Nat} {s : ByteArray} {bad : Bool} (x : ScIn a R s i bad) (y : Two g h a b) (h1 : R ≠ g) (h2 : R ≠ h) : ScIn b R s i bad := x.keep (y.block _ x.lt h1 h2)
end
theorem more_quiet (w : World) (R : Nat) (s : ByteArray) (i : Nat) (bad : Bool) (n : Nat) (h : ScIn w R s i bad) (hs : s.size ≤ maxLen) :
    Calls Tryd.prog 120 #[.pointer (some ⟨R, 0, none⟩)] (w.drewN n) fun e w' => e = .returned (.bool (decide (i < s.size))) ∧ ∃ m, w' = w.drewN m :=
  (more_any (w.drewN n) R s i bad h hs).mono fun e w' ⟨he, m, hw⟩ => ⟨he, n + m, by rw [hw, World.drewN_drewN]⟩
theorem more_quiet_add (w : World) (R : Nat) (s : ByteArray) (i : Nat) (bad : Bool) (a n : Nat) (h : ScIn w R s i bad) (hs : s.size ≤ maxLen) :
    Calls Tryd.prog 120 #[.pointer (some ⟨R, 0, none⟩)] (w.drewN (a + n)) fun e w' => e = .returned (.bool (decide (i < s.size))) ∧ ∃ m, w' = w.drewN (a + m) :=
  (more_any (w.drewN (a + n)) R s i bad h hs).mono fun e w' ⟨he, m, hw⟩ => ⟨he, n + m, by rw [hw, World.drewN_drewN, Nat.add_assoc]⟩

set_option maxRecDepth 100000 in
set_option maxHeartbeats 4000000 in
theorem member_any (w : World) (R g : Nat) (s : ByteArray) (i : Nat) (t : TypeId) (p : Nat → Bool) (h : ScIn w R s i false) (hg : SetIn w g t p) (hne : R ≠ g) (hi : i < s.size) (hs : s.size ≤ 2147483648) :
    Calls Tryd.prog 137 #[.pointer (some ⟨R, 0, none⟩), .pointer (some ⟨g, 0, none⟩)] w fun e w' => e = .returned (.tuple #[]) ∧ SetIn w' g t (memberF s i p).1 ∧ ScIn w' R s (memberF s i p).2.1 (memberF s i p).2.2 ∧ Two R g w w' := by
  have hR := h.lt
  have hG := hg.lt
  obtain ⟨⟨p1, b1, one1, j1, bad1⟩, HD⟩ : ∃ r, Hid (r = singleF s i) := ⟨_, rfl⟩
  have HE : Hid (Calls Tryd.prog 138 #[.pointer (some ⟨R, 0, none⟩)] w fun e w' => e = .returned (.tuple #[.agg (setC p1).toArray, .int .u8 b1, .bool one1]) ∧ ScIn w' R s j1 bad1 ∧ Only R w w') := by
    have C := single_any5 w R s i h hi hs
    rw [← HD.out] at C
    exact C
  have hb1 : b1 < 256 := by have := (singleF_ok s i hi).1; rw [← HD.out] at this; exact this
  have hj1 : j1 ≤ s.size := by have := (singleF_ok s i hi).2.1; rw [← HD.out] at this; exact this
  have HR0 : Hid (memberF s i p = (if bad1 = true then (p, j1, true) else if one1 = true ∧ j1 < s.size ∧ bt s j1 = 45 then (if j1 + 1 < s.size then (if (singleF s (j1 + 1)).bad = true then (p, (singleF s (j1 + 1)).j, true) else if (singleF s (j1 + 1)).one = false then (p, j1 + 2, true) else if (singleF s (j1 + 1)).b < b1 then (p, j1 + 1, true) else (orP p (rng b1 ((singleF s (j1 + 1)).b + 1)), (singleF s (j1 + 1)).j, false)) else (p, j1 + 1, true)) else (orP p p1, j1, false))) := by
    show _ = _
    unfold memberF
    rw [← HD.out]
  clear HD
  generalize memberF s i p = m at HR0 ⊢
  have HG0 := Lib.hid hg
  have HT0 := Lib.hid (Two.refl R g w)
  clear h hg
  go_enter Tryd.func137, Tryd.ntmps137
  go_upto_region 1 with (first
    | (go_at_call 138; refine HE.out.mono ?_; rintro e w1 ⟨rfl, hs1, ho1⟩)
    | (refine wpList_store_row rfl 138 (.tmp 4) (.tmp 14) rfl (w1.heap.size) (setC p1).toArray rfl rfl 138 (setC noP).toArray (zero_in w1 138) (by rw [set_size, setC_size]) (by simp only [setC_size]) (setC_one _) ?_))
  have HS1 := Lib.hid ((hs1.below ((Below.refl _ w1).alloc (Nat.le_refl _) (.cells #[.int .u8 0, .int .u8 0, .int .u8 0, .int .u8 0, .int .u8 0, .int .u8 0, .int .u8 0, .int .u8 0, .int .u8 0, .int .u8 0, .int .u8 0, .int .u8 0, .int .u8 0, .int .u8 0, .int .u8 0, .int .u8 0, .int .u8 0, .int .u8 0, .int .u8 0, .int .u8 0, .int .u8 0, .int .u8 0, .int .u8 0, .int .u8 0, .int .u8 0, .int .u8 0, .int .u8 0, .int .u8 0, .int .u8 0, .int .u8 0, .int .u8 0, .int .u8 0] 138))).keep (w' := (w1.alloc (.cells #[.int .u8 0, .int .u8 0, .int .u8 0, .int .u8 0, .int .u8 0, .int .u8 0, .int .u8 0, .int .u8 0, .int .u8 0, .int .u8 0, .int .u8 0, .int .u8 0, .int .u8 0, .int .u8 0, .int .u8 0, .int .u8 0, .int .u8 0, .int .u8 0, .int .u8 0, .int .u8 0, .int .u8 0, .int .u8 0, .int .u8 0, .int .u8 0, .int .u8 0, .int .u8 0, .int .u8 0, .int .u8 0, .int .u8 0, .int .u8 0, .int .u8 0, .int .u8 0] 138)).setRow w1.heap.size (setC p1).toArray) (setRow_other _ _ _ _ (by have := hs1.lt; omega)))
  have HG1 := Lib.hid (((HG0.out.only ho1 (Ne.symm hne)).below ((Below.refl _ w1).alloc (Nat.le_refl _) (.cells #[.int .u8 0, .int .u8 0, .int .u8 0, .int .u8 0, .int .u8 0, .int .u8 0, .int .u8 0, .int .u8 0, .int .u8 0, .int .u8 0, .int .u8 0, .int .u8 0, .int .u8 0, .int .u8 0, .int .u8 0, .int .u8 0, .int .u8 0, .int .u8 0, .int .u8 0, .int .u8 0, .int .u8 0, .int .u8 0, .int .u8 0, .int .u8 0, .int .u8 0, .int .u8 0, .int .u8 0, .int .u8 0, .int .u8 0, .int .u8 0, .int .u8 0, .int .u8 0] 138))).keep (w' := (w1.alloc (.cells #[.int .u8 0, .int .u8 0, .int .u8 0, .int .u8 0, .int .u8 0, .int .u8 0, .int .u8 0, .int .u8 0, .int .u8 0, .int .u8 0, .int .u8 0, .int .u8 0, .int .u8 0, .int .u8 0, .int .u8 0, .int .u8 0, .int .u8 0, .int .u8 0, .int .u8 0, .int .u8 0, .int .u8 0, .int .u8 0, .int .u8 0, .int .u8 0, .int .u8 0, .int .u8 0, .int .u8 0, .int .u8 0, .int .u8 0, .int .u8 0, .int .u8 0, .int .u8 0] 138)).setRow w1.heap.size (setC p1).toArray) (setRow_other _ _ _ _ (by have := ho1.size; omega)))
  have HA1 := Lib.hid ((zero_in w1 138).row p1)
  have HT1 := Lib.hid ((((HT0.out.trans (.ofL ho1)).trans (.bel ((Below.refl _ w1).alloc (Nat.le_refl _) (.cells #[.int .u8 0, .int .u8 0, .int .u8 0, .int .u8 0, .int .u8 0, .int .u8 0, .int .u8 0, .int .u8 0, .int .u8 0, .int .u8 0, .int .u8 0, .int .u8 0, .int .u8 0, .int .u8 0, .int .u8 0, .int .u8 0, .int .u8 0, .int .u8 0, .int .u8 0, .int .u8 0, .int .u8 0, .int .u8 0, .int .u8 0, .int .u8 0, .int .u8 0, .int .u8 0, .int .u8 0, .int .u8 0, .int .u8 0, .int .u8 0, .int .u8 0, .int .u8 0] 138))))).rowNew (g := w1.heap.size) ho1.size (setC p1).toArray)
  have hA : w.heap.size ≤ w1.heap.size := ho1.size
  clear hs1 ho1 HG0 HT0 HE
  generalize hw1 : w1.heap.size = A at HS1 HG1 HA1 HT1 hA ⊢
  generalize (w1.alloc (.cells #[.int .u8 0, .int .u8 0, .int .u8 0, .int .u8 0, .int .u8 0, .int .u8 0, .int .u8 0, .int .u8 0, .int .u8 0, .int .u8 0, .int .u8 0, .int .u8 0, .int .u8 0, .int .u8 0, .int .u8 0, .int .u8 0, .int .u8 0, .int .u8 0, .int .u8 0, .int .u8 0, .int .u8 0, .int .u8 0, .int .u8 0, .int .u8 0, .int .u8 0, .int .u8 0, .int .u8 0, .int .u8 0, .int .u8 0, .int .u8 0, .int .u8 0, .int .u8 0] 138)).setRow A (setC p1).toArray = w2 at HS1 HG1 HA1 HT1 ⊢
  clear hw1
  have q2 := HS1.out.c2
  by_cases hb : bad1 = true
  · subst hb
    have hm := HR0.out
    rw [if_pos rfl] at hm
    subst hm
    go_wp2_with fail
    exact bodyPost_ret (v := .tuple #[]) (results_none Tryd.results137 _ _ _) rfl ⟨rfl, HG1.out, HS1.out, HT1.out⟩
  have hb' : bad1 = false := by simpa using hb
  subst hb'
  clear hb
  have HR1 := Lib.hid (HR0.out.trans (if_neg Bool.false_ne_true))
  go_upto_region 2 with fail
  clear HR0 q2
  by_cases hone : one1 = true
  · subst hone
    by_cases hlt : j1 < s.size
    · obtain ⟨c, HC⟩ : ∃ c, Hid (c = bt s j1) := ⟨_, rfl⟩
      have hc2 : c < 256 := by rw [HC.out]; exact bt_lt s j1
      have hlt' : (j1 : Int) < (s.size : Int) := by omega
      have q0 := HS1.out.c0
      have q1 := HS1.out.c1
      go_wp2_with fail
      go_quiet ((go_at_call 120; first | exact more_quiet _ R s j1 false _ HS1.out (by unfold maxLen; omega) | exact more_quiet_add _ R s j1 false _ _ HS1.out (by unfold maxLen; omega)))
      rw [show s[j1].toNat = c by rw [HC.out, bt_get s j1 hlt]]
      have HS2 : Hid (ScIn (w2.drewN nq) R s j1 false) := HS1.out
      have HG2 : Hid (SetIn (w2.drewN nq) g t p) := HG1.out
      have HA2 : Hid (SetIn (w2.drewN nq) A 138 p1) := HA1.out
      have HT2 : Hid (Two R g w (w2.drewN nq)) := HT1.out.drewN nq
      clear q0 q1 HS1 HG1 HA1 HT1
      generalize w2.drewN nq = w3 at HS2 HG2 HA2 HT2 ⊢
      by_cases h45 : c = 45
      · have h45' : ((c : Int) != 45) = false := by rw [h45]; rfl
        have HR2 := Lib.hid (HR1.out.trans (if_pos ⟨by first | rfl | trivial, hlt, by rw [← HC.out, h45]⟩))
        clear HR1 h45
        have q1 := HS2.out.c1
        have f1 := HS2.out.free 1
        obtain ⟨j2, HJ2⟩ : ∃ j2, Hid (j2 = j1 + 1) := ⟨_, rfl⟩
        have hj2a : j1 < j2 := by have := HJ2.out; omega
        have hj2b : j2 < j1 + 2 := by have := HJ2.out; omega
        go_upto_region 5 with fail
        rw [show (j1 : Int) + 1 = (j2 : Int) by omega]
        have HS3 := Lib.hid (HS2.out.set1 j2)
        have HG3 := Lib.hid (HG2.out.other (Ne.symm hne) 1 (.int .i64 j2))
        have HT3 := Lib.hid (HT2.out.setL 1 (.int .i64 j2))
        clear q1 f1 HS2 HG2 HA2 HT2
        generalize w3.setCell ⟨R, 1, none⟩ (.int .i64 j2) = w4 at HS3 HG3 HT3 ⊢
        rw [← HJ2.out] at HR2
        have q1 := HS3.out.c1
        by_cases hlt2 : j2 < s.size
        · have HR3 := Lib.hid (HR2.out.trans (if_pos hlt2))
          clear HR2
          have hR4 := HS3.out.lt
          have hsz := HT3.out.size
          go_upto_region 8 with (go_at_call 120; refine (more_any _ R s j2 false (by exact HS3.out) (by unfold maxLen; omega)).mono ?_; rintro e w' ⟨rfl, nm, rfl⟩)
          have HS4 : Hid (ScIn (w4.drewN nm) R s j2 false) := HS3.out
          have HG4 : Hid (SetIn (w4.drewN nm) g t p) := HG3.out
          have HT4 : Hid (Two R g w (w4.drewN nm)) := HT3.out.drewN nm
          clear q1 HS3 HG3 HT3 hR4 hsz
          generalize w4.drewN nm = w5 at HS4 HG4 HT4 ⊢
          obtain ⟨⟨p2, b2, one2, j3, bad2⟩, HD2⟩ : ∃ r, Hid (r = singleF s j2) := ⟨_, rfl⟩
          have HE2 : Hid (Calls Tryd.prog 138 #[.pointer (some ⟨R, 0, none⟩)] w5 fun e w' => e = .returned (.tuple #[.agg (setC p2).toArray, .int .u8 b2, .bool one2]) ∧ ScIn w' R s j3 bad2 ∧ Only R w5 w') := by
            have C := single_any5 w5 R s j2 HS4.out hlt2 hs
            rw [← HD2.out] at C
            exact C
          have hb2 : b2 < 256 := by have := (singleF_ok s j2 hlt2).1; rw [← HD2.out] at this; exact this
          rw [← HD2.out] at HR3
          clear HD2
          go_upto_region 9 with (first
            | (go_at_call 138; refine HE2.out.mono ?_; rintro e w6 ⟨rfl, hs6, ho6⟩)
            | (refine wpList_store_row rfl 138 (.tmp 8) (.tmp 66) rfl (w6.heap.size) (setC p2).toArray rfl rfl 138 (setC noP).toArray (zero_in w6 138) (by rw [set_size, setC_size]) (by simp only [setC_size]) (setC_one _) ?_))
          have HS6 := Lib.hid ((hs6.below ((Below.refl _ w6).alloc (Nat.le_refl _) (.cells #[.int .u8 0, .int .u8 0, .int .u8 0, .int .u8 0, .int .u8 0, .int .u8 0, .int .u8 0, .int .u8 0, .int .u8 0, .int .u8 0, .int .u8 0, .int .u8 0, .int .u8 0, .int .u8 0, .int .u8 0, .int .u8 0, .int .u8 0, .int .u8 0, .int .u8 0, .int .u8 0, .int .u8 0, .int .u8 0, .int .u8 0, .int .u8 0, .int .u8 0, .int .u8 0, .int .u8 0, .int .u8 0, .int .u8 0, .int .u8 0, .int .u8 0, .int .u8 0] 138))).keep (w' := (w6.alloc (.cells #[.int .u8 0, .int .u8 0, .int .u8 0, .int .u8 0, .int .u8 0, .int .u8 0, .int .u8 0, .int .u8 0, .int .u8 0, .int .u8 0, .int .u8 0, .int .u8 0, .int .u8 0, .int .u8 0, .int .u8 0, .int .u8 0, .int .u8 0, .int .u8 0, .int .u8 0, .int .u8 0, .int .u8 0, .int .u8 0, .int .u8 0, .int .u8 0, .int .u8 0, .int .u8 0, .int .u8 0, .int .u8 0, .int .u8 0, .int .u8 0, .int .u8 0, .int .u8 0] 138)).setRow w6.heap.size (setC p2).toArray) (setRow_other _ _ _ _ (by have := hs6.lt; omega)))
          have HG6 := Lib.hid (((HG4.out.only ho6 (Ne.symm hne)).below ((Below.refl _ w6).alloc (Nat.le_refl _) (.cells #[.int .u8 0, .int .u8 0, .int .u8 0, .int .u8 0, .int .u8 0, .int .u8 0, .int .u8 0, .int .u8 0, .int .u8 0, .int .u8 0, .int .u8 0, .int .u8 0, .int .u8 0, .int .u8 0, .int .u8 0, .int .u8 0, .int .u8 0, .int .u8 0, .int .u8 0, .int .u8 0, .int .u8 0, .int .u8 0, .int .u8 0, .int .u8 0, .int .u8 0, .int .u8 0, .int .u8 0, .int .u8 0, .int .u8 0, .int .u8 0, .int .u8 0, .int .u8 0] 138))).keep (w' := (w6.alloc (.cells #[.int .u8 0, .int .u8 0, .int .u8 0, .int .u8 0, .int .u8 0, .int .u8 0, .int .u8 0, .int .u8 0, .int .u8 0, .int .u8 0, .int .u8 0, .int .u8 0, .int .u8 0, .int .u8 0, .int .u8 0, .int .u8 0, .int .u8 0, .int .u8 0, .int .u8 0, .int .u8 0, .int .u8 0, .int .u8 0, .int .u8 0, .int .u8 0, .int .u8 0, .int .u8 0, .int .u8 0, .int .u8 0, .int .u8 0, .int .u8 0, .int .u8 0, .int .u8 0] 138)).setRow w6.heap.size (setC p2).toArray) (setRow_other _ _ _ _ (by have := (HG4.out.only ho6 (Ne.symm hne)).lt; omega)))
          have HT6 := Lib.hid ((((HT4.out.trans (.ofL ho6)).trans (.bel ((Below.refl _ w6).alloc (Nat.le_refl _) (.cells #[.int .u8 0, .int .u8 0, .int .u8 0, .int .u8 0, .int .u8 0, .int .u8 0, .int .u8 0, .int .u8 0, .int .u8 0, .int .u8 0, .int .u8 0, .int .u8 0, .int .u8 0, .int .u8 0, .int .u8 0, .int .u8 0, .int .u8 0, .int .u8 0, .int .u8 0, .int .u8 0, .int .u8 0, .int .u8 0, .int .u8 0, .int .u8 0, .int .u8 0, .int .u8 0, .int .u8 0, .int .u8 0, .int .u8 0, .int .u8 0, .int .u8 0, .int .u8 0] 138))))).rowNew (g := w6.heap.size) (Nat.le_trans HT4.out.size ho6.size) (setC p2).toArray)
          clear hs6 ho6 HS4 HG4 HT4 HE2
          generalize hw6 : w6.heap.size = A2 at HS6 HG6 HT6 ⊢
          generalize (w6.alloc (.cells #[.int .u8 0, .int .u8 0, .int .u8 0, .int .u8 0, .int .u8 0, .int .u8 0, .int .u8 0, .int .u8 0, .int .u8 0, .int .u8 0, .int .u8 0, .int .u8 0, .int .u8 0, .int .u8 0, .int .u8 0, .int .u8 0, .int .u8 0, .int .u8 0, .int .u8 0, .int .u8 0, .int .u8 0, .int .u8 0, .int .u8 0, .int .u8 0, .int .u8 0, .int .u8 0, .int .u8 0, .int .u8 0, .int .u8 0, .int .u8 0, .int .u8 0, .int .u8 0] 138)).setRow A2 (setC p2).toArray = w7 at HS6 HG6 HT6 ⊢
          clear hw6
          have q2 := HS6.out.c2
          by_cases hbb : bad2 = true
          · subst hbb
            have hm := HR3.out
            rw [if_pos rfl] at hm
            subst hm
            go_wp2_with fail
            exact bodyPost_ret (v := .tuple #[]) (results_none Tryd.results137 _ _ _) rfl ⟨rfl, HG6.out, HS6.out, HT6.out⟩
          have hbb' : bad2 = false := by simpa using hbb
          subst hbb'
          clear hbb
          have HR4 := Lib.hid (HR3.out.trans (if_neg Bool.false_ne_true))
          clear HR3
          by_cases hone2 : one2 = true
          · subst hone2
            by_cases hlo : b2 < b1
            · have hm := HR4.out
              rw [if_neg (by simp), if_pos hlo] at hm
              subst hm
              go_wp2_with (go_at_call 132; refine (fail_any _ R s j3 false j2 (by exact HS6.out)).mono ?_; rintro e wf ⟨rfl, hsf, hof⟩)
              exact bodyPost_ret (v := .tuple #[]) (results_none Tryd.results137 _ _ _) rfl ⟨rfl, HG6.out.only hof (Ne.symm hne), hsf, HT6.out.trans (.ofL hof)⟩
            · have hm := HR4.out
              rw [if_neg (by simp), if_neg hlo] at hm
              subst hm
              have hlo' : ¬ (b2 : Int) < (b1 : Int) := by omega
              have hlo2 : b1 ≤ b2 := by omega
              clear hlo
              have HQ0 := Lib.hid (HG6.out.congr (rng_none p b1))
              go_wp2_with fail
              go_loopw [10] (fun kv wr => ∃ k : Nat, b1 ≤ k ∧ k ≤ b2 + 1 ∧ kv = .int .i64 k ∧ Hid (SetIn wr g t (orP p (rng b1 k))) ∧ Hid (ScIn wr R s j3 false) ∧ Hid (Two R g w wr)) (fun kv _ => b2 + 1 - (intOf kv).toNat)
              case atStart => exact ⟨b1, by omega, by omega, rfl, HQ0.out, HS6.out, HT6.out⟩
              case round =>
                clear HQ0 HS6 HT6 HG6 q2
                obtain ⟨k, hk1, hk2, rfl, HQ, HSK, HTK⟩ := hrel
                by_cases hkl : k ≤ b2
                · have ec : IntKind.u8.wrap (k : Int) = (k : Int) := by rw [IntKind.wrap_u8]; omega
                  have hk256 : k < 256 := by omega
                  go_wp2_with (go_at_call 133; refine (add_any _ g k t _ (by exact HQ.out) hk256).mono ?_; rintro e wk ⟨rfl, hz9, ho9⟩)
                  exact ⟨⟨k + 1, by omega, by omega, by go_num, hz9.congr (rng_add p b1 k hk1), HSK.out.only ho9 hne, HTK.out.trans (.ofR ho9)⟩, by simp [intOf]; try omega⟩
                · obtain rfl : k = b2 + 1 := by omega
                  go_wp2_with fail
                  go_end0
                  exact ⟨rfl, HQ.out, HSK.out, HTK.out⟩
          · have hone2' : one2 = false := by simpa using hone2
            subst hone2'
            clear hone2
            have hm := HR4.out
            rw [if_pos rfl] at hm
            subst hm
            go_wp2_with (go_at_call 132; refine (fail_any _ R s j3 false (j2 + 1) (by exact HS6.out)).mono ?_; rintro e wf ⟨rfl, hsf, hof⟩)
            exact bodyPost_ret (v := .tuple #[]) (results_none Tryd.results137 _ _ _) rfl ⟨rfl, HG6.out.only hof (Ne.symm hne), by have := HJ2.out; rw [show j1 + 2 = j2 + 1 by omega]; exact hsf, HT6.out.trans (.ofL hof)⟩
        · have hm := HR2.out
          rw [if_neg hlt2] at hm
          subst hm
          go_upto_region 7 with (go_at_call 120; refine (more_any _ R s j2 false (by exact HS3.out) (by unfold maxLen; omega)).mono ?_; rintro e w' ⟨rfl, nm, rfl⟩)
          have HS4 : Hid (ScIn (w4.drewN nm) R s j2 false) := HS3.out
          have HG4 : Hid (SetIn (w4.drewN nm) g t p) := HG3.out
          have HT4 : Hid (Two R g w (w4.drewN nm)) := HT3.out.drewN nm
          clear q1 HS3 HG3 HT3
          generalize w4.drewN nm = w5 at HS4 HG4 HT4 ⊢
          have q1 := HS4.out.c1
          go_wp2_with (go_at_call 132; refine (fail_any _ R s j2 false j2 (by exact HS4.out)).mono ?_; rintro e wf ⟨rfl, hsf, hof⟩)
          exact bodyPost_ret (v := .tuple #[]) (results_none Tryd.results137 _ _ _) rfl ⟨rfl, HG4.out.only hof (Ne.symm hne), hsf, HT4.out.trans (.ofL hof)⟩
      · have h45' : ((c : Int) != 45) = true := bne_iff_ne.2 (by omega)
        have hm := HR1.out
        rw [if_neg (by rw [← HC.out]; intro e; exact h45 e.2.2)] at hm
        subst hm
        clear h45 HR1
        go_wp2_with (first
          | (refine wpList_load_row rfl 138 (.tmp 4) rfl (A) rfl 138 (setC p1).toArray (0, 0) _ HA2.out Tryd.underlying138 rfl (by rw [set_size, setC_size]) ?_)
          | (go_at_call 139; refine (join_any p p1 g t _ (by exact HG2.out)).mono ?_; rintro e wj ⟨rfl, hgj, hoj⟩))
        exact bodyPost_ret (v := .tuple #[]) (results_none Tryd.results137 _ _ _) rfl ⟨rfl, hgj, HS2.out.only hoj hne, HT2.out.trans (.ofR hoj)⟩
    · have hd : decide (j1 < s.size) = false := decide_eq_false hlt
      have hm := HR1.out
      rw [if_neg (fun e => hlt e.2.1)] at hm
      subst hm
      clear HR1
      go_wp2_with fail
      go_quiet ((go_at_call 120; first | exact more_quiet _ R s j1 false _ HS1.out (by unfold maxLen; omega) | exact more_quiet_add _ R s j1 false _ _ HS1.out (by unfold maxLen; omega)))
      have HS2 : Hid (ScIn (w2.drewN nq) R s j1 false) := HS1.out
      have HG2 : Hid (SetIn (w2.drewN nq) g t p) := HG1.out
      have HA2 : Hid (SetIn (w2.drewN nq) A 138 p1) := HA1.out
      have HT2 : Hid (Two R g w (w2.drewN nq)) := HT1.out.drewN nq
      clear HS1 HG1 HA1 HT1
      generalize w2.drewN nq = w3 at HS2 HG2 HA2 HT2 ⊢
      go_wp2_with (first
        | (refine wpList_load_row rfl 138 (.tmp 4) rfl (A) rfl 138 (setC p1).toArray (0, 0) _ HA2.out Tryd.underlying138 rfl (by rw [set_size, setC_size]) ?_)
        | (go_at_call 139; refine (join_any p p1 g t _ (by exact HG2.out)).mono ?_; rintro e wj ⟨rfl, hgj, hoj⟩))
      exact bodyPost_ret (v := .tuple #[]) (results_none Tryd.results137 _ _ _) rfl ⟨rfl, hgj, HS2.out.only hoj hne, HT2.out.trans (.ofR hoj)⟩
  · have hone' : one1 = false := by simpa using hone
    subst hone'
    clear hone
    have hm := HR1.out
    rw [if_neg (fun e => Bool.false_ne_true e.1)] at hm
    subst hm
    clear HR1
    go_wp2_with fail
    go_quiet (fail)
    have HS2 : Hid (ScIn (w2.drewN nq) R s j1 false) := HS1.out
    have HG2 : Hid (SetIn (w2.drewN nq) g t p) := HG1.out
    have HA2 : Hid (SetIn (w2.drewN nq) A 138 p1) := HA1.out
    have HT2 : Hid (Two R g w (w2.drewN nq)) := HT1.out.drewN nq
    clear HS1 HG1 HA1 HT1
    generalize w2.drewN nq = w3 at HS2 HG2 HA2 HT2 ⊢
    go_wp2_with (first
      | (refine wpList_load_row rfl 138 (.tmp 4) rfl (A) rfl 138 (setC p1).toArray (0, 0) _ HA2.out Tryd.underlying138 rfl (by rw [set_size, setC_size]) ?_)
      | (go_at_call 139; refine (join_any p p1 g t _ (by exact HG2.out)).mono ?_; rintro e wj ⟨rfl, hgj, hoj⟩))
    exact bodyPost_ret (v := .tuple #[]) (results_none Tryd.results137 _ _ _) rfl ⟨rfl, hgj, HS2.out.only hoj hne, HT2.out.trans (.ofR hoj)⟩

end Go.Proofs.YtpboaadjbkaidaaDoor

namespace Go.Proofs.YtpboaadjbkaidaaDoor
set_option maxRecDepth 100000
open Go.RowKit

theorem more_quietb (w : World) (R : Nat) (s : ByteArray) (i : Nat) (bad : Bool) (n : Nat) {b : Bool} (h : ScIn w R s i bad) (hs : s.size ≤ maxLen) (hb : decide (i < s.size) = b) :
    Calls Tryd.prog 120 #[.pointer (some ⟨R, 0, none⟩)] (w.drewN n) fun e w' => e = .returned (.bool b) ∧ ∃ m, w' = w.drewN m := by
  subst hb
  exact more_quiet w R s i bad n h hs
theorem more_quietb_add (w : World) (R : Nat) (s : ByteArray) (i : Nat) (bad : Bool) (a n : Nat) {b : Bool} (h : ScIn w R s i bad) (hs : s.size ≤ maxLen) (hb : decide (i < s.size) = b) :
    Calls Tryd.prog 120 #[.pointer (some ⟨R, 0, none⟩)] (w.drewN (a + n)) fun e w' => e = .returned (.bool b) ∧ ∃ m, w' = w.drewN (a + m) := by
  subst hb
  exact more_quiet_add w R s i bad a n h hs
theorem Only.two {g h : Nat} {a b c : World} (x : Only g a b) (y : Two g h b c) (hh : a.heap.size ≤ h) : Only g a c := ((Two.ofL x (h := h)).trans y).onlyL hh
/-- The members of a set in brackets; m: there was one. -/
def memsF (s : ByteArray) : Nat → Nat → Bool → (Nat → Bool) → (Nat → Bool) × Nat × Bool
  | 0, i, _, _ => (noP, i, true)
  | f + 1, i, m, p =>
    if i < s.size then
      if bt s i = 93 ∧ m = true then (p, i + 1, false)
      else if (memberF s i p).2.2 = true then (noP, (memberF s i p).2.1, true)
      else memsF s f (memberF s i p).2.1 true (memberF s i p).1
    else (noP, i, true)
def finishF (inv : Bool) (r : (Nat → Bool) × Nat × Bool) : SR := if r.2.2 = true then badR r.2.1 else ⟨if inv = true then notP r.1 else r.1, 0, false, r.2.1, false⟩
def bracketsF (s : ByteArray) (i : Nat) : SR :=
  if i + 1 < s.size ∧ bt s (i + 1) = 94 then finishF true (memsF s (s.size + 1) (i + 1 + 1) false noP) else finishF false (memsF s (s.size + 1) (i + 1) false noP)

set_option maxRecDepth 100000 in
set_option maxHeartbeats 8000000 in
theorem brackets_any (w : World) (R : Nat) (s : ByteArray) (i : Nat) (h : ScIn w R s i false) (hi : i < s.size) (hs : s.size ≤ 2147483648) :
    Calls Tryd.prog 129 #[.pointer (some ⟨R, 0, none⟩)] w fun e w' => e = .returned (.agg (setC (bracketsF s i).p).toArray) ∧ ScIn w' R s (bracketsF s i).j (bracketsF s i).bad ∧ Only R w w' := by
  have hR := h.lt
  have hRG1 : R ≠ w.heap.size := by omega
  have hRG2 : R ≠ w.heap.size + 1 := by omega
  have hb1 := (Below.refl _ w).alloc (Nat.le_refl _) (.cells #[.int .u8 0, .int .u8 0, .int .u8 0, .int .u8 0, .int .u8 0, .int .u8 0, .int .u8 0, .int .u8 0, .int .u8 0, .int .u8 0, .int .u8 0, .int .u8 0, .int .u8 0, .int .u8 0, .int .u8 0, .int .u8 0, .int .u8 0, .int .u8 0, .int .u8 0, .int .u8 0, .int .u8 0, .int .u8 0, .int .u8 0, .int .u8 0, .int .u8 0, .int .u8 0, .int .u8 0, .int .u8 0, .int .u8 0, .int .u8 0, .int .u8 0, .int .u8 0] 138)
  have hb2 := hb1.alloc (by simp) (.cells #[.int .u8 0, .int .u8 0, .int .u8 0, .int .u8 0, .int .u8 0, .int .u8 0, .int .u8 0, .int .u8 0, .int .u8 0, .int .u8 0, .int .u8 0, .int .u8 0, .int .u8 0, .int .u8 0, .int .u8 0, .int .u8 0, .int .u8 0, .int .u8 0, .int .u8 0, .int .u8 0, .int .u8 0, .int .u8 0, .int .u8 0, .int .u8 0, .int .u8 0, .int .u8 0, .int .u8 0, .int .u8 0, .int .u8 0, .int .u8 0, .int .u8 0, .int .u8 0] 138)
  have HS0 : Hid (ScIn ((w.alloc (.cells #[.int .u8 0, .int .u8 0, .int .u8 0, .int .u8 0, .int .u8 0, .int .u8 0, .int .u8 0, .int .u8 0, .int .u8 0, .int .u8 0, .int .u8 0, .int .u8 0, .int .u8 0, .int .u8 0, .int .u8 0, .int .u8 0, .int .u8 0, .int .u8 0, .int .u8 0, .int .u8 0, .int .u8 0, .int .u8 0, .int .u8 0, .int .u8 0, .int .u8 0, .int .u8 0, .int .u8 0, .int .u8 0, .int .u8 0, .int .u8 0, .int .u8 0, .int .u8 0] 138)).alloc (.cells #[.int .u8 0, .int .u8 0, .int .u8 0, .int .u8 0, .int .u8 0, .int .u8 0, .int .u8 0, .int .u8 0, .int .u8 0, .int .u8 0, .int .u8 0, .int .u8 0, .int .u8 0, .int .u8 0, .int .u8 0, .int .u8 0, .int .u8 0, .int .u8 0, .int .u8 0, .int .u8 0, .int .u8 0, .int .u8 0, .int .u8 0, .int .u8 0, .int .u8 0, .int .u8 0, .int .u8 0, .int .u8 0, .int .u8 0, .int .u8 0, .int .u8 0, .int .u8 0] 138)) R s i false) := h.below hb2
  have HA0 : Hid (SetIn ((w.alloc (.cells #[.int .u8 0, .int .u8 0, .int .u8 0, .int .u8 0, .int .u8 0, .int .u8 0, .int .u8 0, .int .u8 0, .int .u8 0, .int .u8 0, .int .u8 0, .int .u8 0, .int .u8 0, .int .u8 0, .int .u8 0, .int .u8 0, .int .u8 0, .int .u8 0, .int .u8 0, .int .u8 0, .int .u8 0, .int .u8 0, .int .u8 0, .int .u8 0, .int .u8 0, .int .u8 0, .int .u8 0, .int .u8 0, .int .u8 0, .int .u8 0, .int .u8 0, .int .u8 0] 138)).alloc (.cells #[.int .u8 0, .int .u8 0, .int .u8 0, .int .u8 0, .int .u8 0, .int .u8 0, .int .u8 0, .int .u8 0, .int .u8 0, .int .u8 0, .int .u8 0, .int .u8 0, .int .u8 0, .int .u8 0, .int .u8 0, .int .u8 0, .int .u8 0, .int .u8 0, .int .u8 0, .int .u8 0, .int .u8 0, .int .u8 0, .int .u8 0, .int .u8 0, .int .u8 0, .int .u8 0, .int .u8 0, .int .u8 0, .int .u8 0, .int .u8 0, .int .u8 0, .int .u8 0] 138)) w.heap.size 138 noP) := (zero_in w 138).keep (Below.heap_alloc _ _ _ (by simp))
  have HP0 : Hid (SetIn ((w.alloc (.cells #[.int .u8 0, .int .u8 0, .int .u8 0, .int .u8 0, .int .u8 0, .int .u8 0, .int .u8 0, .int .u8 0, .int .u8 0, .int .u8 0, .int .u8 0, .int .u8 0, .int .u8 0, .int .u8 0, .int .u8 0, .int .u8 0, .int .u8 0, .int .u8 0, .int .u8 0, .int .u8 0, .int .u8 0, .int .u8 0, .int .u8 0, .int .u8 0, .int .u8 0, .int .u8 0, .int .u8 0, .int .u8 0, .int .u8 0, .int .u8 0, .int .u8 0, .int .u8 0] 138)).alloc (.cells #[.int .u8 0, .int .u8 0, .int .u8 0, .int .u8 0, .int .u8 0, .int .u8 0, .int .u8 0, .int .u8 0, .int .u8 0, .int .u8 0, .int .u8 0, .int .u8 0, .int .u8 0, .int .u8 0, .int .u8 0, .int .u8 0, .int .u8 0, .int .u8 0, .int .u8 0, .int .u8 0, .int .u8 0, .int .u8 0, .int .u8 0, .int .u8 0, .int .u8 0, .int .u8 0, .int .u8 0, .int .u8 0, .int .u8 0, .int .u8 0, .int .u8 0, .int .u8 0] 138)) (w.heap.size + 1) 138 noP) := by
    have h := zero_in (w.alloc (.cells #[.int .u8 0, .int .u8 0, .int .u8 0, .int .u8 0, .int .u8 0, .int .u8 0, .int .u8 0, .int .u8 0, .int .u8 0, .int .u8 0, .int .u8 0, .int .u8 0, .int .u8 0, .int .u8 0, .int .u8 0, .int .u8 0, .int .u8 0, .int .u8 0, .int .u8 0, .int .u8 0, .int .u8 0, .int .u8 0, .int .u8 0, .int .u8 0, .int .u8 0, .int .u8 0, .int .u8 0, .int .u8 0, .int .u8 0, .int .u8 0, .int .u8 0, .int .u8 0] 138)) 138
    rw [show (w.alloc (.cells #[.int .u8 0, .int .u8 0, .int .u8 0, .int .u8 0, .int .u8 0, .int .u8 0, .int .u8 0, .int .u8 0, .int .u8 0, .int .u8 0, .int .u8 0, .int .u8 0, .int .u8 0, .int .u8 0, .int .u8 0, .int .u8 0, .int .u8 0, .int .u8 0, .int .u8 0, .int .u8 0, .int .u8 0, .int .u8 0, .int .u8 0, .int .u8 0, .int .u8 0, .int .u8 0, .int .u8 0, .int .u8 0, .int .u8 0, .int .u8 0, .int .u8 0, .int .u8 0] 138)).heap.size = w.heap.size + 1 by simp] at h
    exact h
  have HO0 : Hid (Only R w ((w.alloc (.cells #[.int .u8 0, .int .u8 0, .int .u8 0, .int .u8 0, .int .u8 0, .int .u8 0, .int .u8 0, .int .u8 0, .int .u8 0, .int .u8 0, .int .u8 0, .int .u8 0, .int .u8 0, .int .u8 0, .int .u8 0, .int .u8 0, .int .u8 0, .int .u8 0, .int .u8 0, .int .u8 0, .int .u8 0, .int .u8 0, .int .u8 0, .int .u8 0, .int .u8 0, .int .u8 0, .int .u8 0, .int .u8 0, .int .u8 0, .int .u8 0, .int .u8 0, .int .u8 0] 138)).alloc (.cells #[.int .u8 0, .int .u8 0, .int .u8 0, .int .u8 0, .int .u8 0, .int .u8 0, .int .u8 0, .int .u8 0, .int .u8 0, .int .u8 0, .int .u8 0, .int .u8 0, .int .u8 0, .int .u8 0, .int .u8 0, .int .u8 0, .int .u8 0, .int .u8 0, .int .u8 0, .int .u8 0, .int .u8 0, .int .u8 0, .int .u8 0, .int .u8 0, .int .u8 0, .int .u8 0, .int .u8 0, .int .u8 0, .int .u8 0, .int .u8 0, .int .u8 0, .int .u8 0] 138))) := (Only.refl R w).bel hb2
  clear h hb1 hb2
  obtain ⟨k1, HK1⟩ : ∃ k1, Hid (k1 = i + 1) := ⟨_, rfl⟩
  have hk1a : i < k1 := by have := HK1.out; omega
  have hk1b : k1 < i + 2 := by have := HK1.out; omega
  have hk1c : k1 ≤ s.size := by omega
  generalize hfin : bracketsF s i = fin
  have HFI := Lib.hid hfin
  clear hfin
  go_enter Tryd.func129, Tryd.ntmps129
  go_upto_region 2 with fail
  generalize (w.alloc (.cells #[.int .u8 0, .int .u8 0, .int .u8 0, .int .u8 0, .int .u8 0, .int .u8 0, .int .u8 0, .int .u8 0, .int .u8 0, .int .u8 0, .int .u8 0, .int .u8 0, .int .u8 0, .int .u8 0, .int .u8 0, .int .u8 0, .int .u8 0, .int .u8 0, .int .u8 0, .int .u8 0, .int .u8 0, .int .u8 0, .int .u8 0, .int .u8 0, .int .u8 0, .int .u8 0, .int .u8 0, .int .u8 0, .int .u8 0, .int .u8 0, .int .u8 0, .int .u8 0] 138)).alloc (.cells #[.int .u8 0, .int .u8 0, .int .u8 0, .int .u8 0, .int .u8 0, .int .u8 0, .int .u8 0, .int .u8 0, .int .u8 0, .int .u8 0, .int .u8 0, .int .u8 0, .int .u8 0, .int .u8 0, .int .u8 0, .int .u8 0, .int .u8 0, .int .u8 0, .int .u8 0, .int .u8 0, .int .u8 0, .int .u8 0, .int .u8 0, .int .u8 0, .int .u8 0, .int .u8 0, .int .u8 0, .int .u8 0, .int .u8 0, .int .u8 0, .int .u8 0, .int .u8 0] 138) = wa at HS0 HA0 HP0 HO0
  have q1 := HS0.out.c1
  have f1 := HS0.out.free 1
  go_upto_region 3 with fail
  rw [show (i : Int) + 1 = (k1 : Int) by omega]
  have HS1 := Lib.hid (HS0.out.set1 k1)
  have HA1 := Lib.hid (HA0.out.other (Ne.symm hRG1) 1 (.int .i64 k1))
  have HP1 := Lib.hid (HP0.out.other (Ne.symm hRG2) 1 (.int .i64 k1))
  have HO1 := Lib.hid (HO0.out.set 1 (.int .i64 k1))
  clear q1 f1 HS0 HA0 HP0 HO0
  generalize wa.setCell ⟨R, 1, none⟩ (.int .i64 k1) = wb at HS1 HA1 HP1 HO1 ⊢
  have q0 := HS1.out.c0
  have q1 := HS1.out.c1
  by_cases hlt : k1 < s.size
  · have hlt' : (k1 : Int) < (s.size : Int) := by omega
    by_cases h94 : s[k1].toNat = 94
    · have t94 : ((s[k1].toNat : Int) == 94) = true := beq_iff_eq.2 (by omega)
      have HB : Hid (bracketsF s i = finishF true (memsF s (s.size + 1) (k1 + 1) false noP)) := by
        show _ = _
        unfold bracketsF
        rw [← HK1.out, if_pos ⟨hlt, by rw [bt_get s _ hlt]; exact h94⟩]
      clear h94
      go_wp2_with fail
      go_quiet ((go_at_call 120; first | exact more_quiet _ R s k1 false _ HS1.out (by unfold maxLen; omega) | exact more_quiet_add _ R s k1 false _ _ HS1.out (by unfold maxLen; omega)))
      have HS2 : Hid (ScIn (wb.drewN nq) R s k1 false) := HS1.out
      have HA2 : Hid (SetIn (wb.drewN nq) w.heap.size 138 noP) := HA1.out
      have HP2 : Hid (SetIn (wb.drewN nq) (w.heap.size + 1) 138 noP) := HP1.out
      have HO2 : Hid (Only R w (wb.drewN nq)) := HO1.out.drewN nq
      rw [show s[k1].toNat = bt s k1 from (bt_get s k1 hlt).symm]
      generalize bt s k1 = c94
      clear q0 q1 t94 HS1 HA1 HP1 HO1
      generalize wb.drewN nq = wc at HS2 HA2 HP2 HO2 ⊢
      have q1 := HS2.out.c1
      have f1 := HS2.out.free 1
      obtain ⟨k2, HK2⟩ : ∃ k2, Hid (k2 = k1 + 1) := ⟨_, rfl⟩
      have hk2a : k1 < k2 := by have := HK2.out; omega
      have hk2b : k2 < k1 + 2 := by have := HK2.out; omega
      have hk2c : k2 ≤ s.size := by omega
      rw [← HK2.out] at HB
      go_upto_region 6 with fail
      rw [show (k1 : Int) + 1 = (k2 : Int) by omega]
      have HS3 := Lib.hid (HS2.out.set1 k2)
      have HA3 := Lib.hid (HA2.out.other (Ne.symm hRG1) 1 (.int .i64 k2))
      have HP3 := Lib.hid (HP2.out.other (Ne.symm hRG2) 1 (.int .i64 k2))
      have HO3 := Lib.hid (HO2.out.set 1 (.int .i64 k2))
      clear q1 f1 HS2 HA2 HP2 HO2 HK1 HK2 hlt hlt'
      generalize wc.setCell ⟨R, 1, none⟩ (.int .i64 k2) = wd at HS3 HA3 HP3 HO3 ⊢
      obtain ⟨V, HV⟩ : ∃ V, Hid (V = memsF s (s.size + 1) k2 false noP) := ⟨_, rfl⟩
      have HF0 : Hid (fin = finishF true V) := by show _ = _; rw [← HFI.out, HV.out]; exact HB.out
      clear HB
      have HV0 : Hid (memsF s (s.size + 1) k2 (decide (0 < 0)) noP = V) := HV.out.symm
      clear HV
      go_wp2_with fail
      go_loopw [5] (fun kv wr => ∃ cnt k bad, kv = .int .i64 (cnt : Nat) ∧ Hid (ScIn wr R s k bad) ∧ Hid (SetIn wr w.heap.size 138 noP) ∧ Hid (Only R w wr) ∧ (bad = false → cnt ≤ k ∧ k ≤ s.size ∧ ∃ f p, Hid (s.size - k < f ∧ memsF s f k (decide (0 < cnt)) p = V) ∧ Hid (SetIn wr (w.heap.size + 1) 138 p)) ∧ (bad = true → cnt ≤ s.size + 1 ∧ Hid (V = (noP, k, true)))) (fun kv _ => s.size + 2 - (intOf kv).toNat)
      case atStart => exact ⟨0, k2, false, rfl, HS3.out, HA3.out, HO3.out, fun _ => ⟨by omega, by omega, s.size + 1, noP, ⟨by omega, HV0.out⟩, HP3.out⟩, fun h => absurd h Bool.false_ne_true⟩
      case round =>
        clear HS3 HA3 HP3 HO3 HV0
        obtain ⟨cnt, k, bad, rfl, HS, HA, HO, hgo, hbad⟩ := hrel
        cases bad with
        | true =>
          obtain ⟨hc, HX⟩ := hbad rfl
          have HF : Hid (fin = badR k) := by show _ = _; rw [HF0.out, HX.out]; rfl
          clear hbad hgo HX HF0
          have q2 := HS.out.c2
          go_wp2_with (refine wpList_store_row rfl 138 (.tmp 2) (.tmp 78) rfl (w.heap.size) zeroA rfl rfl 138 (setC noP).toArray HA.out (by rw [set_size]; rfl) (by rw [setC_size]; rfl) zero_one ?_; rw [zero_eq])
          exact bodyPost_ret (v := .agg (setC noP).toArray) (res_set Tryd.results129 _ _ w.heap.size 138 noP rfl (HA.out.row noP)) rfl ⟨by (rw [HF.out] <;> rfl), by rw [HF.out]; exact HS.out.keep (setRow_other _ _ _ _ hRG1), HO.out.rowNew (Nat.le_refl _) _⟩
        | false =>
          obtain ⟨hc, hk, f, p, HX, HP⟩ := hgo rfl
          clear hbad hgo
          have q2 := HS.out.c2
          obtain ⟨f', HF'⟩ : ∃ f', Hid (f = f' + 1) := ⟨f - 1, by have := HX.out.1; show _ = _; omega⟩
          by_cases hlt : k < s.size
          · have hlt' : (k : Int) < (s.size : Int) := by omega
            have HX1 : Hid (s.size - k < f' + 1 ∧ (if bt s k = 93 ∧ decide (0 < cnt) = true then (p, k + 1, false) else if (memberF s k p).2.2 = true then (noP, (memberF s k p).2.1, true) else memsF s f' (memberF s k p).2.1 true (memberF s k p).1) = V) := by
              have h := HX.out
              rw [HF'.out] at h
              unfold memsF at h
              rw [if_pos hlt] at h
              exact h
            clear HX HF'
            go_upto_region 11 with (go_at_call 120; refine (more_any _ R s k false (by exact HS.out) (by unfold maxLen; omega)).mono ?_; rintro e w' ⟨rfl, nm, rfl⟩)
            have HS1 : Hid (ScIn (wr.drewN nm) R s k false) := HS.out
            have HA1 : Hid (SetIn (wr.drewN nm) w.heap.size 138 noP) := HA.out
            have HP1 : Hid (SetIn (wr.drewN nm) (w.heap.size + 1) 138 p) := HP.out
            have HO1 : Hid (Only R w (wr.drewN nm)) := HO.out.drewN nm
            clear q2 HS HA HP HO
            generalize wr.drewN nm = w1 at HS1 HA1 HP1 HO1 ⊢
            have q0 := HS1.out.c0
            have q1 := HS1.out.c1
            by_cases h93 : s[k].toNat = 93
            · have t93 : ((s[k].toNat : Int) == 93) = true := beq_iff_eq.2 (by omega)
              have h93' : bt s k = 93 := by rw [bt_get s k hlt]; exact h93
              by_cases hc0 : 0 < cnt
              · have hc0' : (0 : Int) < (cnt : Int) := by omega
                have HVE : Hid (V = (p, k + 1, false)) := by show _ = _; rw [← HX1.out.2, if_pos ⟨h93', decide_eq_true hc0⟩]
                have HF : Hid (fin = ⟨if true = true then notP p else p, 0, false, k + 1, false⟩) := by show _ = _; rw [HF0.out, HVE.out]; rfl
                clear HVE HX1 h93 h93' HF0
                go_wp2_with fail
                go_quiet (fail)
                have HS2 : Hid (ScIn (w1.drewN nq) R s k false) := HS1.out
                have HA2 : Hid (SetIn (w1.drewN nq) w.heap.size 138 noP) := HA1.out
                have HP2 : Hid (SetIn (w1.drewN nq) (w.heap.size + 1) 138 p) := HP1.out
                have HO2 : Hid (Only R w (w1.drewN nq)) := HO1.out.drewN nq
                rw [show s[k].toNat = bt s k from (bt_get s k hlt).symm]
                generalize bt s k = c93
                clear q0 q1 t93 HS1 HA1 HP1 HO1
                generalize w1.drewN nq = w2 at HS2 HA2 HP2 HO2 ⊢
                have q1 := HS2.out.c1
                have f1 := HS2.out.free 1
                go_upto_region 13 with fail
                obtain ⟨k1, HK1⟩ : ∃ k1, Hid (k1 = k + 1) := ⟨_, rfl⟩
                rw [← HK1.out] at HF
                rw [show (k : Int) + 1 = (k1 : Int) by have := HK1.out; omega]
                have HS3 := Lib.hid (HS2.out.set1 k1)
                have HA3 := Lib.hid (HA2.out.other (Ne.symm hRG1) 1 (.int .i64 k1))
                have HP3 := Lib.hid (HP2.out.other (Ne.symm hRG2) 1 (.int .i64 k1))
                have HO3 := Lib.hid (HO2.out.set 1 (.int .i64 k1))
                clear q1 f1 HS2 HA2 HP2 HO2 HK1
                generalize w2.setCell ⟨R, 1, none⟩ (.int .i64 k1) = w3 at HS3 HA3 HP3 HO3 ⊢
                go_wp2_with (first
                  | (refine wpList_load_row rfl 138 (.tmp 3) rfl ((w.heap.size + 1)) rfl 138 (setC p).toArray (0, 0) _ HP3.out Tryd.underlying138 rfl (by rw [set_size, setC_size]) ?_)
                  | (go_at_call 127; refine (inverted_any p _).mono ?_; rintro e w4 ⟨rfl, hb4⟩)
                  | (refine wpList_store_row rfl 138 (.tmp 2) (.tmp 74) rfl (w.heap.size) (setC (notP p)).toArray rfl rfl 138 (setC noP).toArray (HA3.out.below hb4) (by rw [set_size, setC_size]) (by simp only [setC_size]) (setC_one _) ?_))
                exact bodyPost_ret (v := .agg (setC (notP p)).toArray) (res_set Tryd.results129 _ _ w.heap.size 138 (notP p) rfl ((HA3.out.below hb4).row (notP p))) rfl ⟨by (rw [HF.out] <;> rfl), by rw [HF.out]; exact (HS3.out.below hb4).keep (setRow_other _ _ _ _ hRG1), (HO3.out.bel hb4).rowNew (Nat.le_refl _) _⟩
              · have hc0' : ¬ (0 : Int) < (cnt : Int) := by omega
                have HX2 : Hid (s.size - k < f' + 1 ∧ (if (memberF s k p).2.2 = true then (noP, (memberF s k p).2.1, true) else memsF s f' (memberF s k p).2.1 true (memberF s k p).1) = V) := by
                  have h := HX1.out
                  rw [if_neg (fun e => hc0 (of_decide_eq_true e.2))] at h
                  exact h
                clear HX1 h93 h93'
                go_wp2_with fail
                go_quiet (fail)
                have HS2 : Hid (ScIn (w1.drewN nq) R s k false) := HS1.out
                have HA2 : Hid (SetIn (w1.drewN nq) w.heap.size 138 noP) := HA1.out
                have HP2 : Hid (SetIn (w1.drewN nq) (w.heap.size + 1) 138 p) := HP1.out
                have HO2 : Hid (Only R w (w1.drewN nq)) := HO1.out.drewN nq
                rw [show s[k].toNat = bt s k from (bt_get s k hlt).symm]
                generalize bt s k = c93
                clear q0 q1 t93 HS1 HA1 HP1 HO1
                generalize w1.drewN nq = w2 at HS2 HA2 HP2 HO2 ⊢
                have HM := Lib.hid (memberF_ok s k p hlt)
                have HE := Lib.hid (member_any w2 R (w.heap.size + 1) s k 138 p HS2.out HP2.out hRG2 hlt hs)
                obtain ⟨⟨pm, jm, bm⟩, HD⟩ : ∃ m, Hid (m = memberF s k p) := ⟨_, rfl⟩
                rw [← HD.out] at HX2 HM HE
                clear HD
                go_wp2_with (go_at_call 137; refine HE.out.mono ?_; rintro e w3 ⟨rfl, hp3, hs3, ht3⟩)
                have hA3 := HA2.out.two ht3 (Ne.symm hRG1) (by omega)
                have hO3 := HO2.out.two ht3 (by omega)
                refine ⟨⟨cnt + 1, jm, bm, by go_num, hs3, hA3, hO3, ?_, ?_⟩, by simp [intOf]; try omega⟩
                · intro hb
                  have hM : k < jm ∧ jm ≤ s.size := HM.out hb
                  have hX := HX2.out
                  have hb2 : bm = false := hb
                  subst hb2
                  rw [if_neg (fun e => Bool.false_ne_true e)] at hX
                  exact ⟨by omega, hM.2, f', pm, ⟨by omega, by rw [decide_eq_true (Nat.succ_pos cnt)]; exact hX.2⟩, hp3⟩
                · intro hb
                  have hX := HX2.out
                  have hb2 : bm = true := hb
                  subst hb2
                  rw [if_pos rfl] at hX
                  exact ⟨by omega, hX.2.symm⟩
            · have t93 : ((s[k].toNat : Int) == 93) = false := beq_eq_false_iff_ne.2 (by omega)
              have HX2 : Hid (s.size - k < f' + 1 ∧ (if (memberF s k p).2.2 = true then (noP, (memberF s k p).2.1, true) else memsF s f' (memberF s k p).2.1 true (memberF s k p).1) = V) := by
                have h := HX1.out
                rw [if_neg (fun e => h93 (by rw [← bt_get s k hlt]; exact e.1))] at h
                exact h
              clear HX1 h93
              go_wp2_with fail
              go_quiet (fail)
              have HS2 : Hid (ScIn (w1.drewN nq) R s k false) := HS1.out
              have HA2 : Hid (SetIn (w1.drewN nq) w.heap.size 138 noP) := HA1.out
              have HP2 : Hid (SetIn (w1.drewN nq) (w.heap.size + 1) 138 p) := HP1.out
              have HO2 : Hid (Only R w (w1.drewN nq)) := HO1.out.drewN nq
              rw [show s[k].toNat = bt s k from (bt_get s k hlt).symm]
              generalize bt s k = c93
              clear q0 q1 t93 HS1 HA1 HP1 HO1
              generalize w1.drewN nq = w2 at HS2 HA2 HP2 HO2 ⊢
              have HM := Lib.hid (memberF_ok s k p hlt)
              have HE := Lib.hid (member_any w2 R (w.heap.size + 1) s k 138 p HS2.out HP2.out hRG2 hlt hs)
              obtain ⟨⟨pm, jm, bm⟩, HD⟩ : ∃ m, Hid (m = memberF s k p) := ⟨_, rfl⟩
              rw [← HD.out] at HX2 HM HE
              clear HD
              go_wp2_with (go_at_call 137; refine HE.out.mono ?_; rintro e w3 ⟨rfl, hp3, hs3, ht3⟩)
              have hA3 := HA2.out.two ht3 (Ne.symm hRG1) (by omega)
              have hO3 := HO2.out.two ht3 (by omega)
              refine ⟨⟨cnt + 1, jm, bm, by go_num, hs3, hA3, hO3, ?_, ?_⟩, by simp [intOf]; try omega⟩
              · intro hb
                have hM : k < jm ∧ jm ≤ s.size := HM.out hb
                have hX := HX2.out
                have hb2 : bm = false := hb
                subst hb2
                rw [if_neg (fun e => Bool.false_ne_true e)] at hX
                exact ⟨by omega, hM.2, f', pm, ⟨by omega, by rw [decide_eq_true (Nat.succ_pos cnt)]; exact hX.2⟩, hp3⟩
              · intro hb
                have hX := HX2.out
                have hb2 : bm = true := hb
                subst hb2
                rw [if_pos rfl] at hX
                exact ⟨by omega, hX.2.symm⟩
          · have HVE : Hid (V = (noP, k, true)) := by
              have h := HX.out.2
              rw [HF'.out] at h
              unfold memsF at h
              rw [if_neg hlt] at h
              exact h.symm
            have HF : Hid (fin = badR k) := by show _ = _; rw [HF0.out, HVE.out]; rfl
            clear HVE HX HF' HF0
            go_upto_region 10 with (go_at_call 120; refine (more_any _ R s k false (by exact HS.out) (by unfold maxLen; omega)).mono ?_; rintro e w' ⟨rfl, nm, rfl⟩)
            have HS1 : Hid (ScIn (wr.drewN nm) R s k false) := HS.out
            have HA1 : Hid (SetIn (wr.drewN nm) w.heap.size 138 noP) := HA.out
            have HO1 : Hid (Only R w (wr.drewN nm)) := HO.out.drewN nm
            clear q2 HS HA HP HO
            generalize wr.drewN nm = w1 at HS1 HA1 HO1 ⊢
            have q1 := HS1.out.c1
            go_upto_region 17 with (go_at_call 132; refine (fail_any _ R s k false k (by exact HS1.out)).mono ?_; rintro e wf ⟨rfl, hsf, hof⟩)
            have HZf := Lib.hid (HA1.out.only hof (Ne.symm hRG1))
            have HOf := Lib.hid (HO1.out.trans hof)
            have HSf := Lib.hid hsf
            clear hsf hof q1 HS1 HA1 HO1
            go_wp2_with (refine wpList_store_row rfl 138 (.tmp 2) (.tmp 78) rfl (w.heap.size) zeroA rfl rfl 138 (setC noP).toArray HZf.out (by rw [set_size]; rfl) (by rw [setC_size]; rfl) zero_one ?_; rw [zero_eq])
            exact bodyPost_ret (v := .agg (setC noP).toArray) (res_set Tryd.results129 _ _ w.heap.size 138 noP rfl (HZf.out.row noP)) rfl ⟨by (rw [HF.out] <;> rfl), by rw [HF.out]; exact HSf.out.keep (setRow_other _ _ _ _ hRG1), HOf.out.rowNew (Nat.le_refl _) _⟩
    · have t94 : ((s[k1].toNat : Int) == 94) = false := beq_eq_false_iff_ne.2 (by omega)
      have HB : Hid (bracketsF s i = finishF false (memsF s (s.size + 1) k1 false noP)) := by
        show _ = _
        unfold bracketsF
        rw [← HK1.out, if_neg (fun e => h94 (by rw [← bt_get s _ hlt]; exact e.2))]
      clear h94
      go_wp2_with fail
      go_quiet ((go_at_call 120; first | exact more_quiet _ R s k1 false _ HS1.out (by unfold maxLen; omega) | exact more_quiet_add _ R s k1 false _ _ HS1.out (by unfold maxLen; omega)))
      have HS2 : Hid (ScIn (wb.drewN nq) R s k1 false) := HS1.out
      have HA2 : Hid (SetIn (wb.drewN nq) w.heap.size 138 noP) := HA1.out
      have HP2 : Hid (SetIn (wb.drewN nq) (w.heap.size + 1) 138 noP) := HP1.out
      have HO2 : Hid (Only R w (wb.drewN nq)) := HO1.out.drewN nq
      rw [show s[k1].toNat = bt s k1 from (bt_get s k1 hlt).symm]
      generalize bt s k1 = c94
      clear q0 q1 t94 HS1 HA1 HP1 HO1 HK1 hlt hlt'
      generalize wb.drewN nq = wc at HS2 HA2 HP2 HO2 ⊢
      obtain ⟨V, HV⟩ : ∃ V, Hid (V = memsF s (s.size + 1) k1 false noP) := ⟨_, rfl⟩
      have HF0 : Hid (fin = finishF false V) := by show _ = _; rw [← HFI.out, HV.out]; exact HB.out
      clear HB
      have HV0 : Hid (memsF s (s.size + 1) k1 (decide (0 < 0)) noP = V) := HV.out.symm
      clear HV
      go_wp2_with fail
      go_loopw [5] (fun kv wr => ∃ cnt k bad, kv = .int .i64 (cnt : Nat) ∧ Hid (ScIn wr R s k bad) ∧ Hid (SetIn wr w.heap.size 138 noP) ∧ Hid (Only R w wr) ∧ (bad = false → cnt ≤ k ∧ k ≤ s.size ∧ ∃ f p, Hid (s.size - k < f ∧ memsF s f k (decide (0 < cnt)) p = V) ∧ Hid (SetIn wr (w.heap.size + 1) 138 p)) ∧ (bad = true → cnt ≤ s.size + 1 ∧ Hid (V = (noP, k, true)))) (fun kv _ => s.size + 2 - (intOf kv).toNat)
      case atStart => exact ⟨0, k1, false, rfl, HS2.out, HA2.out, HO2.out, fun _ => ⟨by omega, by omega, s.size + 1, noP, ⟨by omega, HV0.out⟩, HP2.out⟩, fun h => absurd h Bool.false_ne_true⟩
      case round =>
        clear HS2 HA2 HP2 HO2 HV0
        obtain ⟨cnt, k, bad, rfl, HS, HA, HO, hgo, hbad⟩ := hrel
        cases bad with
        | true =>
          obtain ⟨hc, HX⟩ := hbad rfl
          have HF : Hid (fin = badR k) := by show _ = _; rw [HF0.out, HX.out]; rfl
          clear hbad hgo HX HF0
          have q2 := HS.out.c2
          go_wp2_with (refine wpList_store_row rfl 138 (.tmp 2) (.tmp 78) rfl (w.heap.size) zeroA rfl rfl 138 (setC noP).toArray HA.out (by rw [set_size]; rfl) (by rw [setC_size]; rfl) zero_one ?_; rw [zero_eq])
          exact bodyPost_ret (v := .agg (setC noP).toArray) (res_set Tryd.results129 _ _ w.heap.size 138 noP rfl (HA.out.row noP)) rfl ⟨by (rw [HF.out] <;> rfl), by rw [HF.out]; exact HS.out.keep (setRow_other _ _ _ _ hRG1), HO.out.rowNew (Nat.le_refl _) _⟩
        | false =>
          obtain ⟨hc, hk, f, p, HX, HP⟩ := hgo rfl
          clear hbad hgo
          have q2 := HS.out.c2
          obtain ⟨f', HF'⟩ : ∃ f', Hid (f = f' + 1) := ⟨f - 1, by have := HX.out.1; show _ = _; omega⟩
          by_cases hlt : k < s.size
          · have hlt' : (k : Int) < (s.size : Int) := by omega
            have HX1 : Hid (s.size - k < f' + 1 ∧ (if bt s k = 93 ∧ decide (0 < cnt) = true then (p, k + 1, false) else if (memberF s k p).2.2 = true then (noP, (memberF s k p).2.1, true) else memsF s f' (memberF s k p).2.1 true (memberF s k p).1) = V) := by
              have h := HX.out
              rw [HF'.out] at h
              unfold memsF at h
              rw [if_pos hlt] at h
              exact h
            clear HX HF'
            go_upto_region 11 with (go_at_call 120; refine (more_any _ R s k false (by exact HS.out) (by unfold maxLen; omega)).mono ?_; rintro e w' ⟨rfl, nm, rfl⟩)
            have HS1 : Hid (ScIn (wr.drewN nm) R s k false) := HS.out
            have HA1 : Hid (SetIn (wr.drewN nm) w.heap.size 138 noP) := HA.out
            have HP1 : Hid (SetIn (wr.drewN nm) (w.heap.size + 1) 138 p) := HP.out
            have HO1 : Hid (Only R w (wr.drewN nm)) := HO.out.drewN nm
            clear q2 HS HA HP HO
            generalize wr.drewN nm = w1 at HS1 HA1 HP1 HO1 ⊢
            have q0 := HS1.out.c0
            have q1 := HS1.out.c1
            by_cases h93 : s[k].toNat = 93
            · have t93 : ((s[k].toNat : Int) == 93) = true := beq_iff_eq.2 (by omega)
              have h93' : bt s k = 93 := by rw [bt_get s k hlt]; exact h93
              by_cases hc0 : 0 < cnt
              · have hc0' : (0 : Int) < (cnt : Int) := by omega
                have HVE : Hid (V = (p, k + 1, false)) := by show _ = _; rw [← HX1.out.2, if_pos ⟨h93', decide_eq_true hc0⟩]
                have HF : Hid (fin = ⟨if false = true then notP p else p, 0, false, k + 1, false⟩) := by show _ = _; rw [HF0.out, HVE.out]; rfl
                clear HVE HX1 h93 h93' HF0
                go_wp2_with fail
                go_quiet (fail)
                have HS2 : Hid (ScIn (w1.drewN nq) R s k false) := HS1.out
                have HA2 : Hid (SetIn (w1.drewN nq) w.heap.size 138 noP) := HA1.out
                have HP2 : Hid (SetIn (w1.drewN nq) (w.heap.size + 1) 138 p) := HP1.out
                have HO2 : Hid (Only R w (w1.drewN nq)) := HO1.out.drewN nq
                rw [show s[k].toNat = bt s k from (bt_get s k hlt).symm]
                generalize bt s k = c93
                clear q0 q1 t93 HS1 HA1 HP1 HO1
                generalize w1.drewN nq = w2 at HS2 HA2 HP2 HO2 ⊢
                have q1 := HS2.out.c1
                have f1 := HS2.out.free 1
                go_upto_region 13 with fail
                obtain ⟨k1, HK1⟩ : ∃ k1, Hid (k1 = k + 1) := ⟨_, rfl⟩
                rw [← HK1.out] at HF
                rw [show (k : Int) + 1 = (k1 : Int) by have := HK1.out; omega]
                have HS3 := Lib.hid (HS2.out.set1 k1)
                have HA3 := Lib.hid (HA2.out.other (Ne.symm hRG1) 1 (.int .i64 k1))
                have HP3 := Lib.hid (HP2.out.other (Ne.symm hRG2) 1 (.int .i64 k1))
                have HO3 := Lib.hid (HO2.out.set 1 (.int .i64 k1))
                clear q1 f1 HS2 HA2 HP2 HO2 HK1
                generalize w2.setCell ⟨R, 1, none⟩ (.int .i64 k1) = w3 at HS3 HA3 HP3 HO3 ⊢
                go_wp2_with (first
                  | (refine wpList_load_row rfl 138 (.tmp 3) rfl ((w.heap.size + 1)) rfl 138 (setC p).toArray (0, 0) _ HP3.out Tryd.underlying138 rfl (by rw [set_size, setC_size]) ?_)
                  | (refine wpList_store_row rfl 138 (.tmp 2) (.tmp 75) rfl (w.heap.size) (setC p).toArray rfl rfl 138 (setC noP).toArray HA3.out (by rw [set_size, setC_size]) (by simp only [setC_size]) (setC_one _) ?_))
                exact bodyPost_ret (v := .agg (setC p).toArray) (res_set Tryd.results129 _ _ w.heap.size 138 p rfl (HA3.out.row p)) rfl ⟨by (rw [HF.out] <;> rfl), by rw [HF.out]; exact HS3.out.keep (setRow_other _ _ _ _ hRG1), HO3.out.rowNew (Nat.le_refl _) _⟩
              · have hc0' : ¬ (0 : Int) < (cnt : Int) := by omega
                have HX2 : Hid (s.size - k < f' + 1 ∧ (if (memberF s k p).2.2 = true then (noP, (memberF s k p).2.1, true) else memsF s f' (memberF s k p).2.1 true (memberF s k p).1) = V) := by
                  have h := HX1.out
                  rw [if_neg (fun e => hc0 (of_decide_eq_true e.2))] at h
                  exact h
                clear HX1 h93 h93'
                go_wp2_with fail
                go_quiet (fail)
                have HS2 : Hid (ScIn (w1.drewN nq) R s k false) := HS1.out
                have HA2 : Hid (SetIn (w1.drewN nq) w.heap.size 138 noP) := HA1.out
                have HP2 : Hid (SetIn (w1.drewN nq) (w.heap.size + 1) 138 p) := HP1.out
                have HO2 : Hid (Only R w (w1.drewN nq)) := HO1.out.drewN nq
                rw [show s[k].toNat = bt s k from (bt_get s k hlt).symm]
                generalize bt s k = c93
                clear q0 q1 t93 HS1 HA1 HP1 HO1
                generalize w1.drewN nq = w2 at HS2 HA2 HP2 HO2 ⊢
                have HM := Lib.hid (memberF_ok s k p hlt)
                have HE := Lib.hid (member_any w2 R (w.heap.size + 1) s k 138 p HS2.out HP2.out hRG2 hlt hs)
                obtain ⟨⟨pm, jm, bm⟩, HD⟩ : ∃ m, Hid (m = memberF s k p) := ⟨_, rfl⟩
                rw [← HD.out] at HX2 HM HE
                clear HD
                go_wp2_with (go_at_call 137; refine HE.out.mono ?_; rintro e w3 ⟨rfl, hp3, hs3, ht3⟩)
                have hA3 := HA2.out.two ht3 (Ne.symm hRG1) (by omega)
                have hO3 := HO2.out.two ht3 (by omega)
                refine ⟨⟨cnt + 1, jm, bm, by go_num, hs3, hA3, hO3, ?_, ?_⟩, by simp [intOf]; try omega⟩
                · intro hb
                  have hM : k < jm ∧ jm ≤ s.size := HM.out hb
                  have hX := HX2.out
                  have hb2 : bm = false := hb
                  subst hb2
                  rw [if_neg (fun e => Bool.false_ne_true e)] at hX
                  exact ⟨by omega, hM.2, f', pm, ⟨by omega, by rw [decide_eq_true (Nat.succ_pos cnt)]; exact hX.2⟩, hp3⟩
                · intro hb
                  have hX := HX2.out
                  have hb2 : bm = true := hb
                  subst hb2
                  rw [if_pos rfl] at hX
                  exact ⟨by omega, hX.2.symm⟩
            · have t93 : ((s[k].toNat : Int) == 93) = false := beq_eq_false_iff_ne.2 (by omega)
              have HX2 : Hid (s.size - k < f' + 1 ∧ (if (memberF s k p).2.2 = true then (noP, (memberF s k p).2.1, true) else memsF s f' (memberF s k p).2.1 true (memberF s k p).1) = V) := by
                have h := HX1.out
                rw [if_neg (fun e => h93 (by rw [← bt_get s k hlt]; exact e.1))] at h
                exact h
              clear HX1 h93
              go_wp2_with fail
              go_quiet (fail)
              have HS2 : Hid (ScIn (w1.drewN nq) R s k false) := HS1.out
              have HA2 : Hid (SetIn (w1.drewN nq) w.heap.size 138 noP) := HA1.out
              have HP2 : Hid (SetIn (w1.drewN nq) (w.heap.size + 1) 138 p) := HP1.out
              have HO2 : Hid (Only R w (w1.drewN nq)) := HO1.out.drewN nq
              rw [show s[k].toNat = bt s k from (bt_get s k hlt).symm]
              generalize bt s k = c93
              clear q0 q1 t93 HS1 HA1 HP1 HO1
              generalize w1.drewN nq = w2 at HS2 HA2 HP2 HO2 ⊢
              have HM := Lib.hid (memberF_ok s k p hlt)
              have HE := Lib.hid (member_any w2 R (w.heap.size + 1) s k 138 p HS2.out HP2.out hRG2 hlt hs)
              obtain ⟨⟨pm, jm, bm⟩, HD⟩ : ∃ m, Hid (m = memberF s k p) := ⟨_, rfl⟩
              rw [← HD.out] at HX2 HM HE
              clear HD
              go_wp2_with (go_at_call 137; refine HE.out.mono ?_; rintro e w3 ⟨rfl, hp3, hs3, ht3⟩)
              have hA3 := HA2.out.two ht3 (Ne.symm hRG1) (by omega)
              have hO3 := HO2.out.two ht3 (by omega)
              refine ⟨⟨cnt + 1, jm, bm, by go_num, hs3, hA3, hO3, ?_, ?_⟩, by simp [intOf]; try omega⟩
              · intro hb
                have hM : k < jm ∧ jm ≤ s.size := HM.out hb
                have hX := HX2.out
                have hb2 : bm = false := hb
                subst hb2
                rw [if_neg (fun e => Bool.false_ne_true e)] at hX
                exact ⟨by omega, hM.2, f', pm, ⟨by omega, by rw [decide_eq_true (Nat.succ_pos cnt)]; exact hX.2⟩, hp3⟩
              · intro hb
                have hX := HX2.out
                have hb2 : bm = true := hb
                subst hb2
                rw [if_pos rfl] at hX
                exact ⟨by omega, hX.2.symm⟩
          · have HVE : Hid (V = (noP, k, true)) := by
              have h := HX.out.2
              rw [HF'.out] at h
              unfold memsF at h
              rw [if_neg hlt] at h
              exact h.symm
            have HF : Hid (fin = badR k) := by show _ = _; rw [HF0.out, HVE.out]; rfl
            clear HVE HX HF' HF0
            go_upto_region 10 with (go_at_call 120; refine (more_any _ R s k false (by exact HS.out) (by unfold maxLen; omega)).mono ?_; rintro e w' ⟨rfl, nm, rfl⟩)
            have HS1 : Hid (ScIn (wr.drewN nm) R s k false) := HS.out
            have HA1 : Hid (SetIn (wr.drewN nm) w.heap.size 138 noP) := HA.out
            have HO1 : Hid (Only R w (wr.drewN nm)) := HO.out.drewN nm
            clear q2 HS HA HP HO
            generalize wr.drewN nm = w1 at HS1 HA1 HO1 ⊢
            have q1 := HS1.out.c1
            go_upto_region 17 with (go_at_call 132; refine (fail_any _ R s k false k (by exact HS1.out)).mono ?_; rintro e wf ⟨rfl, hsf, hof⟩)
            have HZf := Lib.hid (HA1.out.only hof (Ne.symm hRG1))
            have HOf := Lib.hid (HO1.out.trans hof)
            have HSf := Lib.hid hsf
            clear hsf hof q1 HS1 HA1 HO1
            go_wp2_with (refine wpList_store_row rfl 138 (.tmp 2) (.tmp 78) rfl (w.heap.size) zeroA rfl rfl 138 (setC noP).toArray HZf.out (by rw [set_size]; rfl) (by rw [setC_size]; rfl) zero_one ?_; rw [zero_eq])
            exact bodyPost_ret (v := .agg (setC noP).toArray) (res_set Tryd.results129 _ _ w.heap.size 138 noP rfl (HZf.out.row noP)) rfl ⟨by (rw [HF.out] <;> rfl), by rw [HF.out]; exact HSf.out.keep (setRow_other _ _ _ _ hRG1), HOf.out.rowNew (Nat.le_refl _) _⟩
  · have HB : Hid (bracketsF s i = finishF false (memsF s (s.size + 1) k1 false noP)) := by
      show _ = _
      unfold bracketsF
      rw [← HK1.out, if_neg (fun e => hlt e.1)]
    have HD := Lib.hid (decide_eq_false hlt)
    clear hlt q0
    go_wp2_with fail
    go_quiet ((go_at_call 120; first | exact more_quietb _ R s k1 false _ HS1.out (by unfold maxLen; omega) HD.out | exact more_quietb_add _ R s k1 false _ _ HS1.out (by unfold maxLen; omega) HD.out))
    have HS2 : Hid (ScIn (wb.drewN nq) R s k1 false) := HS1.out
    have HA2 : Hid (SetIn (wb.drewN nq) w.heap.size 138 noP) := HA1.out
    have HP2 : Hid (SetIn (wb.drewN nq) (w.heap.size + 1) 138 noP) := HP1.out
    have HO2 : Hid (Only R w (wb.drewN nq)) := HO1.out.drewN nq
    clear q1 HS1 HA1 HP1 HO1 HK1 HD
    generalize wb.drewN nq = wc at HS2 HA2 HP2 HO2 ⊢
    obtain ⟨V, HV⟩ : ∃ V, Hid (V = memsF s (s.size + 1) k1 false noP) := ⟨_, rfl⟩
    have HF0 : Hid (fin = finishF false V) := by show _ = _; rw [← HFI.out, HV.out]; exact HB.out
    clear HB
    have HV0 : Hid (memsF s (s.size + 1) k1 (decide (0 < 0)) noP = V) := HV.out.symm
    clear HV
    go_wp2_with fail
    go_loopw [5] (fun kv wr => ∃ cnt k bad, kv = .int .i64 (cnt : Nat) ∧ Hid (ScIn wr R s k bad) ∧ Hid (SetIn wr w.heap.size 138 noP) ∧ Hid (Only R w wr) ∧ (bad = false → cnt ≤ k ∧ k ≤ s.size ∧ ∃ f p, Hid (s.size - k < f ∧ memsF s f k (decide (0 < cnt)) p = V) ∧ Hid (SetIn wr (w.heap.size + 1) 138 p)) ∧ (bad = true → cnt ≤ s.size + 1 ∧ Hid (V = (noP, k, true)))) (fun kv _ => s.size + 2 - (intOf kv).toNat)
    case atStart => exact ⟨0, k1, false, rfl, HS2.out, HA2.out, HO2.out, fun _ => ⟨by omega, by omega, s.size + 1, noP, ⟨by omega, HV0.out⟩, HP2.out⟩, fun h => absurd h Bool.false_ne_true⟩
    case round =>
      clear HS2 HA2 HP2 HO2 HV0
      obtain ⟨cnt, k, bad, rfl, HS, HA, HO, hgo, hbad⟩ := hrel
      cases bad with
      | true =>
        obtain ⟨hc, HX⟩ := hbad rfl
        have HF : Hid (fin = badR k) := by show _ = _; rw [HF0.out, HX.out]; rfl
        clear hbad hgo HX HF0
        have q2 := HS.out.c2
        go_wp2_with (refine wpList_store_row rfl 138 (.tmp 2) (.tmp 78) rfl (w.heap.size) zeroA rfl rfl 138 (setC noP).toArray HA.out (by rw [set_size]; rfl) (by rw [setC_size]; rfl) zero_one ?_; rw [zero_eq])
        exact bodyPost_ret (v := .agg (setC noP).toArray) (res_set Tryd.results129 _ _ w.heap.size 138 noP rfl (HA.out.row noP)) rfl ⟨by (rw [HF.out] <;> rfl), by rw [HF.out]; exact HS.out.keep (setRow_other _ _ _ _ hRG1), HO.out.rowNew (Nat.le_refl _) _⟩
      | false =>
        obtain ⟨hc, hk, f, p, HX, HP⟩ := hgo rfl
        clear hbad hgo
        have q2 := HS.out.c2
        obtain ⟨f', HF'⟩ : ∃ f', Hid (f = f' + 1) := ⟨f - 1, by have := HX.out.1; show _ = _; omega⟩
        by_cases hlt : k < s.size
        · have hlt' : (k : Int) < (s.size : Int) := by omega
          have HX1 : Hid (s.size - k < f' + 1 ∧ (if bt s k = 93 ∧ decide (0 < cnt) = true then (p, k + 1, false) else if (memberF s k p).2.2 = true then (noP, (memberF s k p).2.1, true) else memsF s f' (memberF s k p).2.1 true (memberF s k p).1) = V) := by
            have h := HX.out
            rw [HF'.out] at h
            unfold memsF at h
            rw [if_pos hlt] at h
            exact h
          clear HX HF'
          go_upto_region 11 with (go_at_call 120; refine (more_any _ R s k false (by exact HS.out) (by unfold maxLen; omega)).mono ?_; rintro e w' ⟨rfl, nm, rfl⟩)
          have HS1 : Hid (ScIn (wr.drewN nm) R s k false) := HS.out
          have HA1 : Hid (SetIn (wr.drewN nm) w.heap.size 138 noP) := HA.out
          have HP1 : Hid (SetIn (wr.drewN nm) (w.heap.size + 1) 138 p) := HP.out
          have HO1 : Hid (Only R w (wr.drewN nm)) := HO.out.drewN nm
          clear q2 HS HA HP HO
          generalize wr.drewN nm = w1 at HS1 HA1 HP1 HO1 ⊢
          have q0 := HS1.out.c0
          have q1 := HS1.out.c1
          by_cases h93 : s[k].toNat = 93
          · have t93 : ((s[k].toNat : Int) == 93) = true := beq_iff_eq.2 (by omega)
            have h93' : bt s k = 93 := by rw [bt_get s k hlt]; exact h93
            by_cases hc0 : 0 < cnt
            · have hc0' : (0 : Int) < (cnt : Int) := by omega
              have HVE : Hid (V = (p, k + 1, false)) := by show _ = _; rw [← HX1.out.2, if_pos ⟨h93', decide_eq_true hc0⟩]
              have HF : Hid (fin = ⟨if false = true then notP p else p, 0, false, k + 1, false⟩) := by show _ = _; rw [HF0.out, HVE.out]; rfl
              clear HVE HX1 h93 h93' HF0
              go_wp2_with fail
              go_quiet (fail)
              have HS2 : Hid (ScIn (w1.drewN nq) R s k false) := HS1.out
              have HA2 : Hid (SetIn (w1.drewN nq) w.heap.size 138 noP) := HA1.out
              have HP2 : Hid (SetIn (w1.drewN nq) (w.heap.size + 1) 138 p) := HP1.out
              have HO2 : Hid (Only R w (w1.drewN nq)) := HO1.out.drewN nq
              rw [show s[k].toNat = bt s k from (bt_get s k hlt).symm]
              generalize bt s k = c93
              clear q0 q1 t93 HS1 HA1 HP1 HO1
              generalize w1.drewN nq = w2 at HS2 HA2 HP2 HO2 ⊢
              have q1 := HS2.out.c1
              have f1 := HS2.out.free 1
              go_upto_region 13 with fail
              obtain ⟨k1, HK1⟩ : ∃ k1, Hid (k1 = k + 1) := ⟨_, rfl⟩
              rw [← HK1.out] at HF
              rw [show (k : Int) + 1 = (k1 : Int) by have := HK1.out; omega]
              have HS3 := Lib.hid (HS2.out.set1 k1)
              have HA3 := Lib.hid (HA2.out.other (Ne.symm hRG1) 1 (.int .i64 k1))
              have HP3 := Lib.hid (HP2.out.other (Ne.symm hRG2) 1 (.int .i64 k1))
              have HO3 := Lib.hid (HO2.out.set 1 (.int .i64 k1))
              clear q1 f1 HS2 HA2 HP2 HO2 HK1
              generalize w2.setCell ⟨R, 1, none⟩ (.int .i64 k1) = w3 at HS3 HA3 HP3 HO3 ⊢
              go_wp2_with (first
                | (refine wpList_load_row rfl 138 (.tmp 3) rfl ((w.heap.size + 1)) rfl 138 (setC p).toArray (0, 0) _ HP3.out Tryd.underlying138 rfl (by rw [set_size, setC_size]) ?_)
                | (refine wpList_store_row rfl 138 (.tmp 2) (.tmp 75) rfl (w.heap.size) (setC p).toArray rfl rfl 138 (setC noP).toArray HA3.out (by rw [set_size, setC_size]) (by simp only [setC_size]) (setC_one _) ?_))
              exact bodyPost_ret (v := .agg (setC p).toArray) (res_set Tryd.results129 _ _ w.heap.size 138 p rfl (HA3.out.row p)) rfl ⟨by (rw [HF.out] <;> rfl), by rw [HF.out]; exact HS3.out.keep (setRow_other _ _ _ _ hRG1), HO3.out.rowNew (Nat.le_refl _) _⟩
            · have hc0' : ¬ (0 : Int) < (cnt : Int) := by omega
              have HX2 : Hid (s.size - k < f' + 1 ∧ (if (memberF s k p).2.2 = true then (noP, (memberF s k p).2.1, true) else memsF s f' (memberF s k p).2.1 true (memberF s k p).1) = V) := by
                have h := HX1.out
                rw [if_neg (fun e => hc0 (of_decide_eq_true e.2))] at h
                exact h
              clear HX1 h93 h93'
              go_wp2_with fail
              go_quiet (fail)
              have HS2 : Hid (ScIn (w1.drewN nq) R s k false) := HS1.out
              have HA2 : Hid (SetIn (w1.drewN nq) w.heap.size 138 noP) := HA1.out
              have HP2 : Hid (SetIn (w1.drewN nq) (w.heap.size + 1) 138 p) := HP1.out
              have HO2 : Hid (Only R w (w1.drewN nq)) := HO1.out.drewN nq
              rw [show s[k].toNat = bt s k from (bt_get s k hlt).symm]
              generalize bt s k = c93
              clear q0 q1 t93 HS1 HA1 HP1 HO1
              generalize w1.drewN nq = w2 at HS2 HA2 HP2 HO2 ⊢
              have HM := Lib.hid (memberF_ok s k p hlt)
              have HE := Lib.hid (member_any w2 R (w.heap.size + 1) s k 138 p HS2.out HP2.out hRG2 hlt hs)
              obtain ⟨⟨pm, jm, bm⟩, HD⟩ : ∃ m, Hid (m = memberF s k p) := ⟨_, rfl⟩
              rw [← HD.out] at HX2 HM HE
              clear HD
              go_wp2_with (go_at_call 137; refine HE.out.mono ?_; rintro e w3 ⟨rfl, hp3, hs3, ht3⟩)
              have hA3 := HA2.out.two ht3 (Ne.symm hRG1) (by omega)
              have hO3 := HO2.out.two ht3 (by omega)
              refine ⟨⟨cnt + 1, jm, bm, by go_num, hs3, hA3, hO3, ?_, ?_⟩, by simp [intOf]; try omega⟩
              · intro hb
                have hM : k < jm ∧ jm ≤ s.size := HM.out hb
                have hX := HX2.out
                have hb2 : bm = false := hb
                subst hb2
                rw [if_neg (fun e => Bool.false_ne_true e)] at hX
                exact ⟨by omega, hM.2, f', pm, ⟨by omega, by rw [decide_eq_true (Nat.succ_pos cnt)]; exact hX.2⟩, hp3⟩
              · intro hb
                have hX := HX2.out
                have hb2 : bm = true := hb
                subst hb2
                rw [if_pos rfl] at hX
                exact ⟨by omega, hX.2.symm⟩
          · have t93 : ((s[k].toNat : Int) == 93) = false := beq_eq_false_iff_ne.2 (by omega)
            have HX2 : Hid (s.size - k < f' + 1 ∧ (if (memberF s k p).2.2 = true then (noP, (memberF s k p).2.1, true) else memsF s f' (memberF s k p).2.1 true (memberF s k p).1) = V) := by
              have h := HX1.out
              rw [if_neg (fun e => h93 (by rw [← bt_get s k hlt]; exact e.1))] at h
              exact h
            clear HX1 h93
            go_wp2_with fail
            go_quiet (fail)
            have HS2 : Hid (ScIn (w1.drewN nq) R s k false) := HS1.out
            have HA2 : Hid (SetIn (w1.drewN nq) w.heap.size 138 noP) := HA1.out
            have HP2 : Hid (SetIn (w1.drewN nq) (w.heap.size + 1) 138 p) := HP1.out
            have HO2 : Hid (Only R w (w1.drewN nq)) := HO1.out.drewN nq
            rw [show s[k].toNat = bt s k from (bt_get s k hlt).symm]
            generalize bt s k = c93
            clear q0 q1 t93 HS1 HA1 HP1 HO1
            generalize w1.drewN nq = w2 at HS2 HA2 HP2 HO2 ⊢
            have HM := Lib.hid (memberF_ok s k p hlt)
            have HE := Lib.hid (member_any w2 R (w.heap.size + 1) s k 138 p HS2.out HP2.out hRG2 hlt hs)
            obtain ⟨⟨pm, jm, bm⟩, HD⟩ : ∃ m, Hid (m = memberF s k p) := ⟨_, rfl⟩
            rw [← HD.out] at HX2 HM HE
            clear HD
            go_wp2_with (go_at_call 137; refine HE.out.mono ?_; rintro e w3 ⟨rfl, hp3, hs3, ht3⟩)
            have hA3 := HA2.out.two ht3 (Ne.symm hRG1) (by omega)
            have hO3 := HO2.out.two ht3 (by omega)
            refine ⟨⟨cnt + 1, jm, bm, by go_num, hs3, hA3, hO3, ?_, ?_⟩, by simp [intOf]; try omega⟩
            · intro hb
              have hM : k < jm ∧ jm ≤ s.size := HM.out hb
              have hX := HX2.out
              have hb2 : bm = false := hb
              subst hb2
              rw [if_neg (fun e => Bool.false_ne_true e)] at hX
              exact ⟨by omega, hM.2, f', pm, ⟨by omega, by rw [decide_eq_true (Nat.succ_pos cnt)]; exact hX.2⟩, hp3⟩
            · intro hb
              have hX := HX2.out
              have hb2 : bm = true := hb
              subst hb2
              rw [if_pos rfl] at hX
              exact ⟨by omega, hX.2.symm⟩
        · have HVE : Hid (V = (noP, k, true)) := by
            have h := HX.out.2
            rw [HF'.out] at h
            unfold memsF at h
            rw [if_neg hlt] at h
            exact h.symm
          have HF : Hid (fin = badR k) := by show _ = _; rw [HF0.out, HVE.out]; rfl
          clear HVE HX HF' HF0
          go_upto_region 10 with (go_at_call 120; refine (more_any _ R s k false (by exact HS.out) (by unfold maxLen; omega)).mono ?_; rintro e w' ⟨rfl, nm, rfl⟩)
          have HS1 : Hid (ScIn (wr.drewN nm) R s k false) := HS.out
          have HA1 : Hid (SetIn (wr.drewN nm) w.heap.size 138 noP) := HA.out
          have HO1 : Hid (Only R w (wr.drewN nm)) := HO.out.drewN nm
          clear q2 HS HA HP HO
          generalize wr.drewN nm = w1 at HS1 HA1 HO1 ⊢
          have q1 := HS1.out.c1
          go_upto_region 17 with (go_at_call 132; refine (fail_any _ R s k false k (by exact HS1.out)).mono ?_; rintro e wf ⟨rfl, hsf, hof⟩)
          have HZf := Lib.hid (HA1.out.only hof (Ne.symm hRG1))
          have HOf := Lib.hid (HO1.out.trans hof)
          have HSf := Lib.hid hsf
          clear hsf hof q1 HS1 HA1 HO1
          go_wp2_with (refine wpList_store_row rfl 138 (.tmp 2) (.tmp 78) rfl (w.heap.size) zeroA rfl rfl 138 (setC noP).toArray HZf.out (by rw [set_size]; rfl) (by rw [setC_size]; rfl) zero_one ?_; rw [zero_eq])
          exact bodyPost_ret (v := .agg (setC noP).toArray) (res_set Tryd.results129 _ _ w.heap.size 138 noP rfl (HZf.out.row noP)) rfl ⟨by (rw [HF.out] <;> rfl), by rw [HF.out]; exact HSf.out.keep (setRow_other _ _ _ _ hRG1), HOf.out.rowNew (Nat.le_refl _) _⟩

end Go.Proofs.YtpboaadjbkaidaaDoor
