/-
  Contracts and plain laws that this claim leans on, part 1.
-/
import Derived.WalkKit
import Derived.WalkLawsBesides
import Derived.Lib.Hide
import Derived.Lib.Strings
import Derived.Laws.IdiomStrings
import Derived.Deep.Draws
import Derived.Deep.QuietTactic
import Derived.BigQuiet
import Derived.Deep.OwnRows
import Derived.Test.YtfkojnofbpdjdaaGreatDoorChecked
import Derived.ProofKit
import Derived.OpenShut
import Derived.KernelRfl
import Derived.Below
import Derived.Laws.AppendOwnNone
import Derived.Lib.SmallJoins
import Derived.Maps.AppendAt
import Derived.Deep.AppendLies
import Derived.Deep.RegionLaw
import Derived.Lib.AppendStr
import Derived.WalkSpells
import Derived.Deep.MidRow
import Derived.StillTailTactics
import Derived.Deep.LoopGhost
import Derived.Deep.DeepCutAuto
import Derived.Deep.CutBlock
import Derived.Deep.RegionWith
import Derived.BigRegion
import Derived.Deep.RegionHeld3
import Derived.Great.BuildSlice
import Derived.LaidMore
import Derived.Laws.CopyOwn
import Derived.Laws.ResultCell
import Derived.Laws.Tables
import Derived.Lay
import Derived.Lib.Bytealg
import Derived.Lib.IndexMore
import Derived.Lib.SliceRun
import Derived.Lib.Split
import Derived.Lib.SplitLaws
import Derived.Lib.Walk
import Derived.Maps.Own
import Derived.Maps.OwnOps
import Derived.Maps.Views
import Derived.SizedLaws
import Derived.Stop.Joined
import Derived.Shelf.Vars
import Derived.Lib.AppendZeros
set_option linter.unusedVariables false
set_option linter.unusedSimpArgs false
namespace Go.Proofs.YtfkojnofbpdjdaaGreatDoor
set_option maxRecDepth 100000
open Go.RowKit

theorem ret_int {k : IntKind} {a b : Int} (h : a = b) : Ending.returned (.int k a) = .returned (.int k b) := by rw [h]
theorem ret_bool {a b : Bool} (h : a = b) : Ending.returned (.bool a) = .returned (.bool b) := by rw [h]
theorem ret_val {a b : Value} (h : a = b) : Ending.returned a = .returned b := by rw [h]

/-- Block g holds the cells xs at its head; none is frozen. -/
def RowV (w : World) (g : Nat) (xs : List Value) : Prop :=
  g < w.heap.size ∧ ∀ j v, xs[j]? = some v → w.cell? ⟨g, j, none⟩ = some v ∧ w.frozen? ⟨g, j, none⟩ = false

theorem RowV.cell {w : World} {g : Nat} {xs : List Value} (h : RowV w g xs) {j : Nat} {v : Value} (hj : xs[j]? = some v) : w.cell? ⟨g, j, none⟩ = some v := (h.2 j v hj).1
theorem RowV.free {w : World} {g : Nat} {xs : List Value} (h : RowV w g xs) {j : Nat} (hj : j < xs.length) : w.frozen? ⟨g, j, none⟩ = false := (h.2 j _ (List.getElem?_eq_getElem hj)).2
theorem RowV.drew {w : World} {g : Nat} {xs : List Value} (h : RowV w g xs) : RowV w.drew g xs := h
theorem RowV.keep {w w' : World} {g : Nat} {xs : List Value} (h : RowV w g xs) (hs : w.heap.size ≤ w'.heap.size) (hb : w'.heap[g]? = w.heap[g]?) : RowV w' g xs :=
  ⟨Nat.lt_of_lt_of_le h.1 hs, fun j v hj => ⟨(World.cell?_of_block (w := w) hb).trans (h.2 j v hj).1, (World.frozen?_of_block (w := w) hb).trans (h.2 j v hj).2⟩⟩
theorem RowV.alloc {w : World} {g : Nat} {xs : List Value} (h : RowV w g xs) (o : Obj) : RowV (w.alloc o) g xs :=
  h.keep (by simp) (Below.heap_alloc w o g h.1)
theorem RowV.set {w : World} {g : Nat} {xs : List Value} (h : RowV w g xs) (k : Nat) (u : Value) : RowV (w.setCell ⟨g, k, none⟩ u) g (xs.set k u) := by
  refine ⟨by simpa [World.setCell] using h.1, fun j v hj => ?_⟩
  by_cases hjk : j = k
  · subst hjk
    have hl : j < xs.length := by
      have := (List.getElem?_eq_some_iff.1 hj).1
      simpa using this
    have hv : v = u := by
      rw [List.getElem?_set_self hl] at hj
      exact (Option.some.inj hj).symm
    subst hv
    have h2 := h.2 j _ (List.getElem?_eq_getElem hl)
    exact ⟨World.cell?_setCell_same _ _ _ h2.1, by rw [World.frozen?_setCell]; exact h2.2⟩
  · rw [List.getElem?_set_ne (fun e => hjk e.symm)] at hj
    have h2 := h.2 j v hj
    exact ⟨(World.cell?_setCell_other w ⟨g, k, none⟩ ⟨g, j, none⟩ u (fun e => hjk (by injection e with _ e; exact e.symm))).trans h2.1, by rw [World.frozen?_setCell]; exact h2.2⟩

/-- The cells of a block that has just been laid. -/
theorem cells_new (w : World) (xs : List Value) (t : TypeId) : ∀ j u, xs[j]? = some u → (w.alloc (.cells xs.toArray t)).cell? ((⟨w.heap.size, 0, none⟩ : Addr).add j) = some u := by
  intro j u hj
  rw [Addr.add_lit, Nat.zero_add]
  have : (w.alloc (.cells xs.toArray t)).heap[w.heap.size]? = some (.cells xs.toArray t) := by
    show (w.heap.push (.cells xs.toArray t))[w.heap.size]? = _
    simp
  rw [cell_of_row _ _ j _ _ _ this]
  simpa using hj

/-- One element appended to a row of the call's own; what is below stays. -/
theorem wpList_app1 {P : Program} {ops : Array Oper} {rest : List Oper} {o : Oper} {a : Act} {Q : Exit → Act → World → Prop} {w : World} (hgd : o.guard = none) (s x : Operand) (t e : TypeId)
    (ho : o.op = .call { callee := .builtin .append, args := #[s, x], argTypes := #[t, t] })
    (ht : P.underlying t = some (.slice e)) (z : Value) (size bytes : Nat) (hinfo : (P.info? e).map (fun i => (i.zero, i.size, i.bytes)) = some (some z, size, bytes)) (hzs : z.cells.size = size) (hsz : 0 < size)
    (base : Nat) (v : Value) (n : Nat) (xs : List Value) (hs : a.eval s = v) (hown : w.ownsRow base e size v n xs)
    (ad : Addr) (c : Nat) (news : List Value) (hx : a.eval x = .slice (some ad) 1 c) (hl : news.length = size) (hnews : ∀ j u, news[j]? = some u → w.cell? (ad.add j) = some u) (h1 : ∀ u ∈ news, u.oneCell' = true)
    (hbytes : (n + 1) * bytes ≤ 140737488355328) (hb1 : 1 ≤ bytes) (hbase : base ≤ w.heap.size)
    (h : ∀ g cap w', w'.ownsRow base e size (.slice (some ⟨g, 0, none⟩) (n + 1) cap) (n + 1) (xs ++ news) → base ≤ g → (∀ B W, B ≤ base → Below B W w → Below B W w') → w.grownBy w' v.ownBlock →
      wpList P ops Q rest (a.put o.dst (.slice (some ⟨g, 0, none⟩) (n + 1) cap)) w') : wpList P ops Q (o :: rest) a w := by
  obtain ⟨i, hi, hz, hsize, hby⟩ := info_parts hinfo
  have h2 : n + 1 ≤ 140737488355328 := Nat.le_trans (Nat.le_mul_of_pos_right _ hb1) hbytes
  refine wpList_append_own w hgd s x t ho base e i z size bytes ht hi hz hsize hby hzs hsz v n xs hs hown ad 1 c news hx (by rw [hl, Nat.one_mul]) hnews h1 (by unfold maxLen; omega) hbytes hbase ?_
  intro v' w' hown' hg _
  have hsh : ∃ g cap, v' = .slice (some ⟨g, 0, none⟩) (n + 1) cap ∧ base ≤ g := by
    rcases hown'.2 with ⟨_, h0⟩ | ⟨g, cap, _, h, hb, _⟩
    · omega
    · exact ⟨g, cap, h, hb⟩
  obtain ⟨g, cap, hv, hb⟩ := hsh
  rw [hv] at hown' ⊢
  exact h g cap w' hown' hb (fun B W hB hW => hW.grown hg (Nat.le_trans hB hbase) (fun k hk => Nat.le_trans hB (hown.lt k hk).1)) hg

/-- The shape of a row of the call's own. -/
theorem own_shape {w : World} {base : Nat} {e : TypeId} {size : Nat} {v : Value} {n : Nat} {xs : List Value} (h : w.ownsRow base e size v n xs) : ∃ A c, v = .slice A n c := by
  rcases h.2 with ⟨rfl, rfl⟩ | ⟨g, cap, _, h, _⟩
  · exact ⟨none, 0, rfl⟩
  · exact ⟨_, _, h⟩
theorem own_some {w : World} {base : Nat} {e : TypeId} {size : Nat} {v : Value} {n : Nat} {xs : List Value} (h : w.ownsRow base e size v n xs) (hn : 0 < n) : ∃ g c, v = .slice (some ⟨g, 0, none⟩) n c ∧ base ≤ g := by
  rcases h.2 with ⟨_, h0⟩ | ⟨g, cap, _, h, hb, _⟩
  · omega
  · exact ⟨_, _, h, hb⟩

/-- Element i, cell j of a list of elements of one size. -/
theorem flat_get {α : Type} (f : α → List Value) (m : Nat) (hm : ∀ x, (f x).length = m) : ∀ (l : List α) (i j : Nat) (x : α), l[i]? = some x → j < m → (l.flatMap f)[i * m + j]? = (f x)[j]?
  | [], i, j, x, h, _ => by simp at h
  | y :: l, 0, j, x, h, hj => by
    simp at h
    subst h
    simp [List.getElem?_append_left (show j < (f y).length by rw [hm]; exact hj)]
  | y :: l, i + 1, j, x, h, hj => by
    have ih := flat_get f m hm l i j x (by simpa using h) hj
    rw [List.flatMap_cons, List.getElem?_append_right (by rw [hm, Nat.add_mul]; omega), hm, ← ih]
    congr 1
    rw [Nat.add_mul]
    omega
theorem flat_length {α : Type} (f : α → List Value) (m : Nat) (hm : ∀ x, (f x).length = m) (l : List α) : (l.flatMap f).length = l.length * m := by
  induction l with
  | nil => simp
  | cons x l ih => rw [List.flatMap_cons, List.length_append, hm, ih, List.length_cons, Nat.add_mul]; omega

/-! ### Quiet calls in a region that draws its order -/
theorem below_drewN {B : Nat} {a w : World} (h : Below B a w) (n : Nat) : Below B a (w.drewN n) := ⟨h.os, h.tape, h.output, h.size, h.block⟩

theorem data_append (a b : ByteArray) : (a ++ b).data.toList = a.data.toList ++ b.data.toList := by
  simp
theorem size_append (a b : ByteArray) : (a ++ b).size = a.size + b.size := by simp
theorem toList_eq_data (a : ByteArray) : a.toList = a.data.toList := ByteArray.toList_eq a

/-- A row that has just been made, all zero. -/
theorem RowV.made (w : World) (z : Value) (n : Nat) (e : TypeId) : RowV (w.alloc (.cells (madeCells #[z] n) e)) w.heap.size (List.replicate n z) := by
  refine ⟨by simp, fun j v hj => ?_⟩
  have hb : (w.alloc (.cells (madeCells #[z] n) e)).heap[w.heap.size]? = some (.cells (madeCells #[z] n) e) := by
    show (w.heap.push _)[w.heap.size]? = _
    simp
  refine ⟨?_, frozen_of_row _ _ _ _ _ hb⟩
  rw [cell_of_row _ _ j _ _ _ hb, ← hj, ← toList_madeCells_one]
  simp

/-- A call that only draws and returns v. -/
def QuietRet (w : World) (v : Value) (e : Ending) (w' : World) : Prop := e = .returned v ∧ ∃ n, w' = w.drewN n

end Go.Proofs.YtfkojnofbpdjdaaGreatDoor

namespace Go.Proofs.YtfkojnofbpdjdaaGreatDoor
set_option maxRecDepth 100000
open Go.ChangeShapes Go.WideShapes Go.ChangeAt Go.RowKit

end Go.Proofs.YtfkojnofbpdjdaaGreatDoor

namespace Go.Proofs.YtfkojnofbpdjdaaGreatDoor
set_option maxRecDepth 100000
open Go.RowKit

/-- The class of a byte. -/
def clsN (n : Int) : Int :=
  if n = 9 ∨ n = 10 ∨ n = 13 ∨ n = 32 then 2
  else if n < 32 ∨ n = 127 then 1
  else if 48 ≤ n ∧ n ≤ 57 then 3
  else if (97 ≤ n ∧ n ≤ 122) ∨ (65 ≤ n ∧ n ≤ 90) ∨ 128 ≤ n then 4
  else 5

/-! ### Names -/
def headB (c : UInt8) : Bool := decide (97 ≤ c.toNat ∧ c.toNat ≤ 122)
def restB (c : UInt8) : Bool := decide ((97 ≤ c.toNat ∧ c.toNat ≤ 122) ∨ (48 ≤ c.toNat ∧ c.toNat ≤ 57) ∨ c.toNat = 45)
def nameL : List UInt8 → Bool
  | [] => false
  | c :: r => decide (r.length ≤ 23) && headB c && r.all restB

theorem nameL_short (l : List UInt8) (h : l.length < 1) : nameL l = false := by
  have : l = [] := List.eq_nil_of_length_eq_zero (by omega)
  subst this
  rfl
theorem nameL_long (l : List UInt8) (h : 24 < l.length) : nameL l = false := by
  match l, h with
  | c :: r, h => simp at h; simp [nameL]; omega
theorem nameL_head (l : List UInt8) (h : 0 < l.length) (hc : headB l[0] = false) : nameL l = false := by
  match l, h with
  | c :: r, h => simp at hc; simp [nameL, hc]
theorem nameL_tail (l : List UInt8) (h : 0 < l.length) (hl : l.length ≤ 24) (hc : headB l[0] = true) : nameL l = (l.drop 1).all restB := by
  match l, h with
  | c :: r, h => simp at hc hl; simp [nameL, hc, hl]
theorem all_drop_step (l : List UInt8) (k : Nat) (h : k < l.length) : (l.drop k).all restB = (restB l[k] && (l.drop (k + 1)).all restB) := by
  rw [List.drop_eq_getElem_cons h, List.all_cons]
theorem all_drop_end (l : List UInt8) (k : Nat) (h : ¬ k < l.length) : (l.drop k).all restB = true := by
  rw [List.drop_of_length_le (by omega)]; rfl

/-! ### Trim -/
/-- What Trim answers: nothing but spaces and 0, 0; or the first and the last byte that is none. -/
def IsTrim (l : List UInt8) (x y : Nat) : Prop :=
  (x = 0 ∧ y = 0 ∧ ∀ (j : Nat) (c : UInt8), l[j]? = some c → clsN c.toNat = 2) ∨
  (x < y ∧ y ≤ l.length ∧ (∀ c, l[x]? = some c → clsN c.toNat ≠ 2) ∧ (∀ c, l[y - 1]? = some c → clsN c.toNat ≠ 2) ∧ (∀ (j : Nat) (c : UInt8), j < x → l[j]? = some c → clsN c.toNat = 2) ∧ ∀ (j : Nat) (c : UInt8), y ≤ j → l[j]? = some c → clsN c.toNat = 2)

theorem IsTrim.bounds {l : List UInt8} {x y : Nat} (h : IsTrim l x y) : x ≤ y ∧ y ≤ l.length := by
  rcases h with ⟨rfl, rfl, _⟩ | ⟨h1, h2, _⟩
  · omega
  · omega

/-! ### Runs -/
end Go.Proofs.YtfkojnofbpdjdaaGreatDoor

namespace Go.Proofs.YtfkojnofbpdjdaaGreatDoor
set_option maxRecDepth 100000
open Go.RowKit

/-- A token or an item. -/
structure Tk where
  k : Int
  t : ByteArray
  d : Int

theorem Tk.ext' {a b : Tk} (h1 : a.k = b.k) (h2 : a.t = b.t) (h3 : a.d = b.d) : a = b := by
  cases a; cases b; simp at h1 h2 h3; rw [h1, h2, h3]
theorem bytes_ext {a b : ByteArray} (h : a.data.toList = b.data.toList) : a = b := by
  obtain ⟨⟨l⟩⟩ := a
  obtain ⟨⟨m⟩⟩ := b
  simp at h
  rw [h]

def bytesOf (f : List Tk) : Nat := (f.map fun x => x.t.size).sum
theorem bytesOf_cons (x : Tk) (f : List Tk) : bytesOf (x :: f) = x.t.size + bytesOf f := by simp [bytesOf]
theorem bytesOf_take (f : List Tk) (k : Nat) : bytesOf (f.take k) ≤ bytesOf f := by
  induction f generalizing k with
  | nil => simp [bytesOf]
  | cons x f ih =>
    cases k with
    | zero => simp [bytesOf]
    | succ k => rw [List.take_succ_cons, bytesOf_cons, bytesOf_cons]; have := ih k; omega
theorem bytesOf_get (f : List Tk) (k : Nat) (h : k < f.length) : bytesOf (f.take k) + f[k].t.size ≤ bytesOf f := by
  have h1 := bytesOf_take f (k + 1)
  rw [List.take_succ_eq_append_getElem h] at h1
  have h2 : bytesOf (f.take k ++ [f[k]]) = bytesOf (f.take k) + f[k].t.size := by
    unfold bytesOf
    rw [List.map_append, List.sum_append]
    simp only [List.map_cons, List.map_nil, List.sum_cons, List.sum_nil, Nat.add_zero]
  omega

end Go.Proofs.YtfkojnofbpdjdaaGreatDoor

namespace Go.Proofs.YtfkojnofbpdjdaaGreatDoor
set_option maxRecDepth 100000
open Go.RowKit

/-- A slice value that reads as the list l; f: an element's cells, m of them. -/
def RdE {α : Type} (f : α → List Value) (m : Nat) (w : World) (v : Value) (l : List α) : Prop :=
  ∃ A c, v = .slice A l.length c ∧ l.length ≤ c ∧ (A = none → c = 0) ∧ (0 < l.length → ∃ b o, A = some ⟨b, o, none⟩ ∧ b < w.heap.size ∧ ∀ (i : Nat) (x : α) (j : Nat) (u : Value), l[i]? = some x → (f x)[j]? = some u →
    w.cell? ⟨b, o + (i * m + j), none⟩ = some u)

section
variable {α : Type} {f : α → List Value} {m : Nat} {w w' : World} {v : Value} {l : List α}
theorem RdE.nil : RdE f m w (.slice none 0 0) ([] : List α) := ⟨none, 0, rfl, by simp, fun _ => rfl, fun h => by simp at h⟩
theorem RdE.keep (h : RdE f m w v l) (hs : w.heap.size ≤ w'.heap.size) (hk : ∀ b, b < w.heap.size → w'.heap[b]? = w.heap[b]?) : RdE f m w' v l := by
  obtain ⟨A, c, hv, hc, hn, h⟩ := h
  refine ⟨A, c, hv, hc, hn, fun h0 => ?_⟩
  obtain ⟨b, o, hA, hb, hx⟩ := h h0
  refine ⟨b, o, hA, by omega, fun i x j u hi hj => ?_⟩
  rw [World.cell?_of_block (w := w) (hk b hb)]
  exact hx i x j u hi hj
theorem RdE.below {B : Nat} (h : RdE f m w v l) (hb : Below B w w') (hB : w.heap.size ≤ B) : RdE f m w' v l :=
  h.keep hb.size (fun b hlt => hb.block b (by omega))
theorem RdE.drewN (h : RdE f m w v l) (n : Nat) : RdE f m (w.drewN n) v l := h
theorem RdE.drew (h : RdE f m w v l) : RdE f m w.drew v l := h
theorem RdE.alloc (h : RdE f m w v l) (o : Obj) : RdE f m (w.alloc o) v l := h.keep (by simp) (fun b hb => Below.heap_alloc w o b hb)
theorem RdE.shape (h : RdE f m w v l) : ∃ A c, v = .slice A l.length c ∧ l.length ≤ c ∧ (A = none → c = 0) := by
  obtain ⟨A, c, hv, hc, hn, _⟩ := h
  exact ⟨A, c, hv, hc, hn⟩
theorem RdE.cells {A : Option Addr} {n c : Nat} (h : RdE f m w (.slice A n c) l) (h0 : 0 < l.length) :
    ∃ b o, A = some ⟨b, o, none⟩ ∧ b < w.heap.size ∧ ∀ (i : Nat) (x : α) (j : Nat) (u : Value), l[i]? = some x → (f x)[j]? = some u → w.cell? ⟨b, o + (i * m + j), none⟩ = some u := by
  obtain ⟨A', c', hv, _, _, h⟩ := h
  injection hv with hA _ _
  subst hA
  exact h h0
theorem RdE.cap {A : Option Addr} {n c : Nat} (h : RdE f m w (.slice A n c) l) : l.length ≤ c := by
  obtain ⟨_, _, hv, hc, _⟩ := h
  injection hv with _ _ h3
  omega
end

/-- A row of the call's own that reads as l. -/
abbrev OwnE {α : Type} (e : TypeId) (f : α → List Value) (m : Nat) (w : World) (B : Nat) (v : Value) (l : List α) : Prop := w.ownsRow B e m v l.length (l.flatMap f)

section
variable {α : Type} {e : TypeId} {f : α → List Value} {m : Nat} {w w' : World} {B : Nat} {v : Value} {l : List α}
theorem OwnE.nil : OwnE e f m w B (.slice none 0 0) ([] : List α) := World.ownsRow_nil _ _ _ _
theorem OwnE.snoc {x : α} (h : w.ownsRow B e m v (l.length + 1) (l.flatMap f ++ f x)) : OwnE e f m w B v (l ++ [x]) := by
  unfold OwnE
  rw [List.length_append, List.flatMap_append]
  simpa using h
theorem own_below {size n : Nat} {xs : List Value} {B' : Nat} (h : w.ownsRow B e size v n xs) (hb : Below B' w w') (hB : w.heap.size ≤ B') : w'.ownsRow B e size v n xs := by
  refine ⟨h.1, ?_⟩
  rcases h.2 with h0 | ⟨g, cap, cur, hv, hbg, hg, rest⟩
  · exact .inl h0
  · refine .inr ⟨g, cap, cur, hv, hbg, ?_, rest⟩
    rw [hb.block g (Nat.lt_of_lt_of_le (Array.getElem?_eq_some_iff.1 hg).1 hB)]
    exact hg
theorem own_base {size n : Nat} {xs : List Value} {B' : Nat} (h : w.ownsRow B e size v n xs) (hB : B' ≤ B) : w.ownsRow B' e size v n xs :=
  ⟨h.1, h.2.imp id (fun ⟨g, cap, cur, a, b, c⟩ => ⟨g, cap, cur, a, Nat.le_trans hB b, c⟩)⟩
theorem OwnE.rd (hm : ∀ x, (f x).length = m) (h : OwnE e f m w B v l) : RdE f m w v l := by
  rcases h.2 with ⟨rfl, h0⟩ | ⟨g, cap, cur, rfl, _, hh, hc, _⟩
  · have : l = [] := List.eq_nil_of_length_eq_zero h0
    subst this
    exact RdE.nil
  · refine ⟨some ⟨g, 0, none⟩, cap, rfl, hc, (fun h => by cases h), fun _ => ⟨g, 0, rfl, (Array.getElem?_eq_some_iff.1 hh).1, fun i x j u hi hj => ?_⟩⟩
    have hil : i < l.length := (List.getElem?_eq_some_iff.1 hi).1
    have hjm : j < m := by rw [← hm x]; exact (List.getElem?_eq_some_iff.1 hj).1
    have hlt : i * m + j < l.length * m := by
      have : (i + 1) * m ≤ l.length * m := Nat.mul_le_mul_right _ hil
      rw [Nat.add_mul] at this
      omega
    rw [Nat.zero_add, h.cellAt (i * m + j) hlt, flat_get f m hm l i j x hi hjm, hj]
end

/-- append(out, xs...): out a row of the call's own, xs a slice that reads as a list (nil, empty or not). -/
theorem wpList_appE {P : Program} {ops : Array Oper} {rest : List Oper} {o : Oper} {a : Act} {Q : Exit → Act → World → Prop} {w : World} {α : Type} (hgd : o.guard = none) (s x : Operand) (t e : TypeId)
    (ho : o.op = .call { callee := .builtin .append, args := #[s, x], argTypes := #[t, t] })
    (ht : P.underlying t = some (.slice e)) (z : Value) (f : α → List Value) (size bytes : Nat) (hinfo : (P.info? e).map (fun i => (i.zero, i.size, i.bytes)) = some (some z, size, bytes)) (hzs : z.cells.size = size) (hsz : 0 < size)
    (hm : ∀ x, (f x).length = size) (h1 : ∀ x, ∀ u ∈ f x, u.oneCell' = true)
    (base : Nat) (v : Value) (l : List α) (hs : a.eval s = v) (hown : w.ownsRow base e size v l.length (l.flatMap f))
    (v2 : Value) (l2 : List α) (hx : a.eval x = v2) (hrd : RdE f size w v2 l2)
    (hbytes : (l.length + l2.length) * bytes ≤ 140737488355328) (hb1 : 1 ≤ bytes) (hbase : base ≤ w.heap.size)
    (h : ∀ v' w', w'.ownsRow base e size v' (l ++ l2).length ((l ++ l2).flatMap f) → (∀ B W, B ≤ base → Below B W w → Below B W w') → w.grownBy w' v.ownBlock → wpList P ops Q rest (a.put o.dst v') w') : wpList P ops Q (o :: rest) a w := by
  obtain ⟨i, hi, hz, hsize, hby⟩ := info_parts hinfo
  have h2 : l.length + l2.length ≤ 140737488355328 := Nat.le_trans (Nat.le_mul_of_pos_right _ hb1) hbytes
  obtain ⟨A, c, hv2, hc, hn, hcell⟩ := hrd
  rcases A with _ | ad
  · have hc0 := hn rfl
    have hl2 : l2 = [] := List.eq_nil_of_length_eq_zero (by omega)
    subst hl2 hc0
    refine wpList_append_own_none hgd s x t ho base e i size ht hi v l.length _ hs hown (by rw [hx, hv2]; rfl) (h v w (by simpa using hown) (fun _ _ _ hB => hB) (World.grownBy.refl w _))
  · refine wpList_append_own w hgd s x t ho base e i z size bytes ht hi hz hsize hby hzs hsz v l.length _ hs hown ad l2.length c (l2.flatMap f) (by rw [hx, hv2]) (flat_length f size hm l2) (fun j u hj => ?_) (fun u hu => ?_) (by unfold maxLen; omega) hbytes hbase ?_
    · have hjl : j < l2.length * size := by rw [← flat_length f size hm l2]; exact (List.getElem?_eq_some_iff.1 hj).1
      have hl0 : 0 < l2.length := by
        rcases Nat.eq_zero_or_pos l2.length with h0 | h0
        · rw [h0] at hjl; omega
        · exact h0
      obtain ⟨b, o', hA, _, hcc⟩ := hcell hl0
      injection hA with hA
      subst hA
      have hq : j / size < l2.length := Nat.div_lt_of_lt_mul (by rw [Nat.mul_comm]; exact hjl)
      have hr : j % size < size := Nat.mod_lt _ hsz
      have hx' : l2[j / size]? = some l2[j / size] := List.getElem?_eq_getElem hq
      have hj2 : j / size * size + j % size = j := by rw [Nat.mul_comm]; exact Nat.div_add_mod j size
      have hg := flat_get f size hm l2 (j / size) (j % size) _ hx' hr
      rw [hj2, hj] at hg
      have := hcc (j / size) _ (j % size) u hx' hg.symm
      rw [hj2] at this
      rw [Addr.add_lit]
      exact this
    · obtain ⟨x, hx, hu⟩ := List.mem_flatMap.1 hu
      exact h1 x u hu
    · intro v' w' hown' hg _
      refine h v' w' ?_ (fun B W hB hW => hW.grown hg (Nat.le_trans hB hbase) (fun k hk => Nat.le_trans hB (hown.lt k hk).1)) hg
      rw [List.length_append, List.flatMap_append]
      exact hown'

/-- A call that returns a row of its own that reads as l. -/
def RetOwn {α : Type} (t : TypeId) (f : α → List Value) (m : Nat) (w : World) (l : List α) (e : Ending) (w' : World) : Prop := ∃ v, e = .returned v ∧ OwnE t f m w' w.heap.size v l ∧ Below w.heap.size w w'

theorem cells_at (w : World) (g : Nat) (hg : w.heap.size = g) (xs : List Value) (t : TypeId) : ∀ j u, xs[j]? = some u → (w.alloc (.cells xs.toArray t)).cell? ((⟨g, 0, none⟩ : Addr).add j) = some u := by
  subst hg
  exact cells_new w xs t

end Go.Proofs.YtfkojnofbpdjdaaGreatDoor

namespace Go.Proofs.YtfkojnofbpdjdaaGreatDoor
set_option maxRecDepth 100000
open Go.RowKit

/-- A token as cells. -/
def tkC (x : Tk) : List Value := [.int .i64 x.k, .string x.t, .int .i64 x.d]
theorem tkC_three (x : Tk) : (tkC x).length = 3 := rfl
theorem tkC_one (x : Tk) : ∀ u ∈ tkC x, u.oneCell' = true := by
  intro u hu
  simp [tkC] at hu
  rcases hu with rfl | rfl | rfl <;> rfl
theorem item_info : (Tryz.prog.info? 31).map (fun i => (i.zero, i.size, i.bytes)) = some (some (.agg #[.int .i64 0, .string ⟨#[]⟩, .int .i64 0]), 3, 32) := by kernel_rfl

/-- A slice value that reads as a list of tokens (or items). -/
abbrev RdT (w : World) (v : Value) (l : List Tk) : Prop := RdE tkC 3 w v l
/-- A row of tokens (e: their type) of the call's own. -/
abbrev OwnT (e : TypeId) (w : World) (B : Nat) (v : Value) (l : List Tk) : Prop := OwnE e tkC 3 w B v l

/-- What a round of a loop over such a slice wants. -/
theorem RdT.at_ {w : World} {A : Option Addr} {n c : Nat} {l : List Tk} (h : RdT w (.slice A n c) l) (k : Nat) (hk : k < l.length) :
    ∃ b o, A = some ⟨b, o, none⟩ ∧ b < w.heap.size ∧ w.cell? ⟨b, o + k * 3, none⟩ = some (.int .i64 l[k].k) ∧ w.cell? ⟨b, o + k * 3 + 1, none⟩ = some (.string l[k].t) ∧ w.cell? ⟨b, o + k * 3 + 2, none⟩ = some (.int .i64 l[k].d) := by
  obtain ⟨b, o, hA, hb, hx⟩ := RdE.cells h (by omega)
  have hi : l[k]? = some l[k] := List.getElem?_eq_getElem hk
  exact ⟨b, o, hA, hb, hx k _ 0 _ hi rfl, hx k _ 1 _ hi rfl, hx k _ 2 _ hi rfl⟩

end Go.Proofs.YtfkojnofbpdjdaaGreatDoor

namespace Go.Proofs.YtfkojnofbpdjdaaGreatDoor
set_option maxRecDepth 100000
open Go.ChangeShapes Go.WideShapes Go.ChangeAt Go.RowKit Go.Deep Go.Joins

theorem wf_i64 {n : Int} (h : (Lit.int .i64 n).wf = true) : -9223372036854775808 ≤ n ∧ n ≤ 9223372036854775807 := by
  simp only [Lit.wf, Bool.and_eq_true, decide_eq_true_eq] at h
  exact h

section
variable {H : Type} {enc : TypeId × Value → H} {P : Program} {w : World} {base : Nat} {spare : Nat → Bool} {held : Bool}

theorem open_rows {α : Type} (f : α → List Value) (m : Nat) (good : α → Prop) {r : Reach} {b0 : Nat} {t e : TypeId} {v : Value} {d : DataW H} {p : List MemPlace} (ht : P.underlying t = some (.slice e)) (hC : P.cellsOf e = m) (hm : ∀ x, (f x).length = m) (hm0 : 0 < m)
    (hel : ∀ n cs x, DataW.trod enc P w base spare held n e cs = some x → ∃ y : α, cs = f y ∧ good y) (hv : Value.okWide P w r b0 t v) (h : DataW.Trod enc P w base spare held t v d p) :
    ∃ (A : Option Addr) (n c : Nat) (l : List α), v = .slice A n c ∧ n = l.length ∧ l.length ≤ maxLen ∧ RdE f m w (.slice A n c) l ∧ ∀ x ∈ l, good x := by
  obtain ⟨A, n, c, rfl⟩ := okWide_slice ht hv
  obtain ⟨fuel, hf⟩ := h
  rcases open_slice ht hf with ⟨h0, _⟩ | ⟨a, len, cap, k, n', D, Pl, hcs, _, hl, hmx, hk, _, hi⟩
  · simp [Value.cells] at h0
    obtain ⟨rfl, rfl, rfl⟩ := h0
    exact ⟨none, 0, 0, [], rfl, rfl, by simp, RdE.nil, by simp⟩
  · simp [Value.cells] at hcs
    obtain ⟨rfl, rfl, rfl⟩ := hcs
    have hlk : n ≤ k := by rw [hk]; split <;> omega
    have hall : ∀ i : Fin n, ∃ y : α, good y ∧ ∀ (j : Nat) (u : Value), (f y)[j]? = some u → w.cell? (a.add (i.val * m + j)) = some u := by
      intro i
      obtain ⟨cs', hc, htr⟩ := hi i.val (by omega)
      obtain ⟨y, rfl, hy⟩ := hel _ _ _ htr
      refine ⟨y, hy, fun j u hju => ?_⟩
      obtain ⟨_, hcl, hat⟩ := World.cells?_some hc
      have hjm : j < m := by rw [← hm y]; exact (List.getElem?_eq_some_iff.1 hju).1
      have := hat j (by rw [hC]; exact hjm)
      rw [hju, hC, Go.Deep.add_add] at this
      exact this
    refine ⟨some a, n, c, List.ofFn fun i => Classical.choose (hall i), rfl, by simp, by simp; omega, ?_, ?_⟩
    · refine ⟨some a, c, by simp, by simp; omega, (fun h => by cases h), fun h0 => ?_⟩
      have hn0 : 0 < n := by simpa using h0
      have hc0 := Classical.choose_spec (hall ⟨0, hn0⟩)
      have h00 : (f (Classical.choose (hall ⟨0, hn0⟩)))[0]? = some _ := List.getElem?_eq_getElem (by rw [hm]; omega)
      have hcell0 := hc0.2 0 _ h00
      obtain ⟨b, o, sp⟩ := a
      have hsp : sp = none := by simpa [Addr.add] using World.cell?_spot hcell0
      subst hsp
      have hbl : b < w.heap.size := by
        unfold World.cell? at hcell0
        split at hcell0
        · rename_i hh
          have := (Array.getElem?_eq_some_iff.1 hh).1
          rw [Addr.add_lit] at this
          exact this
        · cases hcell0
      refine ⟨b, o, rfl, hbl, fun i x j u hx hu => ?_⟩
      rw [List.getElem?_ofFn] at hx
      split at hx
      · rename_i hin
        injection hx with hx
        subst hx
        have := (Classical.choose_spec (hall ⟨i, hin⟩)).2 j u hu
        rw [Addr.add_lit] at this
        exact this
      · cases hx
    · intro x hx
      obtain ⟨i, rfl⟩ := List.mem_ofFn.1 hx
      exact (Classical.choose_spec (hall i)).1

end

section
variable {H : Type} {enc : TypeId × Value → H} {w : World} {base : Nat} {spare : Nat → Bool} {held : Bool}
/-- An int in a slice. -/
def intC (x : Int) : List Value := [.int .i64 x]
theorem intC_one (x : Int) : (intC x).length = 1 := rfl
def IntIn (x : Int) : Prop := -9223372036854775808 ≤ x ∧ x ≤ 9223372036854775807
theorem open_intl {r : Reach} {b0 : Nat} {v : Value} {d : DataW H} {p : List MemPlace} (hv : Value.okWide Tryz.prog w r b0 22 v) (h : DataW.Trod enc Tryz.prog w base spare held 22 v d p) :
    ∃ (A : Option Addr) (n c : Nat) (l : List Int), v = .slice A n c ∧ n = l.length ∧ l.length ≤ maxLen ∧ RdE intC 1 w (.slice A n c) l ∧ ∀ x ∈ l, IntIn x :=
  open_rows intC 1 IntIn Tryz.underlying22 (by kernel_rfl) intC_one (by decide) (fun n cs x h => by
    obtain ⟨a, e, _, wf⟩ := DataW.trod_int Tryz.underlying3 h
    exact ⟨a, e, wf_i64 wf⟩) hv h
end

end Go.Proofs.YtfkojnofbpdjdaaGreatDoor

namespace Go.Proofs.YtfkojnofbpdjdaaGreatDoor
set_option maxRecDepth 100000
open Go.RowKit

/-- One item more, texts joined. -/
def normStep (out : List Tk) (x : Tk) : List Tk :=
  if x.k ≠ 1 then out ++ [x] else if x.t.size = 0 then out else match out.getLast? with
    | some y => if y.k = 1 then out.dropLast ++ [⟨1, y.t ++ x.t, 0⟩] else out ++ [⟨1, x.t, 0⟩]
    | none => [⟨1, x.t, 0⟩]
def normL (f : List Tk) : List Tk := f.foldl normStep []

theorem normL_snoc (f : List Tk) (x : Tk) : normL (f ++ [x]) = normStep (normL f) x := by simp [normL]
theorem normL_take (f : List Tk) (k : Nat) (h : k < f.length) : normL (f.take (k + 1)) = normStep (normL (f.take k)) f[k] := by
  rw [List.take_succ_eq_append_getElem h, normL_snoc]
theorem step_other (out : List Tk) (x : Tk) (h : x.k ≠ 1) : normStep out x = out ++ [x] := by rw [normStep, if_pos h]
theorem step_empty (out : List Tk) (x : Tk) (h : x.k = 1) (h2 : x.t.size = 0) : normStep out x = out := by
  rw [normStep, if_neg (by omega), if_pos h2]
theorem step_first (x : Tk) (h : x.k = 1) (h2 : x.t.size ≠ 0) : normStep [] x = [⟨1, x.t, 0⟩] := by
  rw [normStep, if_neg (by omega), if_neg h2]
  rfl
theorem step_join (out : List Tk) (y x : Tk) (h : x.k = 1) (h2 : x.t.size ≠ 0) (hy : y.k = 1) : normStep (out ++ [y]) x = out ++ [⟨1, y.t ++ x.t, 0⟩] := by
  rw [normStep, if_neg (by omega), if_neg h2]
  simp [hy]
theorem step_new (out : List Tk) (y x : Tk) (h : x.k = 1) (h2 : x.t.size ≠ 0) (hy : y.k ≠ 1) : normStep (out ++ [y]) x = out ++ [y] ++ [⟨1, x.t, 0⟩] := by
  rw [normStep, if_neg (by omega), if_neg h2]
  simp [hy]

theorem normStep_length (out : List Tk) (x : Tk) : (normStep out x).length ≤ out.length + 1 := by
  unfold normStep
  split
  · simp
  · split
    · omega
    · split
      · split
        · simp; try omega
        · simp
      · simp
theorem normL_length (f : List Tk) : (normL f).length ≤ f.length := by
  suffices h : ∀ (g : List Tk) (out : List Tk), (g.foldl normStep out).length ≤ out.length + g.length by
    have := h f []
    simpa [normL] using this
  intro g
  induction g with
  | nil => intro out; simp
  | cons x g ih =>
    intro out
    rw [List.foldl_cons, List.length_cons]
    have h1 := ih (normStep out x)
    have h2 := normStep_length out x
    omega
theorem bytesOf_append (f g : List Tk) : bytesOf (f ++ g) = bytesOf f + bytesOf g := by simp [bytesOf]
theorem bytesOf_one (x : Tk) : bytesOf [x] = x.t.size := by simp [bytesOf]
theorem normStep_bytes (out : List Tk) (x : Tk) : bytesOf (normStep out x) = bytesOf out + x.t.size := by
  by_cases h : x.k = 1
  · by_cases h2 : x.t.size = 0
    · rw [step_empty out x h h2]; omega
    · rcases List.eq_nil_or_concat out with rfl | ⟨o, y, rfl⟩
      · rw [step_first x h h2]; simp [bytesOf]
      · rw [List.concat_eq_append]
        by_cases hy : y.k = 1
        · rw [step_join o y x h h2 hy, bytesOf_append, bytesOf_append, bytesOf_one, bytesOf_one]
          simp
          omega
        · rw [step_new o y x h h2 hy, bytesOf_append, bytesOf_append, bytesOf_one, bytesOf_one]
  · rw [step_other out x h, bytesOf_append, bytesOf_one]
theorem normL_bytes (f : List Tk) : bytesOf (normL f) = bytesOf f := by
  suffices h : ∀ (g : List Tk) (out : List Tk), bytesOf (g.foldl normStep out) = bytesOf out + bytesOf g by
    have := h f []
    simpa [normL, bytesOf] using this
  intro g
  induction g with
  | nil => intro out; simp [bytesOf]
  | cons x g ih =>
    intro out
    rw [List.foldl_cons, ih, normStep_bytes, bytesOf_cons]
    omega

/-- A normal fragment: no empty text, no two texts side by side, texts without numbers. -/
def Normal : List Tk → Prop
  | [] => True
  | x :: r => (x.k = 1 → x.t.size ≠ 0 ∧ x.d = 0 ∧ ∀ y, r.head? = some y → y.k ≠ 1) ∧ Normal r

theorem Normal.snoc_other (out : List Tk) (x : Tk) (h : Normal out) (hx : x.k ≠ 1) : Normal (out ++ [x]) := by
  induction out with
  | nil => exact ⟨fun h => absurd h hx, trivial⟩
  | cons y r ih =>
    refine ⟨fun hy => ?_, ih h.2⟩
    obtain ⟨a, b, c⟩ := h.1 hy
    refine ⟨a, b, fun z hz => ?_⟩
    cases r with
    | nil => simp at hz; rw [← hz]; exact hx
    | cons u r => exact c z (by simpa using hz)
theorem Normal.snoc_text (out : List Tk) (y x : Tk) (h : Normal (out ++ [y])) (hy : y.k ≠ 1) (h2 : x.t.size ≠ 0) (h3 : x.d = 0) : Normal (out ++ [y] ++ [x]) := by
  induction out with
  | nil => exact ⟨fun h => absurd h hy, fun _ => ⟨h2, h3, fun z hz => by simp at hz⟩, trivial⟩
  | cons u r ih =>
    refine ⟨fun hu => ?_, ih h.2⟩
    obtain ⟨a, b, c⟩ := h.1 hu
    refine ⟨a, b, fun z hz => c z ?_⟩
    cases r with
    | nil => simpa using hz
    | cons u r => simpa using hz
theorem Normal.replace (out : List Tk) (y x : Tk) (h : Normal (out ++ [y])) (hy : y.k = 1) (_h1 : x.k = 1) (h2 : x.t.size ≠ 0) (h3 : x.d = 0) : Normal (out ++ [x]) := by
  induction out with
  | nil => exact ⟨fun _ => ⟨h2, h3, fun z hz => by simp at hz⟩, trivial⟩
  | cons u r ih =>
    refine ⟨fun hu => ?_, ih h.2⟩
    obtain ⟨a, b, c⟩ := h.1 hu
    refine ⟨a, b, fun z hz => ?_⟩
    cases r with
    | nil => exact absurd hy (c y rfl)
    | cons v r => exact c z (by simpa using hz)
theorem Normal.step (out : List Tk) (x : Tk) (h : Normal out) : Normal (normStep out x) := by
  by_cases hk : x.k = 1
  · by_cases h2 : x.t.size = 0
    · rw [step_empty out x hk h2]; exact h
    · rcases List.eq_nil_or_concat out with rfl | ⟨o, y, rfl⟩
      · rw [step_first x hk h2]
        exact ⟨fun _ => ⟨h2, rfl, fun z hz => by simp at hz⟩, trivial⟩
      · rw [List.concat_eq_append] at h ⊢
        by_cases hy : y.k = 1
        · rw [step_join o y x hk h2 hy]
          exact Normal.replace o y _ h hy rfl (by show (y.t ++ x.t).size ≠ 0; rw [ByteArray.size_append]; omega) rfl
        · rw [step_new o y x hk h2 hy]
          exact Normal.snoc_text o y _ h hy h2 rfl
  · rw [step_other out x hk]
    exact Normal.snoc_other out x h hk
theorem normL_normal (f : List Tk) : Normal (normL f) := by
  suffices h : ∀ (g out : List Tk), Normal out → Normal (g.foldl normStep out) from h f [] trivial
  intro g
  induction g with
  | nil => intro out h; exact h
  | cons x g ih => intro out h; exact ih _ (Normal.step out x h)

/-- Kinds of items. -/
def Kinds (f : List Tk) : Prop := ∀ x ∈ f, 1 ≤ x.k ∧ x.k ≤ 5
theorem Kinds.step (out : List Tk) (x : Tk) (h : Kinds out) (hx : 1 ≤ x.k ∧ x.k ≤ 5) : Kinds (normStep out x) := by
  intro z hz
  by_cases hk : x.k = 1
  · by_cases h2 : x.t.size = 0
    · rw [step_empty out x hk h2] at hz; exact h z hz
    · rcases List.eq_nil_or_concat out with rfl | ⟨o, y, rfl⟩
      · rw [step_first x hk h2] at hz
        simp at hz
        subst hz
        exact ⟨by show (1 : Int) ≤ 1; omega, by show (1 : Int) ≤ 5; omega⟩
      · rw [List.concat_eq_append] at h hz
        by_cases hy : y.k = 1
        · rw [step_join o y x hk h2 hy] at hz
          rcases List.mem_append.1 hz with hz | hz
          · exact h z (List.mem_append.2 (.inl hz))
          · simp at hz
            subst hz
            exact ⟨by show (1 : Int) ≤ 1; omega, by show (1 : Int) ≤ 5; omega⟩
        · rw [step_new o y x hk h2 hy] at hz
          rcases List.mem_append.1 hz with hz | hz
          · exact h z hz
          · simp at hz
            subst hz
            exact ⟨by show (1 : Int) ≤ 1; omega, by show (1 : Int) ≤ 5; omega⟩
  · rw [step_other out x hk] at hz
    rcases List.mem_append.1 hz with hz | hz
    · exact h z hz
    · simp at hz
      subst hz
      exact hx
theorem Kinds.norm (f : List Tk) (h : Kinds f) : Kinds (normL f) := by
  suffices hh : ∀ (g out : List Tk), Kinds g → Kinds out → Kinds (g.foldl normStep out) from hh f [] h (fun _ h => by simp at h)
  intro g
  induction g with
  | nil => intro out _ h; exact h
  | cons x g ih => intro out hg ho; exact ih _ (fun y hy => hg y (List.mem_cons_of_mem _ hy)) (Kinds.step out x ho (hg x (List.mem_cons_self ..)))

/-- Normal fragments stay. -/
theorem foldl_normal (f out : List Tk) (h : Normal (out ++ f)) : f.foldl normStep out = out ++ f := by
  induction f generalizing out with
  | nil => simp
  | cons x r ih =>
    have hx : normStep out x = out ++ [x] := by
      by_cases hk : x.k = 1
      · have hgen : ∀ o : List Tk, Normal (o ++ x :: r) → x.t.size ≠ 0 ∧ x.d = 0 ∧ ∀ p y, o = p ++ [y] → y.k ≠ 1 := by
          intro o
          induction o with
          | nil => intro h; exact ⟨(h.1 hk).1, (h.1 hk).2.1, fun p y e => by simp at e⟩
          | cons u o iho =>
            intro h
            obtain ⟨a, b, c⟩ := iho h.2
            refine ⟨a, b, fun p y e => ?_⟩
            cases p with
            | nil =>
              simp at e
              obtain ⟨rfl, rfl⟩ := e
              intro hu
              exact (h.1 hu).2.2 x rfl hk
            | cons q p =>
              simp at e
              exact c p y e.2
        obtain ⟨a, b, c⟩ := hgen out h
        have hxe : (⟨1, x.t, 0⟩ : Tk) = x := Tk.ext' hk.symm rfl b.symm
        rcases List.eq_nil_or_concat out with rfl | ⟨o, y, rfl⟩
        · rw [step_first x hk a, hxe]; rfl
        · rw [List.concat_eq_append]
          rw [step_new o y x hk a (c o y (by rw [List.concat_eq_append])), hxe]
      · exact step_other out x hk
    rw [List.foldl_cons, hx, ih _ (by rw [List.append_assoc]; exact h), List.append_assoc]
    rfl
theorem normL_of_normal (f : List Tk) (h : Normal f) : normL f = f := by
  have := foldl_normal f [] h
  simpa [normL] using this

end Go.Proofs.YtfkojnofbpdjdaaGreatDoor

namespace Go.Proofs.YtfkojnofbpdjdaaGreatDoor
set_option maxRecDepth 100000
open Go.RowKit

end Go.Proofs.YtfkojnofbpdjdaaGreatDoor

namespace Go.Proofs.YtfkojnofbpdjdaaGreatDoor
set_option maxRecDepth 100000
open Go.RowKit

def NoText (out : List Tk) : Prop := ∀ y, out.getLast? = some y → y.k ≠ 1
theorem empty_of_size {a : ByteArray} (h : a.size = 0) : a = ⟨#[]⟩ := by
  apply bytes_ext
  rw [Lib.size_eq] at h
  exact List.eq_nil_of_length_eq_zero h
theorem append_empty (a : ByteArray) : a ++ ⟨#[]⟩ = a := by apply bytes_ext; simp
theorem empty_append (a : ByteArray) : (⟨#[]⟩ : ByteArray) ++ a = a := by apply bytes_ext; simp
theorem append_assoc' (a b c : ByteArray) : a ++ b ++ c = a ++ (b ++ c) := by apply bytes_ext; simp

theorem step_noText (out : List Tk) (t : ByteArray) (d : Int) (h : NoText out) (h0 : t.size ≠ 0) : normStep out ⟨1, t, d⟩ = out ++ [⟨1, t, 0⟩] := by
  rcases List.eq_nil_or_concat out with rfl | ⟨o, y, rfl⟩
  · exact step_first ⟨1, t, d⟩ rfl h0
  · rw [List.concat_eq_append] at h ⊢
    exact step_new o y ⟨1, t, d⟩ rfl h0 (h y (by simp))
theorem step_none (out : List Tk) (t : ByteArray) (d : Int) (h0 : t.size = 0) : normStep out ⟨1, t, d⟩ = out := step_empty out ⟨1, t, d⟩ rfl h0

/-- Two texts one behind the other are one. -/
theorem step_assoc (out : List Tk) (a b : ByteArray) (d d' d'' : Int) : normStep (normStep out ⟨1, a, d⟩) ⟨1, b, d'⟩ = normStep out ⟨1, a ++ b, d''⟩ := by
  by_cases ha : a.size = 0
  · rw [step_none _ _ _ ha, empty_of_size ha, empty_append]
    by_cases hb : b.size = 0
    · rw [step_none _ _ _ hb, step_none _ _ _ hb]
    · rcases List.eq_nil_or_concat out with rfl | ⟨o, y, rfl⟩
      · rw [step_first ⟨1, b, d'⟩ rfl hb, step_first ⟨1, b, d''⟩ rfl hb]
      · by_cases hy : y.k = 1
        · rw [List.concat_eq_append, step_join o y ⟨1, b, d'⟩ rfl hb hy, step_join o y ⟨1, b, d''⟩ rfl hb hy]
        · rw [List.concat_eq_append, step_new o y ⟨1, b, d'⟩ rfl hb hy, step_new o y ⟨1, b, d''⟩ rfl hb hy]
  · have hab : (a ++ b).size ≠ 0 := by rw [ByteArray.size_append]; omega
    have key : ∀ o z, normStep (o ++ [⟨1, z, 0⟩]) ⟨1, b, d'⟩ = o ++ [⟨1, z ++ b, 0⟩] := by
      intro o z
      by_cases hb : b.size = 0
      · rw [step_none _ _ _ hb, empty_of_size hb, append_empty]
      · rw [step_join o ⟨1, z, 0⟩ ⟨1, b, d'⟩ rfl hb rfl]
    rcases List.eq_nil_or_concat out with rfl | ⟨o, y, rfl⟩
    · rw [step_first ⟨1, a, d⟩ rfl ha, step_first ⟨1, a ++ b, d''⟩ rfl hab]
      exact key [] a
    · rw [List.concat_eq_append]
      by_cases hy : y.k = 1
      · rw [step_join o y ⟨1, a, d⟩ rfl ha hy, step_join o y ⟨1, a ++ b, d''⟩ rfl hab hy, key, append_assoc']
      · rw [step_new o y ⟨1, a, d⟩ rfl ha hy, step_new o y ⟨1, a ++ b, d''⟩ rfl hab hy, key]

end Go.Proofs.YtfkojnofbpdjdaaGreatDoor

namespace Go.Proofs.YtfkojnofbpdjdaaGreatDoor
set_option maxRecDepth 100000
open Go.RowKit

theorem run_appE {P : Program} {w : World} {α : Type} (t ty e : TypeId) (ht : P.underlying t = some (.slice e)) (z : Value) (f : α → List Value) (size bytes : Nat)
    (hinfo : (P.info? e).map (fun i => (i.zero, i.size, i.bytes)) = some (some z, size, bytes)) (hzs : z.cells.size = size) (hsz : 0 < size) (hm : ∀ x, (f x).length = size) (h1 : ∀ x, ∀ u ∈ f x, u.oneCell' = true)
    (base : Nat) (v : Value) (l : List α) (hown : w.ownsRow base e size v l.length (l.flatMap f)) (v2 : Value) (l2 : List α) (hrd : RdE f size w v2 l2)
    (hbytes : (l.length + l2.length) * bytes ≤ 140737488355328) (hb1 : 1 ≤ bytes) (hbase : base ≤ w.heap.size) :
    ∃ v' w', (Builtin.append_ #[t, t] ty #[v, v2]).run P w = .ok v' w' ∧ w'.ownsRow base e size v' (l ++ l2).length ((l ++ l2).flatMap f) ∧ (∀ B W, B ≤ base → Below B W w → Below B W w') ∧ w.grownBy w' v.ownBlock ∧
      (v'.ownBlock = v.ownBlock ∨ v'.ownBlock = some w.heap.size) := by
  obtain ⟨i, hi, hz, hsize, hby⟩ := info_parts hinfo
  have h2 : l.length + l2.length ≤ 140737488355328 := Nat.le_trans (Nat.le_mul_of_pos_right _ hb1) hbytes
  obtain ⟨A, c, hv2, hc, hn, hcell⟩ := hrd
  subst hv2
  rcases A with _ | ad
  · have hc0 := hn rfl
    have hl2 : l2 = [] := List.eq_nil_of_length_eq_zero (by omega)
    subst hl2 hc0
    exact ⟨v, w, run_append_owned_none (P := P) (w := w) base t ty e i size ht hi v l.length _ hown, by simpa using hown, fun _ _ _ hB => hB, World.grownBy.refl w _, .inl rfl⟩
  · obtain ⟨v', w', hr, hown', hg, _, hat⟩ := run_append_own_at (P := P) w base t ty e i z size bytes ht hi hz hsize hby hzs hsz v l.length _ hown ad l2.length c (l2.flatMap f) (flat_length f size hm l2) (fun j u hj => by
        have hjl : j < l2.length * size := by rw [← flat_length f size hm l2]; exact (List.getElem?_eq_some_iff.1 hj).1
        have hl0 : 0 < l2.length := by
          rcases Nat.eq_zero_or_pos l2.length with h0 | h0
          · rw [h0] at hjl; omega
          · exact h0
        obtain ⟨b, o', hA, _, hcc⟩ := hcell hl0
        injection hA with hA
        subst hA
        have hq : j / size < l2.length := Nat.div_lt_of_lt_mul (by rw [Nat.mul_comm]; exact hjl)
        have hr : j % size < size := Nat.mod_lt _ hsz
        have hx' : l2[j / size]? = some l2[j / size] := List.getElem?_eq_getElem hq
        have hj2 : j / size * size + j % size = j := by rw [Nat.mul_comm]; exact Nat.div_add_mod j size
        have hg := flat_get f size hm l2 (j / size) (j % size) _ hx' hr
        rw [hj2, hj] at hg
        have := hcc (j / size) _ (j % size) u hx' hg.symm
        rw [hj2] at this
        rw [Addr.add_lit]
        exact this) (fun u hu => by
        obtain ⟨x, hx, hu⟩ := List.mem_flatMap.1 hu
        exact h1 x u hu) (by unfold maxLen; omega) hbytes hbase
    refine ⟨v', w', hr, ?_, (fun B W hB hW => hW.grown hg (Nat.le_trans hB hbase) (fun k hk => Nat.le_trans hB (hown.lt k hk).1)), hg, hat⟩
    rw [List.length_append, List.flatMap_append]
    exact hown'

theorem wp_appE {P : Program} {o : Oper} {a : Act} {K : Act → World → Prop} {Q : Exit → Act → World → Prop} {w : World} {α : Type} (s x : Operand) (t e : TypeId)
    (ho : o.op = .call { callee := .builtin .append, args := #[s, x], argTypes := #[t, t] })
    (ht : P.underlying t = some (.slice e)) (z : Value) (f : α → List Value) (size bytes : Nat) (hinfo : (P.info? e).map (fun i => (i.zero, i.size, i.bytes)) = some (some z, size, bytes)) (hzs : z.cells.size = size) (hsz : 0 < size)
    (hm : ∀ x, (f x).length = size) (h1 : ∀ x, ∀ u ∈ f x, u.oneCell' = true)
    (base : Nat) (v : Value) (l : List α) (hs : a.eval s = v) (hown : w.ownsRow base e size v l.length (l.flatMap f))
    (v2 : Value) (l2 : List α) (hx : a.eval x = v2) (hrd : RdE f size w v2 l2)
    (hbytes : (l.length + l2.length) * bytes ≤ 140737488355328) (hb1 : 1 ≤ bytes) (hbase : base ≤ w.heap.size)
    (h : ∀ v' w', w'.ownsRow base e size v' (l ++ l2).length ((l ++ l2).flatMap f) → (∀ B W, B ≤ base → Below B W w → Below B W w') → w.grownBy w' v.ownBlock → (v'.ownBlock = v.ownBlock ∨ v'.ownBlock = some w.heap.size) → K (a.put o.dst v') w') : o.wp P a w K Q := by
  obtain ⟨v', w', hr, h2, h3, h4, h5⟩ := run_appE (P := P) t o.type e ht z f size bytes hinfo hzs hsz hm h1 base v l hown v2 l2 hrd hbytes hb1 hbase
  unfold Oper.wp execOp
  simp only [ho, resolve, invoke, builtin, Sem.run_bind, Sem.run_pure, Result.andThen_ok, List.map_toArray, List.map_cons, List.map_nil, hs, hx, hr]
  exact h v' w' h2 h3 h4 h5

/-- The same at a step of a region that draws its order. -/
theorem step_appE {P : Program} {ops : Array Oper} {o : Oper} {a : Act} {K : Act → World → Prop} {Q : Exit → Act → World → Prop} {E : Prop} {w : World} {α : Type} (hgd : o.guard = none) (s x : Operand) (t e : TypeId)
    (ho : o.op = .call { callee := .builtin .append, args := #[s, x], argTypes := #[t, t] })
    (ht : P.underlying t = some (.slice e)) (z : Value) (f : α → List Value) (size bytes : Nat) (hinfo : (P.info? e).map (fun i => (i.zero, i.size, i.bytes)) = some (some z, size, bytes)) (hzs : z.cells.size = size) (hsz : 0 < size)
    (hm : ∀ x, (f x).length = size) (h1 : ∀ x, ∀ u ∈ f x, u.oneCell' = true)
    (base : Nat) (v : Value) (l : List α) (hs : a.eval s = v) (hown : w.ownsRow base e size v l.length (l.flatMap f))
    (v2 : Value) (l2 : List α) (hx : a.eval x = v2) (hrd : RdE f size w v2 l2)
    (hbytes : (l.length + l2.length) * bytes ≤ 140737488355328) (hb1 : 1 ≤ bytes) (hbase : base ≤ w.heap.size)
    (h : ∀ v' w', w'.ownsRow base e size v' (l ++ l2).length ((l ++ l2).flatMap f) → (∀ B W, B ≤ base → Below B W w → Below B W w') → w.grownBy w' v.ownBlock → (v'.ownBlock = v.ownBlock ∨ v'.ownBlock = some w.heap.size) → K (a.put o.dst v') w') :
    if Region.wanted o (yielded ops a.tmps) = true then Oper.wp P o a w K Q else E := by
  have hw : Region.wanted o (yielded ops a.tmps) = true := by simp [Region.wanted, hgd]
  rw [if_pos hw]
  exact wp_appE s x t e ho ht z f size bytes hinfo hzs hsz hm h1 base v l hs hown v2 l2 hx hrd hbytes hb1 hbase h

section
variable {α : Type} {e : TypeId} {f : α → List Value} {m : Nat} {w w' : World} {B : Nat} {v : Value} {l : List α}
/-- A row of the call's own whose block reads as it did. -/
theorem own_same {size n : Nat} {xs : List Value} (h : w.ownsRow B e size v n xs) (hk : ∀ k, v.ownBlock = some k → w'.heap[k]? = w.heap[k]?) : w'.ownsRow B e size v n xs := by
  refine ⟨h.1, ?_⟩
  rcases h.2 with h0 | ⟨g, cap, cur, hv, hbg, hg, rest⟩
  · exact .inl h0
  · refine .inr ⟨g, cap, cur, hv, hbg, ?_, rest⟩
    rw [hk g (by rw [hv]; rfl)]
    exact hg
/-- The head of a slice. -/
theorem RdE.take {A : Option Addr} {n c : Nat} (h : RdE f m w (.slice A n c) l) (k : Nat) (hk : k ≤ l.length) : RdE f m w (.slice A k c) (l.take k) := by
  obtain ⟨A', c', hv, hc, hn, hx⟩ := h
  injection hv with h1 h2 h3
  subst h1 h2 h3
  have hlen : (l.take k).length = k := by simp; omega
  refine ⟨A, c, by rw [hlen], by omega, hn, fun h0 => ?_⟩
  obtain ⟨b, o, hA, hb, hcc⟩ := hx (by omega)
  refine ⟨b, o, hA, hb, fun i x j u hi hj => hcc i x j u ?_ hj⟩
  have hik : i < k := by rw [← hlen]; exact (List.getElem?_eq_some_iff.1 hi).1
  rw [List.getElem?_take_of_lt hik] at hi
  exact hi
/-- The rest of a slice: its address, if anything is left behind it. -/
theorem RdE.drop {b o n c : Nat} (h : RdE f m w (.slice (some ⟨b, o, none⟩) n c) l) (k : Nat) (hk : k ≤ l.length) (A : Option Addr) (hA : k < l.length → A = some ⟨b, o + k * m, none⟩) (hA2 : A ≠ none) :
    RdE f m w (.slice A (n - k) (c - k)) (l.drop k) := by
  obtain ⟨A', c', hv, hc, hn, hx⟩ := h
  injection hv with h1 h2 h3
  subst h1 h2 h3
  refine ⟨A, c - k, by rw [List.length_drop], by rw [List.length_drop]; omega, fun e => absurd e hA2, fun h0 => ?_⟩
  rw [List.length_drop] at h0
  obtain ⟨b', o', hA', hb, hcc⟩ := hx (by omega)
  injection hA' with hA'
  injection hA' with e1 e2 _
  subst e1 e2
  refine ⟨b, o + k * m, hA (by omega), hb, fun i x j u hi hj => ?_⟩
  rw [List.getElem?_drop] at hi
  have := hcc (k + i) x j u hi hj
  rw [show o + ((k + i) * m + j) = o + k * m + (i * m + j) by rw [Nat.add_mul]; omega] at this
  exact this
end

end Go.Proofs.YtfkojnofbpdjdaaGreatDoor

namespace Go.Proofs.YtfkojnofbpdjdaaGreatDoor
set_option maxRecDepth 100000
open Go.RowKit

theorem u8_info : (Tryz.prog.info? 5).map (fun i => (i.zero, i.size, i.bytes)) = some (some (.int .u8 0), 1, 1) := by kernel_rfl

theorem str_cells_append (a b : ByteArray) : Go.Lib.strCells a ++ Go.Lib.strCells b = Go.Lib.strCells (a ++ b) := by
  unfold Go.Lib.strCells
  simp

/-- A row of bytes of the call's own, as a string. -/
theorem run_string_own {w : World} {base : Nat} {e : TypeId} {A : Option Addr} {n c : Nat} (s : ByteArray) (src dst : TypeId) (hs : Tryz.prog.underlying src = some (.slice e)) (he : Tryz.prog.underlying e = some (.int .u8)) (hd : Tryz.prog.underlying dst = some .string)
    (h : w.ownsRow base e 1 (.slice A n c) n (Go.Lib.strCells s)) (hn : n = s.size) (h0 : 0 < n) : (convert src dst (.slice A n c)).run Tryz.prog w = .ok (.string s) w := by
  obtain ⟨g, c', hv, _⟩ := own_some h h0
  injection hv with h1 _ h3
  subst h1 h3
  have hl : n = s.data.toList.length := by rw [hn, Lib.size_eq]
  have := run_convert_bytes_back (P := Tryz.prog) w src dst e ⟨g, 0, none⟩ c s.data.toList hs he hd (fun j hj => by
    have hc := h.cells (g := g) rfl j (.int .u8 (s.data.toList[j].toNat : Int)) (by
      unfold Go.Lib.strCells
      rw [List.getElem?_map, List.getElem?_eq_getElem hj]
      rfl)
    exact hc)
  rw [← hl] at this
  exact this

set_option maxHeartbeats 1000000 in
theorem same3_yes (l : List Tk) (v u : Value) (w : World) (h1 : RdT w v l) (h2 : RdT w u l) (hl : l.length ≤ 1000000) :
    Calls Tryz.prog 16 #[v, u] w (QuietRet w (.bool true)) := by
  obtain ⟨A, c, rfl, _, _⟩ := h1.shape
  obtain ⟨A2, c2, rfl, _, _⟩ := h2.shape
  have H1 := Lib.hid h1
  have H2 := Lib.hid h2
  clear h1 h2
  go_enter Tryz.func16, Tryz.ntmps16
  go_wp2_with fail
  go_loopw [13] (fun i wr => ∃ k nq : Nat, k ≤ l.length ∧ i = .int .i64 k ∧ wr = w.drewN nq) (fun i _ => l.length - (intOf i).toNat)
  case atStart => exact ⟨0, 0, by omega, rfl, rfl⟩
  case round =>
    obtain ⟨k, nq, hk, rfl, rfl⟩ := hrel
    by_cases hkl : k < l.length
    · obtain ⟨b, o, rfl, hbl, q1, q2, q3⟩ := RdT.at_ H1.out k hkl
      obtain ⟨b2, o2, rfl, hbl2, r1, r2, r3⟩ := RdT.at_ H2.out k hkl
      generalize l[k] = x at q1 q2 q3 r1 r2 r3
      obtain ⟨xk, xt, xd⟩ := x
      simp only at q1 q2 q3 r1 r2 r3
      go_wp2_with fail
      go_quiet (fail)
      go_wp2_with fail
      exact ⟨⟨k + 1, _, by omega, by go_num, rfl⟩, by simp [intOf]; try omega⟩
    · obtain rfl : k = l.length := by omega
      go_wp2_with fail
      go_ret
      exact ⟨rfl, nq, rfl⟩

end Go.Proofs.YtfkojnofbpdjdaaGreatDoor

namespace Go.Proofs.YtfkojnofbpdjdaaGreatDoor
set_option maxRecDepth 100000

def wdI (x : Tk) : Nat := if x.k = 1 then x.t.size else 1
def lenI : List Tk → Nat
  | [] => 0
  | x :: f => wdI x + lenI f
theorem lenI_app : ∀ (f g : List Tk), lenI (f ++ g) = lenI f + lenI g
  | [], g => by simp [lenI]
  | x :: f, g => by rw [List.cons_append, lenI, lenI, lenI_app f g]; omega
theorem lenI_take (f : List Tk) (k : Nat) (h : k < f.length) : lenI (f.take (k + 1)) = lenI (f.take k) + wdI f[k] := by
  rw [List.take_succ_eq_append_getElem h, lenI_app]
  simp [lenI]
theorem lenI_le (f : List Tk) (k : Nat) : lenI (f.take k) ≤ lenI f := by
  have h := lenI_app (f.take k) (f.drop k)
  rw [List.take_append_drop] at h
  omega
/-- The bytes of one item. -/
def byI (x : Tk) : List UInt8 := if x.k = 1 then x.t.data.toList else if x.k = 5 then [255] else []
def plI (f : List Tk) : List UInt8 := f.flatMap byI
def plS (f : List Tk) : ByteArray := ⟨(plI f).toArray⟩
theorem plI_take (f : List Tk) (k : Nat) (h : k < f.length) : plI (f.take (k + 1)) = plI (f.take k) ++ byI f[k] := by
  unfold plI
  rw [List.take_succ_eq_append_getElem h, List.flatMap_append]
  simp
theorem plI_app (f g : List Tk) : plI (f ++ g) = plI f ++ plI g := by simp [plI]
theorem byI_len (x : Tk) : (byI x).length ≤ wdI x := by
  unfold byI wdI
  split
  · simp
  · split <;> simp
theorem plI_len : ∀ f : List Tk, (plI f).length ≤ lenI f
  | [] => by simp [plI, lenI]
  | x :: f => by
    have h := plI_len f
    have h2 := byI_len x
    rw [show x :: f = [x] ++ f from rfl, plI_app, lenI_app, List.length_append]
    have e : plI [x] = byI x := by simp [plI]
    have e2 : lenI [x] = wdI x := by simp [lenI]
    rw [e, e2]
    omega
theorem plS_size (f : List Tk) : (plS f).size = (plI f).length := by
  show (plI f).toArray.size = _
  simp
theorem plS_text (f : List Tk) (k : Nat) (h : k < f.length) (hk : f[k].k = 1) : plS (f.take k) ++ f[k].t = plS (f.take (k + 1)) := by
  apply ByteArray.ext
  rw [ByteArray.data_append]
  show (plI (f.take k)).toArray ++ f[k].t.data = (plI (f.take (k + 1))).toArray
  rw [plI_take f k h]
  unfold byI
  rw [if_pos hk]
  apply Array.ext'
  simp
theorem plS_slot (f : List Tk) (k : Nat) (h : k < f.length) (hk : f[k].k = 5) : plS (f.take k) ++ ⟨#[255]⟩ = plS (f.take (k + 1)) := by
  apply ByteArray.ext
  rw [ByteArray.data_append]
  show (plI (f.take k)).toArray ++ #[255] = (plI (f.take (k + 1))).toArray
  rw [plI_take f k h]
  unfold byI
  rw [if_neg (by omega), if_pos hk]
  apply Array.ext'
  simp
theorem plS_none (f : List Tk) (k : Nat) (h : k < f.length) (h1 : f[k].k ≠ 1) (h5 : f[k].k ≠ 5) : plS (f.take k) = plS (f.take (k + 1)) := by
  unfold plS
  rw [plI_take f k h]
  unfold byI
  rw [if_neg h1, if_neg h5, List.append_nil]

end Go.Proofs.YtfkojnofbpdjdaaGreatDoor

namespace Go.Proofs.YtfkojnofbpdjdaaGreatDoor
set_option maxRecDepth 100000
open Go.RowKit

set_option maxHeartbeats 4000000 in
theorem norm_anyL (f : List Tk) (v : Value) (w : World) (hf : RdT w v f) (hl : f.length ≤ 100000) (hbt : lenI f ≤ 1000000) :
    Calls Tryz.prog 104 #[v] w (RetOwn 31 tkC 3 w (normL f)) := by
  obtain ⟨A, c, rfl, _, _⟩ := hf.shape
  have HF := Lib.hid hf
  obtain ⟨i8, hi8, hz8, hs8, hb8⟩ := info_parts u8_info
  have HI8 := Lib.hid hi8
  have HZ8 := Lib.hid hz8
  have HS8 := Lib.hid hs8
  have HB8 := Lib.hid hb8
  clear hf hi8 hz8 hs8 hb8
  go_enter Tryz.func104, Tryz.ntmps104
  go_wp2
  go_loopw [3, 4] (fun ov i wr => ∃ k : Nat, k ≤ f.length ∧ i = .int .i64 k ∧ Hid (OwnT 31 wr w.heap.size ov (normL (f.take k))) ∧ Below w.heap.size w wr ∧ Hid (∀ h : k < f.length, (f[k]'h).k = 1 → NoText (normL (f.take k)))) (fun _ i _ => f.length - (intOf i).toNat)
  case atStart => exact ⟨0, by omega, rfl, OwnE.nil, Below.refl _ _, fun _ _ y hy => by simp [normL] at hy⟩
  case round =>
    obtain ⟨k, hk, rfl, HO, hb, HN⟩ := hrel
    have hsize := hb.size
    obtain ⟨A', c', hv⟩ := own_shape HO.out
    subst hv
    have hol : (normL (f.take k)).length ≤ f.length := by
      have := normL_length (f.take k)
      rw [List.length_take] at this
      omega
    by_cases hkl : k < f.length
    · obtain ⟨b, o, rfl, hbl, q1, q2, q3⟩ := RdT.at_ HF.out k hkl
      rw [← hb.cell (p := ⟨b, o + k * 3, none⟩) hbl] at q1
      rw [← hb.cell (p := ⟨b, o + k * 3 + 1, none⟩) hbl] at q2
      rw [← hb.cell (p := ⟨b, o + k * 3 + 2, none⟩) hbl] at q3
      have HT := Lib.hid (normL_take f k hkl)
      have HNK := Lib.hid (HN.out hkl)
      generalize hx : f[k] = x at q1 q2 q3 HT HNK
      have HX := Lib.hid hx
      obtain ⟨xk, xt, xd⟩ := x
      simp only at q1 q2 q3
      clear hx
      by_cases h1 : xk = 1
      · have HNO := Lib.hid (HNK.out h1)
        generalize hout : normL (f.take k) = out at HO hol HNO HT
        have HOUT := Lib.hid hout
        subst h1
        clear hout
        go_wp2_with fail
        obtain ⟨wo, rfl⟩ : ∃ wo : World, wo = wr := ⟨_, rfl⟩
        go_loopw [4, 5] (fun i bv wi => ∃ (j : Nat) (bs : ByteArray), k ≤ j ∧ j ≤ f.length ∧ i = .int .i64 j ∧ bs.size ≤ 1000000 ∧ Hid (bs.size ≤ lenI (f.take j)) ∧ Hid (wi.ownsRow wo.heap.size 5 1 bv bs.size (Go.Lib.strCells bs)) ∧ Hid (Below wo.heap.size wo wi) ∧ Hid (normL (f.take j) = normStep out ⟨1, bs, 0⟩) ∧ Hid (j = k → bs.size = 0)) (fun i _ _ => f.length - (intOf i).toNat)
        case atStart => exact ⟨k, ⟨#[]⟩, by omega, by omega, rfl, by decide, Nat.zero_le _, World.ownsRow_nil _ _ _ _, Below.refl _ _, by rw [step_none _ _ _ rfl]; exact HOUT.out, fun _ => rfl⟩
        case round =>
          obtain ⟨j, bs, hkj, hj, rfl, hbs, HBS, HBV, HBI, HNJ, HJK⟩ := hrel
          obtain ⟨A2, c2, hv2⟩ := own_shape HBV.out
          subst hv2
          have hzi := HBI.out.size
          have HOI := Lib.hid (own_below HO.out HBI.out (Nat.le_refl _))
          have HBW := Lib.hid (hb.trans (HBI.out.mono hsize))
          by_cases hjl : j < f.length
          · have hlt2 : decide ((j : Int) < (f.length : Int)) = true := by simp; omega
            obtain ⟨b', o', hA', _, p1, p2, p3⟩ := RdT.at_ HF.out j hjl
            injection hA' with hA'
            injection hA' with e1 e2 _
            subst e1 e2
            rw [← HBW.out.cell (p := ⟨b, o + j * 3, none⟩) hbl] at p1
            rw [← HBW.out.cell (p := ⟨b, o + j * 3 + 1, none⟩) hbl] at p2
            rw [← HBW.out.cell (p := ⟨b, o + j * 3 + 2, none⟩) hbl] at p3
            have HTJ := Lib.hid (normL_take f j hjl)
            have hgb := lenI_le f (j + 1)
            rw [lenI_take f j hjl] at hgb
            have HBJ := Lib.hid (lenI_take f j hjl)
            unfold wdI at hgb HBJ
            generalize hy : f[j] = y at p1 p2 p3 HTJ hgb HBJ
            have HY := Lib.hid hy
            obtain ⟨yk, yt, yd⟩ := y
            simp only at p1 p2 p3 hgb
            clear hy
            have hbsz := HBS.out
            by_cases hy1 : yk = 1
            · subst hy1
              simp only [if_true] at hgb HBJ
              go_wp2_with (at_builtin; go_must (refine Go.Lib.wpList_append_own_string _ rfl (.tmp 37) (.tmp 42) 89 9 rfl wo.heap.size 5 i8 Tryz.underlying89 Tryz.underlying9 HI8.out HZ8.out HS8.out HB8.out _ bs.size _ rfl (by exact HBV.out) yt rfl (by unfold maxLen; omega) (by omega) (by exact HBI.out.size) ?_); intro v7 w7 hown7 hgr7 _)
              have hB7 := HBI.out.grown hgr7 (by exact HBI.out.size) (fun q hq => (HBV.out.lt q hq).1)
              refine ⟨⟨j + 1, bs ++ yt, by omega, by omega, by go_num, by rw [ByteArray.size_append]; omega, ?_, ?_, hB7, ?_, fun h => absurd h (by omega)⟩, by simp [intOf]; try omega⟩
              · show (bs ++ yt).size ≤ lenI (f.take (j + 1))
                rw [ByteArray.size_append, HBJ.out]
                show bs.size + yt.size ≤ lenI (f.take j) + yt.size
                omega
              · rw [str_cells_append] at hown7
                rw [ByteArray.size_append]
                exact hown7
              · show normL (f.take (j + 1)) = normStep out ⟨1, bs ++ yt, 0⟩
                rw [HTJ.out, HNJ.out, step_assoc _ _ _ _ _ 0]
            · have ty : (yk == 1) = false := by simpa using hy1
              have hjk : k < j := by
                rcases Nat.lt_or_ge k j with h | h
                · exact h
                · exfalso
                  obtain rfl : j = k := by omega
                  have := HX.out
                  rw [HY.out] at this
                  injection this with e _ _
                  exact hy1 e
              by_cases hz : 0 < bs.size
              · have hcv := run_string_own bs 89 9 Tryz.underlying89 Tryz.underlying5 Tryz.underlying9 HBV.out rfl hz
                go_wp2_with (at_builtin; go_must (refine wpList_app1 rfl (.tmp 49) (.tmp 53) 24 31 rfl Tryz.underlying24 _ 3 32 item_info rfl (by decide) w.heap.size _ out.length (out.flatMap tkC) rfl (by exact World.ownsRow.alloc HOI.out _) ⟨wr.heap.size, 0, none⟩ 1 (tkC ⟨1, bs, 0⟩) rfl rfl (by exact cells_at _ _ rfl _ _) (tkC_one _) (by omega) (by decide) (by simp; omega) ?_); intro g cap w1 hown1 hg1 hbel1 hgr1)
                refine ⟨⟨j, by omega, rfl, ?_, hbel1 _ _ (Nat.le_refl _) (by exact HBW.out.alloc (by omega) _), fun h hk => by rw [HY.out] at hk; exact absurd hk hy1⟩, by simp [intOf]; try omega⟩
                rw [HNJ.out, step_noText _ _ _ HNO.out (by omega)]
                exact OwnE.snoc hown1
              · have hz0 : bs.size = 0 := by omega
                have HOJ : Hid (normL (f.take j) = out) := by
                  show normL (f.take j) = out
                  rw [HNJ.out, step_none _ _ _ hz0]
                have HZ0 := Lib.hid hz0
                clear hz0
                go_wp2_with fail
                refine ⟨⟨j, by omega, rfl, ?_, HBW.out, fun h hk => by rw [HY.out] at hk; exact absurd hk hy1⟩, by simp [intOf]; try omega⟩
                rw [HOJ.out]
                exact HOI.out
          · obtain rfl : j = f.length := by omega
            have hlt2 : decide ((f.length : Int) < (f.length : Int)) = false := by simp
            by_cases hz : 0 < bs.size
            · have hcv := run_string_own bs 89 9 Tryz.underlying89 Tryz.underlying5 Tryz.underlying9 HBV.out rfl hz
              go_wp2_with (at_builtin; go_must (refine wpList_app1 rfl (.tmp 49) (.tmp 53) 24 31 rfl Tryz.underlying24 _ 3 32 item_info rfl (by decide) w.heap.size _ out.length (out.flatMap tkC) rfl (by exact World.ownsRow.alloc HOI.out _) ⟨wr.heap.size, 0, none⟩ 1 (tkC ⟨1, bs, 0⟩) rfl rfl (by exact cells_at _ _ rfl _ _) (tkC_one _) (by omega) (by decide) (by simp; omega) ?_); intro g cap w1 hown1 hg1 hbel1 hgr1)
              refine ⟨⟨f.length, by omega, rfl, ?_, hbel1 _ _ (Nat.le_refl _) (by exact HBW.out.alloc (by omega) _), fun h => absurd h (by omega)⟩, by simp [intOf]; try omega⟩
              rw [HNJ.out, step_noText _ _ _ HNO.out (by omega)]
              exact OwnE.snoc hown1
            · have hz0 : bs.size = 0 := by omega
              have HOJ : Hid (normL (f.take f.length) = out) := by
                show normL (f.take f.length) = out
                rw [HNJ.out, step_none _ _ _ hz0]
              have HZ0 := Lib.hid hz0
              clear hz0
              go_wp2_with fail
              refine ⟨⟨f.length, by omega, rfl, ?_, HBW.out, fun h => absurd h (by omega)⟩, by simp [intOf]; try omega⟩
              rw [HOJ.out]
              exact HOI.out
      · have t1 : (xk != 1) = true := by simpa using h1
        have h1' : xk ≠ 1 := h1
        have H1 := Lib.hid h1'
        clear h1 h1'
        go_wp2_with (at_builtin; go_must (refine wpList_app1 rfl (.tmp 16) (.tmp 21) 24 31 rfl Tryz.underlying24 _ 3 32 item_info rfl (by decide) w.heap.size _ (normL (f.take k)).length ((normL (f.take k)).flatMap tkC) rfl (by exact World.ownsRow.alloc HO.out _) ⟨wr.heap.size, 0, none⟩ 1 (tkC ⟨xk, xt, xd⟩) rfl rfl (by exact cells_at _ _ rfl _ _) (tkC_one _) (by omega) (by decide) (by simp; omega) ?_); intro g cap w1 hown1 hg1 hbel1 hgr1)
        have hst := step_other (normL (f.take k)) ⟨xk, xt, xd⟩ H1.out
        refine ⟨⟨k + 1, by omega, by go_num, ?_, hbel1 _ _ (Nat.le_refl _) (by exact hb.alloc hsize _), fun h _ y hy => ?_⟩, by simp [intOf]; try omega⟩
        · rw [HT.out, hst]
          exact OwnE.snoc hown1
        · rw [HT.out, hst] at hy
          simp at hy
          rw [← hy]
          exact H1.out
    · obtain rfl : k = f.length := by omega
      have he := HO.out
      rw [List.take_length] at he hol ⊢
      have HE := Lib.hid he
      have e0 : decide ((f.length : Int) < (f.length : Int)) = false := by simp
      clear he HO
      go_wp2_with fail
      go_ret
      exact ⟨_, rfl, HE.out, hb⟩

end Go.Proofs.YtfkojnofbpdjdaaGreatDoor

namespace Go.Proofs.YtfkojnofbpdjdaaGreatDoor
set_option maxRecDepth 100000
open Go.RowKit

section
variable {P : Program} {ops : Array Oper} {w : World} {Q : Act → Prop} {a : Act} {o : Oper} {rest : List Oper}
theorem ex_move (x : Operand) (v : Value) (ho : o.op = .move x) (hx : a.eval x = v) : (execOp a.eval o).run P w = .ok (.value v) w := by
  unfold execOp
  simp only [ho, hx]
  rfl
theorem ex_assign (x : Operand) (v : Value) (ho : o.op = .assign x) (hx : a.eval x = v) : (execOp a.eval o).run P w = .ok (.value v) w := by
  unfold execOp
  simp only [ho, hx]
  rfl
theorem ex_pick (c x y : Operand) (b : Bool) (vx vy : Value) (ho : o.op = .pick c x y) (hc : a.eval c = .bool b) (hx : a.eval x = vx) (hy : a.eval y = vy) : (execOp a.eval o).run P w = .ok (.value (if b = true then vx else vy)) w := by
  unfold execOp
  simp only [ho, hx, hy, hc]
  rfl
theorem ex_indexAddr (t : TypeId) (x i : Operand) (vx vi v : Value) (ho : o.op = .indexAddr t x i) (hx : a.eval x = vx) (hi : a.eval i = vi) (hr : (Instr.indexAt t vx vi).run P w = .ok v w) : (execOp a.eval o).run P w = .ok (.value v) w := by
  unfold execOp
  simp only [ho, hx, hi, Sem.run_bind, hr, Result.andThen_ok, Sem.run_pure]
theorem ex_fieldAddr (t : TypeId) (x : Operand) (f : Nat) (vx v : Value) (ho : o.op = .fieldAddr t x f) (hx : a.eval x = vx) (hr : (Instr.fieldAt t vx f).run P w = .ok v w) : (execOp a.eval o).run P w = .ok (.value v) w := by
  unfold execOp
  simp only [ho, hx, Sem.run_bind, hr, Result.andThen_ok, Sem.run_pure]
theorem ex_load (t : TypeId) (x : Operand) (vx v : Value) (ho : o.op = .load t x) (hx : a.eval x = vx) (hr : (Instr.loadAt t vx).run P w = .ok v w) : (execOp a.eval o).run P w = .ok (.value v) w := by
  unfold execOp
  simp only [ho, hx, Sem.run_bind, hr, Result.andThen_ok, Sem.run_pure]
theorem ex_index (t : TypeId) (x i : Operand) (vx vi v : Value) (ho : o.op = .index t x i) (hx : a.eval x = vx) (hi : a.eval i = vi) (hr : (Instr.index t vx vi).run P w = .ok v w) : (execOp a.eval o).run P w = .ok (.value v) w := by
  unfold execOp
  simp only [ho, hx, hi, Sem.run_bind, hr, Result.andThen_ok, Sem.run_pure]
theorem ex_binOp (op : BinOp) (t t2 : TypeId) (x y : Operand) (vx vy v : Value) (ho : o.op = .binOp op t x y t2) (hx : a.eval x = vx) (hy : a.eval y = vy) (hr : (do eqGuard op t x y vx vy; Go.binOp op t vx vy : Sem Value).run P w = .ok v w) : (execOp a.eval o).run P w = .ok (.value v) w := by
  unfold execOp
  simp only [ho, hx, hy]
  rw [Sem.run_bind, hr]
  rfl
/-- A region that draws its order, what has come up written out. -/
theorem wp_region_at {QE : Exit → Act → World → Prop} {id : Nat} (n : Nat) (l0 : Array Bool) (hn : ops.size = n) (hl : Array.replicate n false = l0) (hm : P.follows .mixedOrders = true)
    (h : wpAny P .any ops QE n l0 a w.drew) : (Code.region id ops true).wp P QE a w := by
  subst hn hl
  exact wp_region_any hm h
theorem at_drop {i : Nat} {oi : Oper} {rs : List Oper} (h : ops.toList.drop i = oi :: rs) : ops[i]? = some oi := by
  rw [← Array.getElem?_toList]
  have := congrArg (fun l => l[0]?) h
  simpa using this
/-- wpAny_take, the slot written out. -/
theorem wpAny_at {md : Region.Mode} {QE : Exit → Act → World → Prop} {i : Nat} {oi : Oper} (d : Option Tmp) {v : Value} {fuel : Nat} {listed : Array Bool} {rs : List Oper} (hi0 : ops.toList.drop i = oi :: rs) (hd : oi.dst = d)
    (hs : Region.noSelect ops = true) (hf : Region.free md ops listed i = true) (hr : (Region.ready md ops listed).contains i = true)
    (hQ : ∀ c a w, QE (.panic c) (a.put oi.dst v) w → QE (.panic c) a w) (hw : Region.wanted oi (yielded ops a.tmps) = true) (hv : ∀ w, (execOp a.eval oi).run P w = .ok (.value v) w)
    (h : wpAny P md ops QE fuel (listed.setIfInBounds i true) (a.put d v) w) : wpAny P md ops QE (fuel + 1) listed a w := by
  subst hd
  have hi := at_drop hi0
  exact wpAny_take hi hs hf hr hQ (Or.inl ⟨hw, hv⟩) h
/-- One operation alone may come up. -/
theorem wpAny_only {md : Region.Mode} {QE : Exit → Act → World → Prop} (i : Nat) {oi : Oper} {fuel : Nat} {listed : Array Bool} {rs : List Oper} (hr : Region.ready md ops listed = [i]) (hi : ops.toList.drop i = oi :: rs) (hw : Region.wanted oi (yielded ops a.tmps) = true)
    (h : Oper.wp P oi a w (wpAny P md ops QE fuel (listed.setIfInBounds i true)) QE) : wpAny P md ops QE (fuel + 1) listed a w :=
  wpAny_ready hr (by simp) (AllReady.cons (at_drop hi) (fun K hK => by rw [if_pos hw]; exact Oper.wp_mono hK h) AllReady.nil)
theorem wpAny_two {md : Region.Mode} {QE : Exit → Act → World → Prop} (i j : Nat) {oi oj : Oper} {fuel : Nat} {listed : Array Bool} {rs rs2 : List Oper} (hr : Region.ready md ops listed = [i, j]) (hi : ops.toList.drop i = oi :: rs) (hj : ops.toList.drop j = oj :: rs2) (hwi : Region.wanted oi (yielded ops a.tmps) = true) (hwj : Region.wanted oj (yielded ops a.tmps) = true)
    (h1 : Oper.wp P oi a w (wpAny P md ops QE fuel (listed.setIfInBounds i true)) QE) (h2 : Oper.wp P oj a w (wpAny P md ops QE fuel (listed.setIfInBounds j true)) QE) : wpAny P md ops QE (fuel + 1) listed a w :=
  wpAny_ready hr (by simp) (AllReady.cons (at_drop hi) (fun K hK => by rw [if_pos hwi]; exact Oper.wp_mono hK h1) (AllReady.cons (at_drop hj) (fun K hK => by rw [if_pos hwj]; exact Oper.wp_mono hK h2) AllReady.nil))
/-- One load alone may come up. (No goal 'Oper.wp ..' may stand open: elaborating against it runs the operation and what follows.) -/
theorem wpAny_load {md : Region.Mode} {QE : Exit → Act → World → Prop} (i : Nat) (d : Option Tmp) {oi : Oper} {fuel : Nat} {listed : Array Bool} {rs : List Oper} (hr : Region.ready md ops listed = [i]) (hi : ops.toList.drop i = oi :: rs) (hd : oi.dst = d) (hw : Region.wanted oi (yielded ops a.tmps) = true)
    (ty : TypeId) (x : Operand) (ho : oi.op = .load ty x) (b o : Nat) (hx : a.eval x = .pointer (some ⟨b, o, none⟩)) (cs : List Value) (dd : TypeDesc) (hc : w.rangeAt b o cs) (hu : P.underlying ty = some dd) (hdd : dd.isRow = true) (hsz : (P.info? ty).map (·.size) = some cs.length)
    (h : wpAny P md ops QE fuel (listed.setIfInBounds i true) (a.put d (.agg cs.toArray)) w) : wpAny P md ops QE (fuel + 1) listed a w := by
  subst hd
  exact wpAny_only i hr hi hw (wp_load_mid ty x ho b o hx cs dd hc hu hdd hsz h)
theorem wpAny_loads {md : Region.Mode} {QE : Exit → Act → World → Prop} (i j : Nat) (d e : Option Tmp) {oi oj : Oper} {fuel : Nat} {listed : Array Bool} {rs rs2 : List Oper} (hr : Region.ready md ops listed = [i, j]) (hi : ops.toList.drop i = oi :: rs) (hj : ops.toList.drop j = oj :: rs2) (hd : oi.dst = d) (he : oj.dst = e)
    (hwi : Region.wanted oi (yielded ops a.tmps) = true) (hwj : Region.wanted oj (yielded ops a.tmps) = true)
    (ty : TypeId) (x : Operand) (ho : oi.op = .load ty x) (b o : Nat) (hx : a.eval x = .pointer (some ⟨b, o, none⟩)) (cs : List Value) (dd : TypeDesc) (hc : w.rangeAt b o cs) (hu : P.underlying ty = some dd) (hdd : dd.isRow = true) (hsz : (P.info? ty).map (·.size) = some cs.length)
    (ty2 : TypeId) (x2 : Operand) (ho2 : oj.op = .load ty2 x2) (b2 o2 : Nat) (hx2 : a.eval x2 = .pointer (some ⟨b2, o2, none⟩)) (cs2 : List Value) (dd2 : TypeDesc) (hc2 : w.rangeAt b2 o2 cs2) (hu2 : P.underlying ty2 = some dd2) (hdd2 : dd2.isRow = true) (hsz2 : (P.info? ty2).map (·.size) = some cs2.length)
    (h1 : wpAny P md ops QE fuel (listed.setIfInBounds i true) (a.put d (.agg cs.toArray)) w) (h2 : wpAny P md ops QE fuel (listed.setIfInBounds j true) (a.put e (.agg cs2.toArray)) w) : wpAny P md ops QE (fuel + 1) listed a w := by
  subst hd he
  exact wpAny_two i j hr hi hj hwi hwj (wp_load_mid ty x ho b o hx cs dd hc hu hdd hsz h1) (wp_load_mid ty2 x2 ho2 b2 o2 hx2 cs2 dd2 hc2 hu2 hdd2 hsz2 h2)
theorem wpAny_store {md : Region.Mode} {QE : Exit → Act → World → Prop} (i : Nat) {oi : Oper} {fuel : Nat} {listed : Array Bool} {rs : List Oper} (hr : Region.ready md ops listed = [i]) (hi : ops.toList.drop i = oi :: rs) (hd : oi.dst = none) (hw : Region.wanted oi (yielded ops a.tmps) = true)
    (ty : TypeId) (x y : Operand) (ho : oi.op = .store ty x y) (b o : Nat) (cells : List Value) (hx : a.eval x = .pointer (some ⟨b, o, none⟩)) (hy : a.eval y = .agg cells.toArray) (ht : w.there b o cells.length) (hsz : (P.info? ty).map (·.size) = some cells.length) (h1 : cells.toArray.all (·.oneCell') = true)
    (h : wpAny P md ops QE fuel (listed.setIfInBounds i true) a (w.setCells b o cells)) : wpAny P md ops QE (fuel + 1) listed a w := by
  refine wpAny_only i hr hi hw (wp_store_mid ty x y ho b o cells.toArray hx hy (by simpa using ht) (by simpa using hsz) h1 ?_)
  rw [hd]
  exact h
/-- A reading operation that alone may come up: its value in this world. -/
theorem wpAny_val {md : Region.Mode} {QE : Exit → Act → World → Prop} (i : Nat) (d : Option Tmp) (v : Value) {oi : Oper} {fuel : Nat} {listed : Array Bool} {rs : List Oper} (hr : Region.ready md ops listed = [i]) (hi : ops.toList.drop i = oi :: rs) (hd : oi.dst = d) (hw : Region.wanted oi (yielded ops a.tmps) = true)
    (hv : (execOp a.eval oi).run P w = .ok (.value v) w) (h : wpAny P md ops QE fuel (listed.setIfInBounds i true) (a.put d v) w) : wpAny P md ops QE (fuel + 1) listed a w := by
  subst hd
  refine wpAny_only i hr hi hw ?_
  show Oper.upon _ _ _ _ _ _
  rw [hv]
  exact h
/-- An operation whose guard does not hold. -/
theorem wpAny_skip {md : Region.Mode} {QE : Exit → Act → World → Prop} (i : Nat) (d : Option Tmp) {oi : Oper} {fuel : Nat} {listed : Array Bool} {rs : List Oper} (hi0 : ops.toList.drop i = oi :: rs) (hd : oi.dst = d)
    (hs : Region.noSelect ops = true) (hf : Region.free md ops listed i = true) (hr : (Region.ready md ops listed).contains i = true)
    (hQ : ∀ c a w, QE (.panic c) (a.put oi.dst undef) w → QE (.panic c) a w) (hw : Region.wanted oi (yielded ops a.tmps) = false)
    (h : wpAny P md ops QE fuel (listed.setIfInBounds i true) (a.put d undef) w) : wpAny P md ops QE (fuel + 1) listed a w := by
  subst hd
  exact wpAny_take (at_drop hi0) hs hf hr hQ (Or.inr ⟨hw, rfl⟩) h
/-- A call that alone may come up. -/
theorem wpAny_call {md : Region.Mode} {QE : Exit → Act → World → Prop} (i : Nat) (d : Option Tmp) {oi : Oper} {fuel : Nat} {listed : Array Bool} {rs : List Oper} (hr : Region.ready md ops listed = [i]) (hi : ops.toList.drop i = oi :: rs) (hd : oi.dst = d) (hw : Region.wanted oi (yielded ops a.tmps) = true)
    (f : FuncId) (vs : Array Value) (hrun : (execOp a.eval oi).run P w = .ok (.enter f vs) w) {Post : Ending → World → Prop} (hc : Calls P f vs w Post)
    (h : ∀ e w', Post e w' → ∃ v, e = .returned v ∧ wpAny P md ops QE fuel (listed.setIfInBounds i true) (a.put d v) w') : wpAny P md ops QE (fuel + 1) listed a w := by
  subst hd
  refine wpAny_only i hr hi hw ?_
  show Oper.upon _ _ _ _ _ _
  rw [hrun, Oper.upon_enter]
  refine hc.mono fun e w' hp => ?_
  obtain ⟨v, rfl, hv⟩ := h e w' hp
  exact hv
end

end Go.Proofs.YtfkojnofbpdjdaaGreatDoor

namespace Go.Proofs.YtfkojnofbpdjdaaGreatDoor
set_option maxRecDepth 100000
open Go.RowKit

section
variable {P : Program} {ops : Array Oper} {w : World} {a : Act}
theorem wp_of_val {o : Oper} {v : Value} {K : Act → World → Prop} {QE : Exit → Act → World → Prop} (hv : (execOp a.eval o).run P w = .ok (.value v) w) (h : K (a.put o.dst v) w) : Oper.wp P o a w K QE := by
  show Oper.upon _ _ _ _ _ _
  rw [hv]
  exact h
theorem wp_of_call {o : Oper} {f : FuncId} {vs : Array Value} {K : Act → World → Prop} {QE : Exit → Act → World → Prop} (hrun : (execOp a.eval o).run P w = .ok (.enter f vs) w) {Post : Ending → World → Prop} (hc : Calls P f vs w Post)
    (h : ∀ e w', Post e w' → ∃ v, e = .returned v ∧ K (a.put o.dst v) w') : Oper.wp P o a w K QE := by
  show Oper.upon _ _ _ _ _ _
  rw [hrun, Oper.upon_enter]
  refine hc.mono fun e w' hp => ?_
  obtain ⟨v, rfl, hv⟩ := h e w' hp
  exact hv
theorem wpAny_vals {md : Region.Mode} {QE : Exit → Act → World → Prop} (i j : Nat) (d e : Option Tmp) (v u : Value) {oi oj : Oper} {fuel : Nat} {listed : Array Bool} {rs rs2 : List Oper} (hr : Region.ready md ops listed = [i, j]) (hi : ops.toList.drop i = oi :: rs) (hj : ops.toList.drop j = oj :: rs2) (hd : oi.dst = d) (he : oj.dst = e)
    (hwi : Region.wanted oi (yielded ops a.tmps) = true) (hwj : Region.wanted oj (yielded ops a.tmps) = true) (hv : (execOp a.eval oi).run P w = .ok (.value v) w) (hu : (execOp a.eval oj).run P w = .ok (.value u) w)
    (h1 : wpAny P md ops QE fuel (listed.setIfInBounds i true) (a.put d v) w) (h2 : wpAny P md ops QE fuel (listed.setIfInBounds j true) (a.put e u) w) : wpAny P md ops QE (fuel + 1) listed a w := by
  subst hd he
  exact wpAny_two i j hr hi hj hwi hwj (wp_of_val hv h1) (wp_of_val hu h2)
/-- A call and a reading operation. -/
theorem wpAny_callval {md : Region.Mode} {QE : Exit → Act → World → Prop} (i j : Nat) (d e : Option Tmp) (u : Value) {oi oj : Oper} {fuel : Nat} {listed : Array Bool} {rs rs2 : List Oper} (hr : Region.ready md ops listed = [i, j]) (hi : ops.toList.drop i = oi :: rs) (hj : ops.toList.drop j = oj :: rs2) (hd : oi.dst = d) (he : oj.dst = e)
    (hwi : Region.wanted oi (yielded ops a.tmps) = true) (hwj : Region.wanted oj (yielded ops a.tmps) = true) (f : FuncId) (vs : Array Value) (hrun : (execOp a.eval oi).run P w = .ok (.enter f vs) w) {Post : Ending → World → Prop} (hc : Calls P f vs w Post) (hu : (execOp a.eval oj).run P w = .ok (.value u) w)
    (h1 : ∀ e' w', Post e' w' → ∃ v, e' = .returned v ∧ wpAny P md ops QE fuel (listed.setIfInBounds i true) (a.put d v) w') (h2 : wpAny P md ops QE fuel (listed.setIfInBounds j true) (a.put e u) w) : wpAny P md ops QE (fuel + 1) listed a w := by
  subst hd he
  exact wpAny_two i j hr hi hj hwi hwj (wp_of_call hrun hc h1) (wp_of_val hu h2)
end

end Go.Proofs.YtfkojnofbpdjdaaGreatDoor

namespace Go.Proofs.YtfkojnofbpdjdaaGreatDoor
set_option maxRecDepth 100000
open Go.RowKit

section
variable {P : Program} {ops : Array Oper} {w : World} {a : Act} {o : Oper}
theorem ex_slice (t : TypeId) (x : Operand) (lo hi : Option Operand) (vx v : Value) (vlo vhi : Option Value) (ho : o.op = .slice t x lo hi none) (hx : a.eval x = vx) (hl : lo.map a.eval = vlo) (hh : hi.map a.eval = vhi) (hr : (Instr.sliceAt t vx vlo vhi none).run P w = .ok v w) : (execOp a.eval o).run P w = .ok (.value v) w := by
  unfold execOp
  simp only [ho, hx, hl, hh, Option.map_none, Sem.run_bind, hr, Result.andThen_ok, Sem.run_pure]
theorem ex_unOp (op : UnOp) (t : TypeId) (x : Operand) (vx v : Value) (ho : o.op = .unOp op t x) (hx : a.eval x = vx) (hr : (Op.unary op vx).run P w = .ok v w) : (execOp a.eval o).run P w = .ok (.value v) w := by
  unfold execOp
  simp only [ho, hx, Sem.run_bind, hr, Result.andThen_ok, Sem.run_pure]
end

end Go.Proofs.YtfkojnofbpdjdaaGreatDoor

namespace Go.Proofs.YtfkojnofbpdjdaaGreatDoor
set_option maxRecDepth 100000
open Go.RowKit

section
variable {P : Program} {ops : Array Oper} {w : World} {a : Act} {o : Oper}
theorem wp_of_valw {o : Oper} {v : Value} {w2 : World} {K : Act → World → Prop} {QE : Exit → Act → World → Prop} (hv : (execOp a.eval o).run P w = .ok (.value v) w2) (h : K (a.put o.dst v) w2) : Oper.wp P o a w K QE := by
  show Oper.upon _ _ _ _ _ _
  rw [hv]
  exact h
theorem wpAny_ops3 {md : Region.Mode} {QE : Exit → Act → World → Prop} (i j k : Nat) {oi oj ok : Oper} {fuel : Nat} {listed : Array Bool} {r1 r2 r3 : List Oper} (hr : Region.ready md ops listed = [i, j, k]) (hi : ops.toList.drop i = oi :: r1) (hj : ops.toList.drop j = oj :: r2) (hk : ops.toList.drop k = ok :: r3)
    (hwi : Region.wanted oi (yielded ops a.tmps) = true) (hwj : Region.wanted oj (yielded ops a.tmps) = true) (hwk : Region.wanted ok (yielded ops a.tmps) = true)
    (h1 : Oper.wp P oi a w (wpAny P md ops QE fuel (listed.setIfInBounds i true)) QE) (h2 : Oper.wp P oj a w (wpAny P md ops QE fuel (listed.setIfInBounds j true)) QE) (h3 : Oper.wp P ok a w (wpAny P md ops QE fuel (listed.setIfInBounds k true)) QE) : wpAny P md ops QE (fuel + 1) listed a w :=
  wpAny_ready hr (by simp) (AllReady.cons (at_drop hi) (fun K hK => by rw [if_pos hwi]; exact Oper.wp_mono hK h1) (AllReady.cons (at_drop hj) (fun K hK => by rw [if_pos hwj]; exact Oper.wp_mono hK h2) (AllReady.cons (at_drop hk) (fun K hK => by rw [if_pos hwk]; exact Oper.wp_mono hK h3) AllReady.nil)))
end

end Go.Proofs.YtfkojnofbpdjdaaGreatDoor

namespace Go.Proofs.YtfkojnofbpdjdaaGreatDoor
set_option maxRecDepth 100000
open Go.RowKit

theorem rdE_oneR {α : Type} (f : α → List Value) (m : Nat) (_hm : ∀ x, (f x).length = m) (w : World) (g : Nat) (hg : w.heap.size = g) (x : α) (t : TypeId) : RdE f m (w.alloc (.cells (f x).toArray t)) (.slice (some ⟨g, 0, none⟩) 1 1) [x] := by
  subst hg
  refine ⟨some ⟨w.heap.size, 0, none⟩, 1, rfl, by simp, (fun h => by cases h), fun _ => ⟨w.heap.size, 0, rfl, by simp, fun i y j u hi hj => ?_⟩⟩
  have hi0 : i = 0 := by
    have := (List.getElem?_eq_some_iff.1 hi).1
    simpa using this
  subst hi0
  simp at hi
  subst hi
  have := cells_new w (f x) t j u hj
  rw [Addr.add_lit] at this
  simpa using this
theorem bx3 {w : World} {b : Nat} {v0 v1 v2 : Value} {t : TypeId} (h : w.heap[b]? = some (.cells #[v0, v1, v2] t)) :
    w.cell? ⟨b, 0, none⟩ = some v0 ∧ w.cell? ⟨b, 1, none⟩ = some v1 ∧ w.cell? ⟨b, 2, none⟩ = some v2 ∧ w.frozen? ⟨b, 0, none⟩ = false ∧ w.frozen? ⟨b, 1, none⟩ = false ∧ w.frozen? ⟨b, 2, none⟩ = false :=
  ⟨by rw [cell_of_row _ _ 0 _ _ _ h]; rfl, by rw [cell_of_row _ _ 1 _ _ _ h]; rfl, by rw [cell_of_row _ _ 2 _ _ _ h]; rfl, frozen_of_row w b 0 _ _ h, frozen_of_row w b 1 _ _ h, frozen_of_row w b 2 _ _ h⟩
theorem set_rw1 {w : World} {b : Nat} {cs : Array Value} {t : TypeId} (h : w.heap[b]? = some (.cells cs t)) (j : Nat) (u : Value) : (w.setCell ⟨b, j, none⟩ u).heap[b]? = some (.cells (cs.setIfInBounds j u) t) :=
  heap_setCell_same w b j _ _ _ h
end Go.Proofs.YtfkojnofbpdjdaaGreatDoor

namespace Go.Proofs.YtfkojnofbpdjdaaGreatDoor
set_option maxRecDepth 100000
open Go.RowKit

/-- A slice of lists of items. -/
def RdTT (w : World) (v : Value) (L : List (List Tk)) : Prop :=
  ∃ A c, v = .slice A L.length c ∧ (L ≠ [] → ∃ b o, A = some ⟨b, o, none⟩ ∧ b < w.heap.size ∧ ∀ i x, L[i]? = some x → ∃ A' c', w.cell? ⟨b, o + i, none⟩ = some (.slice A' x.length c') ∧ RdT w (.slice A' x.length c') x)
theorem RdTT.below {w w' : World} {v : Value} {L : List (List Tk)} (h : RdTT w v L) {B : Nat} (hb : Below B w w') (hB : w.heap.size ≤ B) : RdTT w' v L := by
  obtain ⟨A, c, hv, h0⟩ := h
  refine ⟨A, c, hv, fun hl => ?_⟩
  obtain ⟨b, o, hA, hlt, hx⟩ := h0 hl
  refine ⟨b, o, hA, Nat.lt_of_lt_of_le hlt hb.size, fun i x hi => ?_⟩
  obtain ⟨A', c', h1, h2⟩ := hx i x hi
  exact ⟨A', c', (hb.cell (p := ⟨b, o + i, none⟩) (Nat.lt_of_lt_of_le hlt hB)).trans h1, h2.below hb hB⟩
theorem RdTT.at_ {w : World} {A : Option Addr} {n c : Nat} {L : List (List Tk)} (h : RdTT w (.slice A n c) L) (k : Nat) (hk : k < L.length) :
    ∃ b o A' c', A = some ⟨b, o, none⟩ ∧ b < w.heap.size ∧ w.cell? ⟨b, o + k, none⟩ = some (.slice A' L[k].length c') ∧ RdT w (.slice A' L[k].length c') L[k] := by
  obtain ⟨A1, c1, hv, h0⟩ := h
  injection hv with e1 e2 e3
  subst e1
  obtain ⟨b, o, hA, hb, hx⟩ := h0 (by intro e; rw [e] at hk; simp at hk)
  obtain ⟨A', c', h1, h2⟩ := hx k L[k] (List.getElem?_eq_getElem hk)
  exact ⟨b, o, A', c', hA, hb, h1, h2⟩

set_option maxRecDepth 100000 in
set_option maxHeartbeats 4000000 in
theorem grow_any (n : Nat) (hn : n ≤ 100000) (w : World) : Calls Tryz.prog 180 #[.slice none 0 0, .int .i64 n] w (fun e w' => ∃ v, e = .returned v ∧ OwnT 31 w' w.heap.size v [] ∧ Below w.heap.size w w') := by
  by_cases h0 : n = 0
  · subst h0
    go_enter Tryz.func180, Tryz.ntmps180
    go_wp2_with fail
    go_ret
    exact ⟨_, rfl, OwnE.nil, Below.refl _ _⟩
  · have hp : (0 : Int) < n := by omega
    obtain ⟨i, hi, hz, hsize, hby⟩ := info_parts item_info
    have hr := Go.Lib.run_append_nil_zeros (P := Tryz.prog) w 24 3 24 31 i _ .i64 .i64 Tryz.underlying24 Tryz.underlying3 hi hz n (by omega) (by omega) (by omega) (by rw [hby]; omega)
    have HR := Lib.hid hr
    have HB := Lib.hid ((Below.refl w.heap.size w).drew.alloc (Nat.le_refl _) (.cells (Builtin.zeroCells (Value.agg #[.int .i64 0, .string ⟨#[]⟩, .int .i64 0]).cells n ++ Builtin.zeroCells (Value.agg #[.int .i64 0, .string ⟨#[]⟩, .int .i64 0]).cells (grownCap w n 0 31 - n)) 31))
    have hcap := grownCap_ge w n 0 31
    have hcm := grownCap_le_maxLen w n 0 31 (by unfold maxLen; omega)
    have HO : Hid (OwnT 31 (w.drew.alloc (.cells (Builtin.zeroCells (Value.agg #[.int .i64 0, .string ⟨#[]⟩, .int .i64 0]).cells n ++ Builtin.zeroCells (Value.agg #[.int .i64 0, .string ⟨#[]⟩, .int .i64 0]).cells (grownCap w n 0 31 - n)) 31)) w.heap.size (.slice (some ⟨w.heap.size, 0, none⟩) 0 (grownCap w n 0 31)) []) := by
      refine ⟨rfl, .inr ⟨w.heap.size, _, _, rfl, Nat.le_refl _, heap_alloc_new w.drew _, Nat.zero_le _, hcm, ?_, by simp⟩⟩
      rw [Array.size_append, size_zeroCells, size_zeroCells, ← Nat.add_mul, show n + (grownCap w n 0 31 - n) = grownCap w n 0 31 by omega]
      rfl
    have hcl : ((grownCap w n 0 31 : Nat) : Int) ≤ 9223372036854775807 := by unfold maxLen at hcm; omega
    generalize grownCap w n 0 31 = cap at *
    clear hr hi hz hsize hby hcm
    go_enter Tryz.func180, Tryz.ntmps180
    go_wp2_with (at_builtin; refine Lib.wpList_append_run _ rfl _ _ _ _ rfl _ _ rfl rfl _ _ HR.out ?_)
    go_ret
    exact ⟨_, rfl, HO.out, HB.out⟩

theorem flat_take (L : List (List Tk)) (k : Nat) (h : k < L.length) : (L.take (k + 1)).flatten = (L.take k).flatten ++ L[k] := by
  rw [List.take_succ_eq_append_getElem h, List.flatten_append, List.flatten_cons, List.flatten_nil, List.append_nil]
theorem flat_le (L : List (List Tk)) (k : Nat) : (L.take k).flatten.length ≤ L.flatten.length := by
  have := congrArg (fun l => (List.flatten l).length) (List.take_append_drop k L)
  simp only [List.flatten_append, List.length_append] at this
  omega

set_option maxRecDepth 100000 in
set_option maxHeartbeats 4000000 in
theorem sconcat_any (L : List (List Tk)) (v : Value) (w : World) (h : RdTT w v L) (hl : L.length ≤ 100000) (hn : L.flatten.length ≤ 100000) :
    Calls Tryz.prog 156 #[v] w (RetOwn 31 tkC 3 w L.flatten) := by
  obtain ⟨R, HRR⟩ : ∃ R, Hid (R = RetOwn 31 tkC 3 w L.flatten) := ⟨_, rfl⟩
  rw [← HRR.out]
  obtain ⟨A, c, rfl, h0⟩ := h
  have H : Hid (RdTT w (.slice A L.length c) L) := ⟨A, c, rfl, h0⟩
  have HN := Lib.hid hn
  clear h0 hn
  go_enter Tryz.func156, Tryz.ntmps156
  go_wp2_with fail
  go_loopg [3, 11] L.length (fun gk sv iv wr => ∃ k : Nat, sv = .int .i64 ((L.take k).flatten.length : Nat) ∧ iv = .int .i64 k ∧ k ≤ L.length ∧ w = wr ∧ L.length - k ≤ gk)
  case atStart => exact ⟨0, rfl, rfl, Nat.zero_le _, rfl, Nat.le_refl _⟩
  case round =>
    obtain ⟨k, rfl, rfl, hk, rfl, hgk⟩ := hrel
    by_cases hlt : k < L.length
    · obtain ⟨b, o, A', c', hA, hb, q, hr⟩ := RdTT.at_ H.out k hlt
      subst hA
      have hf1 := flat_le L k
      have hf2 := flat_le L (k + 1)
      have hft := congrArg List.length (flat_take L k hlt)
      rw [List.length_append] at hft
      have hnn := HN.out
      have HS : Hid (((L.take k).flatten.length : Int) + (L[k].length : Int) = (((L.take (k + 1)).flatten.length : Nat) : Int)) := by show _ = _; omega
      have hb1 : (L.take k).flatten.length ≤ 100000 := by omega
      have hb2 : L[k].length ≤ 100000 := by omega
      clear hft hf1 hf2 hr hnn
      generalize (L.take k).flatten.length = s0 at *
      generalize L[k].length = s1 at *
      go_wp2_with fail
      rw [HS.out]
      go_roundg (L.length - (k + 1))
      case measure => omega
      case rel => exact ⟨k + 1, rfl, rfl, hlt, rfl, Nat.le_refl _⟩
    · obtain rfl : k = L.length := by omega
      rw [List.take_length]
      have HG := Lib.hid (grow_any L.flatten.length HN.out w)
      generalize hfl : L.flatten.length = fl at HG ⊢
      have HFL := Lib.hid hfl
      clear hfl
      go_wp2_with (go_at_call 180; refine (HG.out).mono ?_; rintro e w1 ⟨v1, rfl, ho1, hb1⟩; have HO1 := Lib.hid ho1; have HB1 := Lib.hid hb1; clear ho1 hb1)
      go_loopg [6, 27] L.length (fun gk sv iv wr => ∃ k : Nat, Hid (OwnT 31 wr w.heap.size sv (L.take k).flatten) ∧ iv = .int .i64 k ∧ k ≤ L.length ∧ Hid (Below w.heap.size w wr) ∧ L.length - k ≤ gk)
      case atStart => exact ⟨0, HO1.out, rfl, Nat.zero_le _, HB1.out, Nat.le_refl _⟩
      case round =>
        obtain ⟨k, HO, rfl, hk, HB, hgk⟩ := hrel
        clear HO1 HB1
        by_cases hlt : k < L.length
        · obtain ⟨b, o, A', c', hA, hb, q, hr⟩ := RdTT.at_ (H.out.below HB.out (Nat.le_refl _)) k hlt
          subst hA
          have HRD := Lib.hid hr
          have hf2 := flat_le L (k + 1)
          have hft := congrArg List.length (flat_take L k hlt)
          rw [List.length_append] at hft
          have hnn : (L.take k).flatten.length + L[k].length ≤ 100000 := by have := HN.out; omega
          have hz := HB.out.size
          have HFT : Hid ((L.take k).flatten ++ L[k] = (L.take (k + 1)).flatten) := (flat_take L k hlt).symm
          clear hr hf2 hft
          go_wp2_with (at_builtin; refine wpList_appE rfl (.tmp 31) (.tmp 32) 24 31 rfl Tryz.underlying24 _ tkC 3 32 item_info rfl (by decide) tkC_three tkC_one w.heap.size _ (L.take k).flatten rfl (by exact HO.out) _ L[k] rfl (by exact HRD.out) (by omega) (by decide) hz ?_; intro v2 w2 hown2 hbel2 hgr2; have HO2 := Lib.hid hown2; have HB2 := Lib.hid (hbel2 w.heap.size w (Nat.le_refl _) HB.out); clear hown2 hbel2 hgr2)
          go_roundg (L.length - (k + 1))
          case measure => omega
          case rel =>
            refine ⟨k + 1, ?_, rfl, hlt, HB2.out, Nat.le_refl _⟩
            rw [← HFT.out]
            exact HO2.out
        · obtain rfl : k = L.length := by omega
          rw [List.take_length] at HO
          obtain ⟨A2, c2, rfl⟩ := own_shape HO.out
          go_wp2_with fail
          first | go_ret | skip
          rw [HRR.out]
          exact ⟨_, rfl, HO.out, HB.out⟩

set_option maxRecDepth 100000 in
set_option maxHeartbeats 4000000 in
theorem concat_any (a b : List Tk) (A A' : Option Addr) (c c' : Nat) (w : World) (ha : RdT w (.slice A a.length c) a) (hb : RdT w (.slice A' b.length c') b) (hn : a.length + b.length ≤ 100000) (hw : lenI (a ++ b) ≤ 1000000) :
    Calls Tryz.prog 113 #[.slice A a.length c, .slice A' b.length c'] w (RetOwn 31 tkC 3 w (normL (a ++ b))) := by
  have hB0 := (Below.refl w.heap.size w).alloc (Nat.le_refl _) (.cells #[.slice A a.length c, .slice A' b.length c'] 24)
  have HL : Hid (RdTT (w.alloc (.cells #[.slice A a.length c, .slice A' b.length c'] 24)) (.slice (some ⟨w.heap.size, 0, none⟩) 2 2) [a, b]) := by
    refine ⟨_, 2, rfl, fun _ => ⟨_, _, rfl, by simp, fun i x hi => ?_⟩⟩
    have hbox : (w.alloc (.cells #[.slice A a.length c, .slice A' b.length c'] 24)).heap[w.heap.size]? = some (.cells #[.slice A a.length c, .slice A' b.length c'] 24) := Array.getElem?_push_size
    rcases i with _ | _ | i
    · simp at hi; subst hi
      exact ⟨A, c, by rw [cell_of_row _ _ _ _ _ _ hbox]; rfl, ha.below hB0 (Nat.le_refl _)⟩
    · simp at hi; subst hi
      exact ⟨A', c', by rw [cell_of_row _ _ _ _ _ _ hbox]; rfl, hb.below hB0 (Nat.le_refl _)⟩
    · simp at hi
  have HC := Lib.hid (sconcat_any [a, b] _ _ HL.out (by simp) (by simpa using hn))
  have HNN := Lib.hid (fun (v : Value) (w' : World) (h : RdT w' v (a ++ b)) => norm_anyL (a ++ b) v w' h (by simpa using hn) hw)
  have HB0 := Lib.hid hB0
  clear ha hb hB0
  go_enter Tryz.func113, Tryz.ntmps113
  go_wp2_with (first
    | (go_at_call 156; refine (HC.out).mono ?_; rintro e w1 ⟨v1, rfl, ho1, hb1⟩; have HO1 := Lib.hid ho1; have HB1 := Lib.hid (HB0.out.trans (hb1.mono HB0.out.size)); clear ho1 hb1)
    | (go_at_call 104; refine (HNN.out _ _ (by have := HO1.out.rd tkC_three; simpa using this)).mono ?_; rintro e w2 ⟨v2, rfl, ho2, hb2⟩; have HO2 := Lib.hid ho2; have HB2 := Lib.hid (HB1.out.trans (hb2.mono HB1.out.size)); have hz1 := HB1.out.size; clear ho2 hb2))
  go_ret
  exact ⟨_, rfl, own_base HO2.out hz1, HB2.out⟩

end Go.Proofs.YtfkojnofbpdjdaaGreatDoor

namespace Go.Proofs.YtfkojnofbpdjdaaGreatDoor
set_option maxRecDepth 100000
open Go.RowKit

theorem place_math (x n : Int) (hn : 1 ≤ n) (hx : x < 0) : -n < x.tmod n ∧ x.tmod n ≤ 0 ∧ (x.tmod n < 0 → x % n = x.tmod n + n) ∧ (¬ x.tmod n < 0 → x % n = x.tmod n) := by
  have h1 : x.tmod n = -((-x) % n) := by
    have h := Int.neg_tmod (-x) n
    rw [Int.neg_neg] at h
    rw [h, Int.tmod_eq_emod_of_nonneg (by omega)]
  have h2 := Int.emod_nonneg (-x) (show n ≠ 0 by omega)
  have h3 := Int.emod_lt_of_pos (-x) (show 0 < n by omega)
  have h4 : x = x.tmod n + n * x.tdiv n := (Int.tmod_add_mul_tdiv x n).symm
  have h5 : x % n = (x.tmod n) % n := by
    conv => lhs; rw [h4]
    exact Int.add_mul_emod_self_left ..
  refine ⟨by omega, by omega, fun hl => ?_, fun hl => ?_⟩
  · rw [h5, ← Int.add_emod_right, Int.emod_eq_of_lt (by omega) (by omega)]
  · rw [h5, Int.emod_eq_of_lt (by omega) (by omega)]

theorem place_any (x n : Int) (w : World) (hx : IntIn x) (hn : 1 ≤ n) (hn2 : n ≤ 1000000) :
    Calls Tryz.prog 73 #[.int .i64 x, .int .i64 n] w fun e w' => e = .returned (.int .i64 (x % n)) ∧ w = w' := by
  obtain ⟨hx1, hx2⟩ := hx
  by_cases h : x < 0
  · obtain ⟨q1, q2, q3, q4⟩ := place_math x n hn h
    by_cases hr : x.tmod n < 0
    · have e := q3 hr
      go_enter Tryz.func73, Tryz.ntmps73
      go_wp2
      go_ret
      exact ⟨ret_int (by omega), rfl⟩
    · have e := q4 hr
      go_enter Tryz.func73, Tryz.ntmps73
      go_wp2
      go_ret
      exact ⟨ret_int (by omega), rfl⟩
  · go_enter Tryz.func73, Tryz.ntmps73
    have hb := Int.emod_nonneg x (show n ≠ 0 by omega)
    have hb2 := Int.emod_lt_of_pos x (show 0 < n by omega)
    go_wp2
    go_ret
    exact ⟨rfl, rfl⟩

end Go.Proofs.YtfkojnofbpdjdaaGreatDoor

namespace Go.Proofs.YtfkojnofbpdjdaaGreatDoor
set_option maxRecDepth 100000
open Go.RowKit

/-- The number that a call of Next gives: place N of the list, below n. -/
def nextN (L : List Int) (N : Nat) (n : Int) : Int := (L.getD N 0) % n
theorem nextN_bd (L : List Int) (N : Nat) (n : Int) (h : 1 ≤ n) : 0 ≤ nextN L N n ∧ nextN L N n < n :=
  ⟨Int.emod_nonneg _ (by omega), Int.emod_lt_of_pos _ (by omega)⟩

def words : List ByteArray := [⟨#[114, 101, 100]⟩, ⟨#[99, 97, 114]⟩, ⟨#[82, 101, 100]⟩, ⟨#[97]⟩, ⟨#[99, 97, 114, 115]⟩, ⟨#[49, 44, 53]⟩, ⟨#[50, 50]⟩, ⟨#[100, 111, 110, 39, 116]⟩, ⟨#[46]⟩, ⟨#[33]⟩, ⟨#[32]⟩, ⟨#[32, 32]⟩,
  ⟨#[60]⟩, ⟨#[38]⟩, ⟨#[123]⟩, ⟨#[34]⟩, ⟨#[92]⟩, ⟨#[120, 45, 121]⟩, ⟨#[10]⟩, ⟨#[61]⟩, ⟨#[125]⟩, ⟨#[62]⟩, ⟨#[9]⟩, ⟨#[98]⟩]
def mkWord (L : List Int) (N : Nat) : ByteArray := words.getD (nextN L N 24).toNat ⟨#[]⟩
theorem words_size : ∀ k, (words.getD k ⟨#[]⟩).size ≤ 5 := by
  intro k
  by_cases h : k < words.length
  · have : ∀ x ∈ words, x.size ≤ 5 := by decide
    rw [List.getD_eq_getElem?_getD, List.getElem?_eq_getElem h]
    exact this _ (List.getElem_mem h)
  · rw [List.getD_eq_getElem?_getD, List.getElem?_eq_none (by omega)]
    decide

/-- The rounds of Line that are left: i of them. -/
def lineGo (L : List Int) : Nat → ByteArray → Nat → ByteArray × Nat
  | 0, out, N => (out, N)
  | i + 1, out, N =>
    if 0 < out.size then
      if 0 < nextN L (N + 1) 3 then lineGo L i (out ++ ⟨#[32]⟩ ++ mkWord L N) (N + 2) else lineGo L i (out ++ mkWord L N) (N + 2)
    else lineGo L i (out ++ mkWord L N) (N + 1)
def lineL (L : List Int) (N : Nat) (n : Int) : ByteArray × Nat := lineGo L (nextN L N (n + 1)).toNat ⟨#[]⟩ (N + 1)
theorem lineGo_bd (L : List Int) : ∀ i out N, (lineGo L i out N).1.size ≤ out.size + 6 * i ∧ (lineGo L i out N).2 ≤ N + 2 * i
  | 0, out, N => ⟨Nat.le_refl _, Nat.le_refl _⟩
  | i + 1, out, N => by
    have hw : (mkWord L N).size ≤ 5 := words_size _
    rw [lineGo]
    split
    · split
      · have h := lineGo_bd L i (out ++ ⟨#[32]⟩ ++ mkWord L N) (N + 2)
        rw [ByteArray.size_append, ByteArray.size_append] at h
        have h1 : (ByteArray.mk #[32]).size = 1 := rfl
        omega
      · have h := lineGo_bd L i (out ++ mkWord L N) (N + 2)
        rw [ByteArray.size_append] at h
        omega
    · have h := lineGo_bd L i (out ++ mkWord L N) (N + 1)
      rw [ByteArray.size_append] at h
      omega
theorem lineL_bd (L : List Int) (N : Nat) (n : Int) (h : 0 ≤ n) : (lineL L N n).1.size ≤ 6 * n.toNat ∧ (lineL L N n).2 ≤ N + 1 + 2 * n.toNat := by
  have h1 := nextN_bd L N (n + 1) (by omega)
  have h2 := lineGo_bd L (nextN L N (n + 1)).toNat ⟨#[]⟩ (N + 1)
  have h3 : (ByteArray.mk #[]).size = 0 := rfl
  unfold lineL
  omega

end Go.Proofs.YtfkojnofbpdjdaaGreatDoor

namespace Go.Proofs.YtfkojnofbpdjdaaGreatDoor
set_option maxRecDepth 100000
open Go.RowKit

/-- All but block g is as it was. -/
structure But (g : Nat) (w w' : World) : Prop where
  os : w'.os = w.os
  tape : w'.tape = w.tape
  output : w'.output = w.output
  size : w.heap.size ≤ w'.heap.size
  block : ∀ k, k < w.heap.size → k ≠ g → w'.heap[k]? = w.heap[k]?
theorem But.refl (g : Nat) (w : World) : But g w w := ⟨rfl, rfl, rfl, Nat.le_refl _, fun _ _ _ => rfl⟩
theorem But.trans {g : Nat} {a b c : World} (h : But g a b) (k : But g b c) : But g a c :=
  ⟨k.os.trans h.os, k.tape.trans h.tape, k.output.trans h.output, Nat.le_trans h.size k.size, fun i hi hn => (k.block i (Nat.lt_of_lt_of_le hi h.size) hn).trans (h.block i hi hn)⟩
theorem But.of_below {g : Nat} {w w' : World} (h : Below w.heap.size w w') : But g w w' := ⟨h.os, h.tape, h.output, h.size, fun k hk _ => h.block k hk⟩
theorem But.below {g B : Nat} {w w' : World} (h : But g w w') (hB : B ≤ g) (hg : g ≤ w.heap.size) : Below B w w' := ⟨h.os, h.tape, h.output, h.size, fun k hk => h.block k (by omega) (by omega)⟩
theorem But.alloc {g : Nat} {a w : World} (h : But g a w) (o : Obj) : But g a (w.alloc o) := h.trans (.of_below ((Below.refl _ _).alloc (Nat.le_refl _) o))
theorem But.drewN {g : Nat} {a w : World} (h : But g a w) (n : Nat) : But g a (w.drewN n) := ⟨h.os, h.tape, h.output, h.size, h.block⟩
theorem But.set {g : Nat} {a w : World} (h : But g a w) (o : Nat) (u : Value) : But g a (w.setCell ⟨g, o, none⟩ u) := by
  refine h.trans ⟨rfl, rfl, rfl, by simp [World.setCell], fun k hk hn => Below.heap_setCell _ _ _ _ hn⟩

/-- Block g holds Numbers: the list L (it lies below g), at place N. -/
def Nums (w : World) (g : Nat) (L : List Int) (N : Nat) : Prop := ∃ v W0, w.heap[g]? = some (.cells #[v, .int .i64 N] 29) ∧ RdE intC 1 W0 v L ∧ W0.heap.size ≤ g ∧ (∀ k, k < W0.heap.size → w.heap[k]? = W0.heap[k]?) ∧ (∀ x ∈ L, IntIn x)
theorem Nums.lt {w : World} {g : Nat} {L : List Int} {N : Nat} (h : Nums w g L N) : g < w.heap.size := by
  obtain ⟨v, W0, h, _⟩ := h
  exact (Array.getElem?_eq_some_iff.1 h).1
theorem Nums.keep {w w' : World} {g : Nat} {L : List Int} {N : Nat} (h : Nums w g L N) (hk : ∀ k, k < w.heap.size → w'.heap[k]? = w.heap[k]?) : Nums w' g L N := by
  have hlt := h.lt
  obtain ⟨v, W0, h1, h2, h3, h4, h5⟩ := h
  exact ⟨v, W0, (hk g hlt).trans h1, h2, h3, fun k hk' => (hk k (by omega)).trans (h4 k hk'), h5⟩
theorem Nums.below {w w' : World} {g : Nat} {L : List Int} {N B : Nat} (h : Nums w g L N) (hb : Below B w w') (hB : w.heap.size ≤ B) : Nums w' g L N := h.keep fun k hk => hb.block k (by omega)
theorem Nums.alloc {w : World} {g : Nat} {L : List Int} {N : Nat} (h : Nums w g L N) (o : Obj) : Nums (w.alloc o) g L N := h.keep fun _ hk => Below.heap_alloc _ _ _ hk

/-- A call that has drawn numbers. -/
def NumRet (g : Nat) (L : List Int) (N' : Nat) (v : Value) (w : World) (e : Ending) (w' : World) : Prop := e = .returned v ∧ But g w w' ∧ Nums w' g L N'

theorem frozen_rowM {w : World} {g : Nat} {cs : Array Value} {t : TypeId} (h : w.heap[g]? = some (.cells cs t)) (j : Nat) : w.frozen? ⟨g, j, none⟩ = false := by
  unfold World.frozen?
  rw [h]
  simp
theorem nums_next {w W0 : World} {g N : Nat} {L : List Int} {v : Value} (h1 : w.heap[g]? = some (.cells #[v, .int .i64 N] 29)) (h2 : RdE intC 1 W0 v L) (h3 : W0.heap.size ≤ g) (h4 : ∀ k, k < W0.heap.size → w.heap[k]? = W0.heap[k]?) (h5 : ∀ x ∈ L, IntIn x) (a : Nat) :
    Nums ((w.drewN a).setCell ⟨g, 1, none⟩ (.int .i64 ((N : Int) + 1))) g L (N + 1) := by
  refine ⟨v, W0, ?_, h2, h3, fun k hk => ?_, h5⟩
  · have hh : (w.drewN a).heap[g]? = w.heap[g]? := rfl
    show ((w.drewN a).heap.modify g _)[g]? = _
    rw [Array.getElem?_modify, if_pos rfl, hh, h1]
    rfl
  · rw [Below.heap_setCell _ _ _ _ (by show k ≠ g; omega)]
    exact h4 k hk

set_option maxHeartbeats 1000000 in
theorem next_any' (L : List Int) (g N : Nat) (n : Int) (w : World) (h : Nums w g L N) (hN : N ≤ 1000000000) (hn : 1 ≤ n) (hn2 : n ≤ 1000000) :
    Calls Tryz.prog 34 #[.pointer (some ⟨g, 0, none⟩), .int .i64 n] w (NumRet g L (N + 1) (.int .i64 (nextN L N n)) w) := by
  have hlt := h.lt
  obtain ⟨v, W0, h1, h2, h3, h4, h5⟩ := h
  have hrd : RdE intC 1 w v L := h2.keep (by omega) h4
  obtain ⟨A, c, rfl, _, _⟩ := hrd.shape
  have q1 : w.cell? ⟨g, 0, none⟩ = some (.slice A L.length c) := by rw [cell_of_row _ _ 0 _ _ _ h1]; rfl
  have q2 : w.cell? ⟨g, 1, none⟩ = some (.int .i64 N) := by rw [cell_of_row _ _ 1 _ _ _ h1]; rfl
  by_cases hNL : N < L.length
  · obtain ⟨b, o, rfl, hbl, hx⟩ := RdE.cells hrd (by omega)
    have q3 := hx N _ 0 _ (List.getElem?_eq_getElem hNL) rfl
    simp only [Nat.mul_one, Nat.add_zero] at q3
    have hin := h5 _ (List.getElem_mem hNL)
    have hv : Hid (nextN L N n = L[N] % n) := by
      show nextN L N n = L[N] % n
      unfold nextN
      rw [List.getD_eq_getElem?_getD, List.getElem?_eq_getElem hNL]
      rfl
    generalize L[N] = x at q3 hin hv
    have q4 : w.frozen? ⟨g, 1, none⟩ = false := frozen_rowM h1 1
    have HN := nums_next h1 h2 h3 h4 h5
    go_enter Tryz.func34, Tryz.ntmps34
    go_wp2_with fail
    go_quiet (fail)
    go_wp2_with fail
    go_quiet (fail)
    go_wp2_with (go_at_call 73; refine (place_any x n _ hin hn hn2).mono ?_; rintro e w' ⟨rfl, rfl⟩)
    go_ret
    refine ⟨ret_int hv.out.symm, ?_, ?_⟩
    · exact But.set (But.drewN (But.refl g w) _) 1 _
    · exact HN _
  · have hv : Hid (nextN L N n = 0 % n) := by
      show nextN L N n = 0 % n
      unfold nextN
      rw [List.getD_eq_getElem?_getD, List.getElem?_eq_none (by omega)]
      rfl
    have q4 : w.frozen? ⟨g, 1, none⟩ = false := frozen_rowM h1 1
    have HN := nums_next h1 h2 h3 h4 h5
    go_enter Tryz.func34, Tryz.ntmps34
    go_wp2_with fail
    go_quiet (fail)
    go_wp2_with (go_at_call 73; refine (place_any 0 n _ ⟨by omega, by omega⟩ hn hn2).mono ?_; rintro e w' ⟨rfl, rfl⟩)
    go_ret
    refine ⟨ret_int hv.out.symm, ?_, ?_⟩
    · exact But.set (But.drewN (But.refl g w) _) 1 _
    · exact HN _

theorem cells_strs (w : World) (g : Nat) (hg : w.heap.size = g) (xs : List ByteArray) (t : TypeId) (k : Nat) (h : k < xs.length) : (w.alloc (.cells (xs.map Value.string).toArray t)).cell? ⟨g, k, none⟩ = some (.string (xs.getD k ⟨#[]⟩)) := by
  subst hg
  have := cells_new w (xs.map Value.string) t k (.string (xs.getD k ⟨#[]⟩)) (by rw [List.getElem?_map, List.getElem?_eq_getElem h, List.getD_eq_getElem?_getD, List.getElem?_eq_getElem h]; rfl)
  rwa [Addr.add_lit, Nat.zero_add] at this

theorem word_any' (L : List Int) (g N : Nat) (w : World) (h : Nums w g L N) (hN : N ≤ 1000000000) :
    Calls Tryz.prog 74 #[.pointer (some ⟨g, 0, none⟩)] w (NumRet g L (N + 1) (.string (mkWord L N)) w) := by
  have H := Lib.hid (h.alloc (.cells (words.map Value.string).toArray 9))
  have hn := nextN_bd L N 24 (by omega)
  have HC := cells_strs w _ rfl words 9 (nextN L N 24).toNat (by show _ < 24; omega)
  have HW : Hid (words.getD (nextN L N 24).toNat ⟨#[]⟩ = mkWord L N) := by show words.getD (nextN L N 24).toNat ⟨#[]⟩ = mkWord L N; rfl
  have HB := Lib.hid (But.alloc (But.refl g w) (.cells (words.map Value.string).toArray 9))
  have HX := fun (X : World) (hb : But g (w.alloc (.cells (words.map Value.string).toArray 9)) X) => (World.cell?_of_block (a := ⟨w.heap.size, (nextN L N 24).toNat, none⟩) (hb.block w.heap.size (by simp) (by have := h.lt; omega))).trans HC
  have HXX := Lib.hid HX
  clear h HX HC
  go_enter Tryz.func74, Tryz.ntmps74
  go_wp2_with fail
  refine (next_any' L g N 24 _ (by exact H.out) hN (by decide) (by decide)).mono ?_
  rintro e w1 ⟨rfl, hb1, hn1⟩
  have q := HXX.out w1 (by exact hb1)
  have hb2 : But g w w1 := HB.out.trans (by exact hb1)
  rw [HW.out] at q
  generalize nextN L N 24 = z at hn q
  have hz : ((z.toNat : Nat) : Int) = z := by omega
  go_wp2_with fail
  go_ret
  exact ⟨rfl, hb2, hn1⟩

end Go.Proofs.YtfkojnofbpdjdaaGreatDoor

namespace Go.Proofs.YtfkojnofbpdjdaaGreatDoor
set_option maxRecDepth 100000
open Go.RowKit

set_option maxHeartbeats 1000000 in
theorem line_any' (L : List Int) (g N : Nat) (n : Int) (w : World) (h : Nums w g L N) (hN : N ≤ 100000000) (hn : 0 ≤ n) (hn2 : n ≤ 1000) :
    Calls Tryz.prog 35 #[.pointer (some ⟨g, 0, none⟩), .int .i64 n] w (NumRet g L (lineL L N n).2 (.string (lineL L N n).1) w) := by
  have HT : Hid (lineGo L (nextN L N (n + 1)).toNat ⟨#[]⟩ (N + 1) = lineL L N n) := by show lineGo L (nextN L N (n + 1)).toNat ⟨#[]⟩ (N + 1) = lineL L N n; rfl
  have hb := nextN_bd L N (n + 1) (by omega)
  have HNX := Lib.hid (next_any' L g N (n + 1) w h (by omega) (by omega) (by omega))
  generalize nextN L N (n + 1) = z at HT hb HNX
  generalize lineL L N n = tgt at HT
  obtain ⟨m, rfl⟩ : ∃ m : Nat, z = (m : Int) := ⟨z.toNat, by omega⟩
  rw [Int.toNat_natCast] at HT
  clear h
  go_enter Tryz.func35, Tryz.ntmps35
  go_wp2_with fail
  refine (HNX.out).mono ?_
  rintro e w1 ⟨rfl, hb1, hn1⟩
  have HB1 := Lib.hid hb1
  have HN1 := Lib.hid hn1
  clear hb1 hn1
  go_wp2_with fail
  go_loopw [5, 6] (fun ov iv wr => ∃ (out : ByteArray) (i N' : Nat), ov = .string out ∧ iv = .int .i64 i ∧ i ≤ m ∧ N' + 2 * i ≤ N + 1 + 2 * m ∧ out.size + 6 * i ≤ 6 * m ∧ Hid (But g w wr) ∧ Hid (Nums wr g L N') ∧ Hid (lineGo L i out N' = tgt)) (fun _ iv _ => (intOf iv).toNat)
  case atStart => exact ⟨⟨#[]⟩, m, N + 1, rfl, rfl, Nat.le_refl _, Nat.le_refl _, by show 0 + 6 * m ≤ _; omega, HB1.out, HN1.out, HT.out⟩
  case round =>
    obtain ⟨out, i, N', rfl, rfl, him, hN', hos, HB, HN, HG⟩ := hrel
    cases i with
    | zero =>
      have he := HG.out
      rw [lineGo] at he
      subst he
      go_wp2_with fail
      go_ret
      exact ⟨rfl, HB.out, HN.out⟩
    | succ i =>
      have hw : (mkWord L N').size ≤ 5 := words_size _
      by_cases ho : 0 < out.size
      · have h3 := nextN_bd L (N' + 1) 3 (by omega)
        have hne : (out.toList == []) = false := by
          rw [beq_eq_false_iff_ne, toList_eq_data]
          intro h
          have := Lib.size_eq out
          rw [h] at this
          simp only [List.length_nil] at this
          omega
        have hne2 : out.toList.isEmpty = false := by
          rw [List.isEmpty_eq_false_iff]
          simpa using hne
        have hsz1 : (out ++ ⟨#[32]⟩ ++ mkWord L N').size ≤ out.size + 6 := by
          rw [ByteArray.size_append, ByteArray.size_append]
          show out.size + 1 + (mkWord L N').size ≤ _
          omega
        have hsz2 : (out ++ mkWord L N').size ≤ out.size + 6 := by
          rw [ByteArray.size_append]
          omega
        have HWD := Lib.hid (word_any' L g N' wr HN.out (by omega))
        by_cases hz : 0 < nextN L (N' + 1) 3
        · have hG2 : Hid (lineGo L i (out ++ ⟨#[32]⟩ ++ mkWord L N') (N' + 2) = tgt) := by
            have := HG.out
            rw [lineGo, if_pos ho, if_pos hz] at this
            exact this
          generalize mkWord L N' = wd at hw hsz1 hsz2 HWD hG2
          have HNX3 := fun w h => next_any' L g (N' + 1) 3 w h (by omega) (by omega) (by omega)
          have HX3 := Lib.hid HNX3
          generalize nextN L (N' + 1) 3 = z3 at h3 hz HX3 HNX3
          clear HNX3
          go_wp2_with fail
          refine (HWD.out).mono ?_
          rintro e w2 ⟨rfl, hb2, hn2'⟩
          have HB2 := Lib.hid (HB.out.trans hb2)
          have HN2 := Lib.hid hn2'
          clear hb2 hn2'
          go_wp2_with fail
          refine (HX3.out w2 HN2.out).mono ?_
          rintro e w3 ⟨rfl, hb3, hn3⟩
          have HB3 := Lib.hid (HB2.out.trans hb3)
          have HN3 := Lib.hid hn3
          clear hb3 hn3
          go_wp2_with fail
          exact ⟨⟨_, i, N' + 2, rfl, by go_num, by omega, by omega, by omega, HB3.out, HN3.out, hG2.out⟩, by simp [intOf]; try omega⟩
        · have hG2 : Hid (lineGo L i (out ++ mkWord L N') (N' + 2) = tgt) := by
            have := HG.out
            rw [lineGo, if_pos ho, if_neg hz] at this
            exact this
          generalize mkWord L N' = wd at hw hsz1 hsz2 HWD hG2
          have HNX3 := fun w h => next_any' L g (N' + 1) 3 w h (by omega) (by omega) (by omega)
          have HX3 := Lib.hid HNX3
          generalize nextN L (N' + 1) 3 = z3 at h3 hz HX3 HNX3
          clear HNX3
          go_wp2_with fail
          refine (HWD.out).mono ?_
          rintro e w2 ⟨rfl, hb2, hn2'⟩
          have HB2 := Lib.hid (HB.out.trans hb2)
          have HN2 := Lib.hid hn2'
          clear hb2 hn2'
          go_wp2_with fail
          refine (HX3.out w2 HN2.out).mono ?_
          rintro e w3 ⟨rfl, hb3, hn3⟩
          have HB3 := Lib.hid (HB2.out.trans hb3)
          have HN3 := Lib.hid hn3
          clear hb3 hn3
          go_wp2_with fail
          exact ⟨⟨_, i, N' + 2, rfl, by go_num, by omega, by omega, by omega, HB3.out, HN3.out, hG2.out⟩, by simp [intOf]; try omega⟩
      · have hz : out.data.toList = [] := List.eq_nil_of_length_eq_zero (by rw [← Lib.size_eq]; omega)
        have hre : out = ⟨#[]⟩ := bytes_ext hz
        subst hre
        have hG2 : Hid (lineGo L i (⟨#[]⟩ ++ mkWord L N') (N' + 1) = tgt) := by
          have := HG.out
          rw [lineGo, if_neg ho] at this
          exact this
        have hsz2 : ((⟨#[]⟩ : ByteArray) ++ mkWord L N').size ≤ 6 := by
          rw [ByteArray.size_append]
          show 0 + _ ≤ 6
          omega
        have HWD := Lib.hid (word_any' L g N' wr HN.out (by omega))
        have hos' : 6 * (i + 1) ≤ 6 * m := by have : (ByteArray.mk #[]).size = 0 := rfl; omega
        generalize mkWord L N' = wd at hw hsz2 HWD hG2
        go_wp2_with fail
        refine (HWD.out).mono ?_
        rintro e w2 ⟨rfl, hb2, hn2'⟩
        have HB2 := Lib.hid (HB.out.trans hb2)
        have HN2 := Lib.hid hn2'
        clear hb2 hn2'
        go_wp2_with fail
        exact ⟨⟨_, i, N' + 1, rfl, by go_num, by omega, by omega, by omega, HB2.out, HN2.out, hG2.out⟩, by simp [intOf]; try omega⟩

end Go.Proofs.YtfkojnofbpdjdaaGreatDoor

namespace Go.Proofs.YtfkojnofbpdjdaaGreatDoor
set_option maxRecDepth 100000
open Go.RowKit

def slotW : List ByteArray := [⟨#[110]⟩, ⟨#[110, 97, 109, 101]⟩, ⟨#[120, 49]⟩]
def emptyW : List ByteArray := [⟨#[98, 114]⟩, ⟨#[105, 109, 103, 32, 97]⟩]
def openW : List ByteArray := [⟨#[98]⟩, ⟨#[105]⟩, ⟨#[97, 32, 104, 61, 49]⟩]
theorem getD_size (l : List ByteArray) (k : Nat) (h : ∀ x ∈ l, x.size ≤ 5) : (l.getD k ⟨#[]⟩).size ≤ 5 := by
  by_cases hk : k < l.length
  · rw [List.getD_eq_getElem?_getD, List.getElem?_eq_getElem hk]
    exact h _ (List.getElem_mem hk)
  · rw [List.getD_eq_getElem?_getD, List.getElem?_eq_none (by omega)]
    decide

def nameB (s : ByteArray) : ByteArray := ⟨(s.data.toList.takeWhile (fun c => c != 32)).toArray⟩
theorem nameB_size (s : ByteArray) : (nameB s).size ≤ s.size := by
  rw [Lib.size_eq, Lib.size_eq]
  show (s.data.toList.takeWhile _).toArray.toList.length ≤ _
  exact (List.takeWhile_prefix _).length_le

/-- The state behind some rounds. -/
structure FS where
  f : List Tk
  op : List Tk
  id : Nat
  N : Nat

/-- The item of a round, whose text and number c have been drawn, at place M: the item, the open tags, the last id, the place. -/
def itemL (L : List Int) (c : Int) (t : ByteArray) (op : List Tk) (id M : Nat) : Tk × List Tk × Nat × Nat :=
  if c = 0 ∨ c = 1 then (⟨5, slotW.getD (nextN L M 3).toNat ⟨#[]⟩, 0⟩, op, id, M + 1)
  else if c = 2 then (⟨4, emptyW.getD (nextN L M 2).toNat ⟨#[]⟩, (id + 1 : Nat)⟩, op, id + 1, M + 1)
  else if c = 3 ∨ c = 4 then (⟨2, openW.getD (nextN L M 3).toNat ⟨#[]⟩, (id + 1 : Nat)⟩, op ++ [⟨2, openW.getD (nextN L M 3).toNat ⟨#[]⟩, (id + 1 : Nat)⟩], id + 1, M + 1)
  else if c = 5 ∨ c = 6 then
    if 0 < op.length then (⟨3, nameB (op.getD (nextN L M op.length).toNat ⟨0, ⟨#[]⟩, 0⟩).t, (op.getD (nextN L M op.length).toNat ⟨0, ⟨#[]⟩, 0⟩).d⟩,
      op.take (nextN L M op.length).toNat ++ op.drop ((nextN L M op.length).toNat + 1), id, M + 1)
    else (⟨3, ⟨#[98]⟩, (id + 1 : Nat)⟩, op, id + 1, M)
  else (⟨1, t, 0⟩, op, id, M)

def fragStep (L : List Int) (s : FS) : FS :=
  let ln := lineL L s.N 3
  let x := itemL L (nextN L ln.2 8) ln.1 s.op s.id (ln.2 + 1)
  ⟨normL (s.f ++ [x.1]), x.2.1, x.2.2.1, x.2.2.2⟩
/-- What the items keep to. -/
structure FOK (s : FS) (r : Nat) : Prop where
  len : s.f.length ≤ r
  bytes : bytesOf s.f ≤ 18 * r
  oplen : s.op.length ≤ r
  opsz : ∀ x ∈ s.op, x.t.size ≤ 5
  id : s.id ≤ r
  num : s.N ≤ 1 + 9 * r
  kinds : Kinds s.f
  normal : Normal s.f

theorem item_ok (L : List Int) (c : Int) (t : ByteArray) (op : List Tk) (id M r : Nat) (ht : t.size ≤ 18) (h1 : op.length ≤ r) (h2 : ∀ x ∈ op, x.t.size ≤ 5) (h3 : id ≤ r) :
    ∀ x op' id' M', itemL L c t op id M = (x, op', id', M') → x.t.size ≤ 18 ∧ (1 ≤ x.k ∧ x.k ≤ 5) ∧ op'.length ≤ r + 1 ∧ (∀ x ∈ op', x.t.size ≤ 5) ∧ id' ≤ r + 1 ∧ M' ≤ M + 1 := by
  intro x op' id' M' h
  unfold itemL at h
  have hs := getD_size slotW (nextN L M 3).toNat (by decide)
  have he := getD_size emptyW (nextN L M 2).toNat (by decide)
  have ho := getD_size openW (nextN L M 3).toNat (by decide)
  split at h
  · cases h; exact ⟨Nat.le_trans hs (by decide), (by show (1 : Int) ≤ 5 ∧ (5 : Int) ≤ 5; decide), by omega, h2, by omega, by omega⟩
  split at h
  · cases h; exact ⟨Nat.le_trans he (by decide), (by show (1 : Int) ≤ 4 ∧ (4 : Int) ≤ 5; decide), by omega, h2, by omega, by omega⟩
  split at h
  · cases h
    refine ⟨Nat.le_trans ho (by decide), (by show (1 : Int) ≤ 2 ∧ (2 : Int) ≤ 5; decide), by simp; omega, fun y hy => ?_, by omega, by omega⟩
    rcases List.mem_append.1 hy with hy | hy
    · exact h2 y hy
    · rw [List.mem_singleton.1 hy]; exact ho
  split at h
  · split at h
    · rename_i hop
      cases h
      have hb := nextN_bd L M op.length (by omega)
      have hk : (nextN L M op.length).toNat < op.length := by omega
      refine ⟨?_, (by show (1 : Int) ≤ 3 ∧ (3 : Int) ≤ 5; decide), ?_, fun y hy => ?_, by omega, by omega⟩
      · show (nameB _).size ≤ 18
        refine Nat.le_trans (nameB_size _) ?_
        rw [List.getD_eq_getElem?_getD, List.getElem?_eq_getElem hk]
        have := h2 _ (List.getElem_mem hk)
        rw [Option.getD_some]
        omega
      · simp; omega
      · rcases List.mem_append.1 hy with hy | hy
        · exact h2 y (List.mem_of_mem_take hy)
        · exact h2 y (List.mem_of_mem_drop hy)
    · cases h; exact ⟨by show (1 : Nat) ≤ 18; omega, (by show (1 : Int) ≤ 3 ∧ (3 : Int) ≤ 5; decide), by omega, h2, by omega, by omega⟩
  · cases h; exact ⟨ht, (by show (1 : Int) ≤ 1 ∧ (1 : Int) ≤ 5; decide), by omega, h2, by omega, by omega⟩

theorem FOK.step (L : List Int) (s : FS) (r : Nat) (h : FOK s r) : FOK (fragStep L s) (r + 1) := by
  obtain ⟨f, op, id, N⟩ := s
  obtain ⟨h1, h2, h3, h4, h5, h6, h7, h8⟩ := h
  simp only at h1 h2 h3 h4 h5 h6 h7 h8
  have hl := lineL_bd L N 3 (by decide)
  unfold fragStep
  simp only
  generalize hln : lineL L N 3 = ln at hl
  obtain ⟨t, M⟩ := ln
  simp only at hl ⊢
  generalize hx : itemL L (nextN L M 8) t op id (M + 1) = x
  obtain ⟨x, op', id', M'⟩ := x
  have ht : t.size ≤ 18 := hl.1
  have hM : M ≤ N + 7 := hl.2
  obtain ⟨q1, q2, q3, q4, q5, q6⟩ := item_ok L _ t op id (M + 1) r ht h3 h4 h5 x op' id' M' hx
  refine ⟨?_, ?_, q3, q4, q5, ?_, ?_, ?_⟩
  · have := normL_length (f ++ [x])
    rw [List.length_append, List.length_singleton] at this
    show (normL (f ++ [x])).length ≤ r + 1
    omega
  · show bytesOf (normL (f ++ [x])) ≤ 18 * (r + 1)
    rw [normL_bytes, bytesOf_append, bytesOf_one]
    omega
  · show M' ≤ 1 + 9 * (r + 1)
    omega
  · refine Kinds.norm _ (fun y hy => ?_)
    rcases List.mem_append.1 hy with hy | hy
    · exact h7 y hy
    · rw [List.mem_singleton.1 hy]; exact q2
  · exact normL_normal _

end Go.Proofs.YtfkojnofbpdjdaaGreatDoor

namespace Go.Proofs.YtfkojnofbpdjdaaGreatDoor
set_option maxRecDepth 100000
open Go.RowKit

theorem OwnT.unsnoc {e : TypeId} {w : World} {B : Nat} {v : Value} {l : List Tk} {x : Tk} (h : OwnT e w B v (l ++ [x])) : ∃ g cap, v = .slice (some ⟨g, 0, none⟩) (l.length + 1) cap ∧ B ≤ g ∧
    w.ownsRow B e 3 (.slice (some ⟨g, 0, none⟩) (l.length + 1) cap) (l.length + 1) (l.flatMap tkC ++ tkC x) := by
  unfold OwnT OwnE at h
  rw [List.length_append, List.flatMap_append] at h
  obtain ⟨g, c, hv, hb⟩ := own_some h (by simp)
  subst hv
  exact ⟨g, c, rfl, hb, by simpa using h⟩
section
variable {e : TypeId} {w : World} {B g cap : Nat} {l : List Tk} {x : Tk}
theorem OwnT.lastCells (h : w.ownsRow B e 3 (.slice (some ⟨g, 0, none⟩) (l.length + 1) cap) (l.length + 1) (l.flatMap tkC ++ tkC x)) :
    w.cell? ⟨g, l.length * 3, none⟩ = some (.int .i64 x.k) ∧ w.cell? ⟨g, l.length * 3 + 1, none⟩ = some (.string x.t) ∧ w.cell? ⟨g, l.length * 3 + 2, none⟩ = some (.int .i64 x.d) := by
  have hl := flat_length tkC 3 tkC_three l
  refine ⟨?_, ?_, ?_⟩
  · rw [h.cellAt _ (by omega), List.getElem?_append_right (by omega), hl, Nat.sub_self]; rfl
  · rw [h.cellAt _ (by omega), List.getElem?_append_right (by omega), hl, Nat.add_sub_cancel_left]; rfl
  · rw [h.cellAt _ (by omega), List.getElem?_append_right (by omega), hl, Nat.add_sub_cancel_left]; rfl
/-- The last token replaced, cell by cell. -/
theorem OwnT.lastSet (h : w.ownsRow B e 3 (.slice (some ⟨g, 0, none⟩) (l.length + 1) cap) (l.length + 1) (l.flatMap tkC ++ tkC x)) (y : Tk) :
    OwnT e (((w.setCell ⟨g, l.length * 3, none⟩ (.int .i64 y.k)).setCell ⟨g, l.length * 3 + 1, none⟩ (.string y.t)).setCell ⟨g, l.length * 3 + 2, none⟩ (.int .i64 y.d)) B (.slice (some ⟨g, 0, none⟩) (l.length + 1) cap) (l ++ [y]) := by
  have hl := flat_length tkC 3 tkC_three l
  have h1 := (h.stored (l.length * 3) (.int .i64 y.k)).1
  have h2 := (h1.stored (l.length * 3 + 1) (.string y.t)).1
  have h3 := (h2.stored (l.length * 3 + 2) (.int .i64 y.d)).1
  refine OwnE.snoc ?_
  rw [List.set_append_right _ _ (by omega), hl, Nat.sub_self, List.set_append_right _ _ (by omega), hl, Nat.add_sub_cancel_left, List.set_append_right _ _ (by omega), hl, Nat.add_sub_cancel_left] at h3
  exact h3
end

set_option maxHeartbeats 4000000 in
theorem rnorm_any (f : List Tk) (v : Value) (w : World) (hf : RdT w v f) (hl : f.length ≤ 100000) (hbt : bytesOf f ≤ 1000000) :
    Calls Tryz.prog 33 #[v] w (RetOwn 31 tkC 3 w (normL f)) := by
  obtain ⟨A, c, rfl, _, _⟩ := hf.shape
  have HF := Lib.hid hf
  clear hf
  go_enter Tryz.func33, Tryz.ntmps33
  go_wp2
  go_loopw [3, 9] (fun ov i wr => ∃ k : Nat, k ≤ f.length ∧ i = .int .i64 k ∧ Hid (OwnT 31 wr w.heap.size ov (normL (f.take k))) ∧ Below w.heap.size w wr) (fun _ i _ => f.length - (intOf i).toNat)
  case atStart => exact ⟨0, by omega, rfl, OwnE.nil, Below.refl _ _⟩
  case round =>
    obtain ⟨k, hk, rfl, HO, hb⟩ := hrel
    have hsize := hb.size
    by_cases hkl : k < f.length
    · obtain ⟨b, o, rfl, hbl, q1, q2, q3⟩ := RdT.at_ HF.out k hkl
      rw [← hb.cell (p := ⟨b, o + k * 3, none⟩) hbl] at q1
      rw [← hb.cell (p := ⟨b, o + k * 3 + 1, none⟩) hbl] at q2
      rw [← hb.cell (p := ⟨b, o + k * 3 + 2, none⟩) hbl] at q3
      have HT := Lib.hid (normL_take f k hkl)
      have hol : (normL (f.take k)).length ≤ 100000 := by
        have := normL_length (f.take k)
        rw [List.length_take] at this
        omega
      have hob : bytesOf (normL (f.take k)) + f[k].t.size ≤ 1000000 := by
        rw [normL_bytes]
        have := bytesOf_get f k hkl
        omega
      generalize f[k] = x at q1 q2 q3 HT hob
      obtain ⟨xk, xt, xd⟩ := x
      simp only at q1 q2 q3 hob
      generalize normL (f.take k) = out at HO HT hol hob
      by_cases h1 : xk = 1
      · subst h1
        by_cases he : xt.size = 0
        · have hxe : xt = ⟨#[]⟩ := bytes_ext (List.eq_nil_of_length_eq_zero (by rw [← Lib.size_eq]; exact he))
          have HX := Lib.hid (step_empty out ⟨1, xt, xd⟩ rfl he)
          subst hxe
          obtain ⟨A', c', hv⟩ := own_shape HO.out
          subst hv
          go_wp2_with fail
          refine ⟨⟨k + 1, by omega, by go_num, ?_, hb.alloc hsize _⟩, by simp [intOf]; try omega⟩
          rw [HT.out, HX.out]
          exact World.ownsRow.alloc HO.out _
        · have hne : (xt.toList == []) = false := by
            rw [beq_eq_false_iff_ne, toList_eq_data]
            intro h
            apply he
            rw [Lib.size_eq, h]
            rfl
          have hne2 : xt.toList.isEmpty = false := by
            rw [List.isEmpty_eq_false_iff]
            simpa using hne
          rcases List.eq_nil_or_concat out with rfl | ⟨o2, y, rfl⟩
          · have HX := Lib.hid (step_first ⟨1, xt, xd⟩ rfl he)
            obtain ⟨A', c', hv⟩ := own_shape HO.out
            subst hv
            clear he
            go_wp2_with (at_builtin; go_must (refine wpList_app1 rfl (.tmp 53) (.tmp 57) 24 31 rfl Tryz.underlying24 _ 3 32 item_info rfl (by decide) w.heap.size _ 0 [] rfl (by exact World.ownsRow.alloc (World.ownsRow.alloc HO.out _) _) ⟨wr.heap.size + 1, 0, none⟩ 1 (tkC ⟨1, xt, 0⟩) rfl rfl (by exact cells_at _ _ (by simp) _ _) (tkC_one _) (by omega) (by decide) (by simp; omega) ?_); intro g cap w1 hown1 hg1 hbel1 hgr1)
            refine ⟨⟨k + 1, by omega, by go_num, ?_, hbel1 _ _ (Nat.le_refl _) (by exact (hb.alloc hsize _).alloc (by simp; omega) _)⟩, by simp [intOf]; try omega⟩
            rw [HT.out, HX.out]
            exact hown1
          · rw [List.concat_eq_append] at HO HT hol hob
            obtain ⟨yk, yt, yd⟩ := y
            obtain ⟨g, cap, hv, hg, hown⟩ := OwnT.unsnoc HO.out
            subst hv
            obtain ⟨p1, p2, p3⟩ := OwnT.lastCells hown
            have hol2 : o2.length + 1 ≤ 100000 := by simpa using hol
            have hgl : g < wr.heap.size := World.block_lt_of_cell? _ _ p1
            have p1' : ∀ ob, (wr.alloc ob).cell? ⟨g, o2.length * 3, none⟩ = some (.int .i64 yk) := fun ob => (World.cell?_alloc_lt _ _ _ hgl).trans p1
            by_cases hy : yk = 1
            · subst hy
              have HX := Lib.hid (step_join o2 ⟨1, yt, yd⟩ ⟨1, xt, xd⟩ rfl he rfl)
              have hyt : yt.size + xt.size ≤ 1000000 := by
                rw [bytesOf_append, bytesOf_one] at hob
                simp only at hob
                omega
              clear he hol hob
              go_wp2_with fail
              have s1 := (World.cell?_alloc_lt wr (.cells #[.int .i64 1, .string xt, .int .i64 xd] 31) ⟨g, o2.length * 3, none⟩ hgl).trans p1
              have s2 := (World.cell?_alloc_lt wr (.cells #[.int .i64 1, .string xt, .int .i64 xd] 31) ⟨g, o2.length * 3 + 1, none⟩ hgl).trans p2
              have s3 := (World.cell?_alloc_lt wr (.cells #[.int .i64 1, .string xt, .int .i64 xd] 31) ⟨g, o2.length * 3 + 2, none⟩ hgl).trans p3
              have z1 : (wr.alloc (.cells #[.int .i64 1, .string xt, .int .i64 xd] 31)).cell? ⟨wr.heap.size, 1, none⟩ = some (.string xt) := cells_at wr _ rfl [.int .i64 1, .string xt, .int .i64 xd] 31 1 _ rfl
              have hownW := World.ownsRow.alloc hown (.cells #[.int .i64 1, .string xt, .int .i64 xd] 31)
              have fz := fun j => hownW.frozenAt j
              have hbW := hb.alloc hsize (.cells #[.int .i64 1, .string xt, .int .i64 xd] 31)
              have HOW := Lib.hid hownW
              have HBW := Lib.hid hbW
              have hsW : (wr.alloc (.cells #[.int .i64 1, .string xt, .int .i64 xd] 31)).heap.size = wr.heap.size + 1 := by simp
              have HSW := Lib.hid hsW
              have ew : IntKind.i64.wrap ((o2.length : Int) + 1 - 1) = (o2.length : Int) := by rw [IntKind.wrap_i64]; omega
              clear p1 p2 p3 p1' hownW hbW hsW q1 q2 q3 hown HO
              generalize (wr.alloc (.cells #[.int .i64 1, .string xt, .int .i64 xd] 31)) = W1 at s1 s2 s3 z1 fz HOW HBW HSW ⊢
              go_region
              go_wp2_with fail
              refine ⟨⟨k + 1, by omega, by go_num, ?_, ?_⟩, by simp [intOf]; try omega⟩
              · rw [HT.out, HX.out]
                exact OwnT.lastSet HOW.out ⟨1, yt ++ xt, 0⟩
              · exact (((HBW.out.setCell (p := ⟨g, o2.length * 3, none⟩) hg _).setCell (p := ⟨g, o2.length * 3 + 1, none⟩) hg _).setCell (p := ⟨g, o2.length * 3 + 2, none⟩) hg _).drew
            · have HX := Lib.hid (step_new o2 ⟨yk, yt, yd⟩ ⟨1, xt, xd⟩ rfl he hy)
              have hyf : (yk == 1) = false := by simpa using hy
              have hol3 : (o2 ++ [⟨yk, yt, yd⟩] : List Tk).length = o2.length + 1 := by simp
              have HOW := Lib.hid hown
              clear he hy hob hol hown
              go_wp2_with (at_builtin; go_must (refine wpList_app1 rfl (.tmp 53) (.tmp 57) 24 31 rfl Tryz.underlying24 _ 3 32 item_info rfl (by decide) w.heap.size _ (o2.length + 1) (o2.flatMap tkC ++ tkC ⟨yk, yt, yd⟩) rfl (by exact World.ownsRow.alloc (World.ownsRow.alloc HOW.out _) _) ⟨wr.heap.size + 1, 0, none⟩ 1 (tkC ⟨1, xt, 0⟩) rfl rfl (by exact cells_at _ _ (by simp) _ _) (tkC_one _) (by omega) (by decide) (by simp; omega) ?_); intro g2 cap2 w1 hown1 hg3 hbel1 hgr1)
              refine ⟨⟨k + 1, by omega, by go_num, ?_, hbel1 _ _ (Nat.le_refl _) (by exact (hb.alloc hsize _).alloc (by simp; omega) _)⟩, by simp [intOf]; try omega⟩
              rw [HT.out, HX.out]
              refine OwnE.snoc ?_
              rw [hol3, List.flatMap_append]
              simpa using hown1
      · have HX := Lib.hid (step_other out ⟨xk, xt, xd⟩ h1)
        have hxf : (xk == 1) = false := by simpa using h1
        have hxn : (xk != 1) = true := by simpa using h1
        obtain ⟨A', c', hv⟩ := own_shape HO.out
        subst hv
        clear h1
        go_wp2_with (at_builtin; go_must (refine wpList_app1 rfl (.tmp 19) (.tmp 21) 24 31 rfl Tryz.underlying24 _ 3 32 item_info rfl (by decide) w.heap.size _ _ _ rfl (by exact World.ownsRow.alloc (World.ownsRow.alloc HO.out _) _) ⟨wr.heap.size + 1, 0, none⟩ 1 (tkC ⟨xk, xt, xd⟩) rfl rfl (by exact cells_at _ _ (by simp) _ _) (tkC_one _) (by omega) (by decide) (by simp; omega) ?_); intro g cap w1 hown1 hg1 hbel1 hgr1)
        refine ⟨⟨k + 1, by omega, by go_num, ?_, hbel1 _ _ (Nat.le_refl _) (by exact (hb.alloc hsize _).alloc (by simp; omega) _)⟩, by simp [intOf]; try omega⟩
        rw [HT.out, HX.out]
        exact OwnE.snoc hown1
    · obtain rfl : k = f.length := by omega
      obtain ⟨A', c', hv⟩ := own_shape HO.out
      subst hv
      go_wp2_with fail
      go_ret
      refine ⟨_, rfl, ?_, hb⟩
      have he := HO.out
      rw [List.take_length] at he ⊢
      exact he

theorem rconcat_any (f g : List Tk) (v u : Value) (w : World) (hf : RdT w v f) (hg : RdT w u g) (hl : f.length + g.length ≤ 100000) (hbt : bytesOf f + bytesOf g ≤ 1000000) :
    Calls Tryz.prog 8 #[v, u] w (RetOwn 31 tkC 3 w (normL (f ++ g))) := by
  obtain ⟨A, c, rfl, _, _⟩ := hf.shape
  obtain ⟨A2, c2, rfl, _, _⟩ := hg.shape
  have HF := Lib.hid hf
  have HG := Lib.hid hg
  clear hf hg
  go_enter Tryz.func8, Tryz.ntmps8
  go_wp2_with (first
    | (at_builtin; refine wpList_appE rfl (.const (.slice none 0 0)) (.tmp 5) 24 31 rfl Tryz.underlying24 _ tkC 3 32 item_info rfl (by decide) tkC_three tkC_one w.heap.size _ [] rfl (by exact OwnE.nil) _ f rfl (by exact HF.out) (by simp; omega) (by decide) (Nat.le_refl _) ?_; intro v1 w1 hown1 hbel1 hgr1; have HO1 := Lib.hid hown1; have HB1 := Lib.hid (hbel1 w.heap.size w (Nat.le_refl _) (Below.refl _ _)); have hz1 := HB1.out.size; clear hown1 hbel1 hgr1)
    | (at_builtin; refine wpList_appE rfl (.tmp 6) (.tmp 7) 24 31 rfl Tryz.underlying24 _ tkC 3 32 item_info rfl (by decide) tkC_three tkC_one w.heap.size _ f rfl (by exact HO1.out) _ g rfl (by exact RdE.below HG.out HB1.out (Nat.le_refl _)) (by omega) (by decide) hz1 ?_; intro v2 w2 hown2 hbel2 hgr2; have HO2 := Lib.hid hown2; have HB2 := Lib.hid (hbel2 w.heap.size w (Nat.le_refl _) HB1.out); have hz2 := HB2.out.size; clear hown2 hbel2 hgr2)
    | (go_at_call 33; refine (rnorm_any (f ++ g) _ _ (by exact OwnE.rd tkC_three HO2.out) (by rw [List.length_append]; exact hl) (by rw [bytesOf_append]; exact hbt)).mono ?_; rintro e w3 ⟨v3, rfl, hown3, hb3⟩))
  go_ret
  exact ⟨v3, rfl, own_base hown3 hz2, HB2.out.trans (hb3.mono hz2)⟩

end Go.Proofs.YtfkojnofbpdjdaaGreatDoor

namespace Go.Proofs.YtfkojnofbpdjdaaGreatDoor
set_option maxRecDepth 100000
open Go.RowKit

theorem RdT.one_at (w : World) (g : Nat) (hg : w.heap.size = g) (x : Tk) (t : TypeId) : RdT (w.alloc (.cells (tkC x).toArray t)) (.slice (some ⟨g, 0, none⟩) 1 1) [x] := by
  subst hg
  refine ⟨some ⟨w.heap.size, 0, none⟩, 1, rfl, by simp, (fun h => by cases h), fun _ => ⟨w.heap.size, 0, rfl, by simp, fun i y j u hi hj => ?_⟩⟩
  have hi0 : i = 0 := by
    have := (List.getElem?_eq_some_iff.1 hi).1
    simpa using this
  subst hi0
  simp at hi
  subst hi
  have := cells_new w (tkC x) t j u hj
  rw [Addr.add_lit] at this
  simpa using this
theorem Nums.keepg {w w' : World} {g : Nat} {L : List Int} {N : Nat} (h : Nums w g L N) (hk : ∀ k, k ≤ g → w'.heap[k]? = w.heap[k]?) : Nums w' g L N := by
  obtain ⟨v, W0, h1, h2, h3, h4, h5⟩ := h
  exact ⟨v, W0, (hk g (Nat.le_refl _)).trans h1, h2, h3, fun k hk' => (hk k (by omega)).trans (h4 k hk'), h5⟩
theorem box_facts {w : World} {b : Nat} {v0 v1 v2 : Value} {t : TypeId} (h : w.heap[b]? = some (.cells #[v0, v1, v2] t)) :
    w.cell? ⟨b, 0, none⟩ = some v0 ∧ w.cell? ⟨b, 1, none⟩ = some v1 ∧ w.cell? ⟨b, 2, none⟩ = some v2 ∧ w.frozen? ⟨b, 0, none⟩ = false ∧ w.frozen? ⟨b, 1, none⟩ = false ∧ w.frozen? ⟨b, 2, none⟩ = false :=
  ⟨by rw [cell_of_row _ _ 0 _ _ _ h]; rfl, by rw [cell_of_row _ _ 1 _ _ _ h]; rfl, by rw [cell_of_row _ _ 2 _ _ _ h]; rfl, frozen_rowM h 0, frozen_rowM h 1, frozen_rowM h 2⟩
theorem words_at {w w' : World} {g : Nat} {xs : List ByteArray} {t : TypeId} (z : Int) (h0 : 0 ≤ z) (hz : z < xs.length) (hg : g < w.heap.size) (hb : But g (w.alloc (.cells (xs.map Value.string).toArray t)) w') :
    w'.cell? ⟨w.heap.size, z.toNat, none⟩ = some (.string (xs.getD z.toNat ⟨#[]⟩)) := by
  rw [World.cell?_of_block (w := w.alloc (.cells (xs.map Value.string).toArray t)) (hb.block _ (by simp) (by show w.heap.size ≠ g; omega))]
  exact cells_strs w w.heap.size rfl xs t z.toNat (by omega)
theorem set_row {w : World} {b : Nat} {cs : Array Value} {t : TypeId} (h : w.heap[b]? = some (.cells cs t)) (j : Nat) (u : Value) : (w.setCell ⟨b, j, none⟩ u).heap[b]? = some (.cells (cs.setIfInBounds j u) t) := by
  show (w.heap.modify b _)[b]? = _
  rw [Array.getElem?_modify, if_pos rfl, h]
  rfl
theorem box_set3 {w : World} {b : Nat} {v0 v1 v2 : Value} {t : TypeId} (h : w.heap[b]? = some (.cells #[v0, v1, v2] t)) (u0 u1 u2 : Value) :
    (((w.setCell ⟨b, 0, none⟩ u0).setCell ⟨b, 1, none⟩ u1).setCell ⟨b, 2, none⟩ u2).heap[b]? = some (.cells #[u0, u1, u2] t) :=
  set_row (set_row (set_row h 0 u0) 1 u1) 2 u2
theorem set3_other {w : World} {b : Nat} (u0 u1 u2 : Value) (k : Nat) (h : k ≠ b) : (((w.setCell ⟨b, 0, none⟩ u0).setCell ⟨b, 1, none⟩ u1).setCell ⟨b, 2, none⟩ u2).heap[k]? = w.heap[k]? := by
  rw [Below.heap_setCell _ _ _ _ h, Below.heap_setCell _ _ _ _ h, Below.heap_setCell _ _ _ _ h]
theorem set3_size {w : World} {b : Nat} (u0 u1 u2 : Value) : (((w.setCell ⟨b, 0, none⟩ u0).setCell ⟨b, 1, none⟩ u1).setCell ⟨b, 2, none⟩ u2).heap.size = w.heap.size := by simp [World.setCell]

def NotAt (b : Nat) (v : Value) : Prop := ∀ k, v.ownBlock = some k → k ≠ b
def Apart (v u : Value) : Prop := ∀ k, v.ownBlock = some k → u.ownBlock ≠ some k

/-- What a round's item, the list so far and the open tags are, in a world. -/
structure FR (g b : Nat) (w : World) (fv : Value) (f : List Tk) (L : List Int) (ov : Value) (op : List Tk) (x : Tk) (M : Nat) (wx : World) : Prop where
  own : OwnT 31 wx w.heap.size fv f
  ownO : OwnT 31 wx w.heap.size ov op
  apart : Apart fv ov
  nf : NotAt b fv
  no : NotAt b ov
  box : wx.heap[b]? = some (.cells #[.int .i64 x.k, .string x.t, .int .i64 x.d] 31)
  but : But g w wx
  num : Nums wx g L M
  gB : g < w.heap.size
  bB : w.heap.size ≤ b

section
variable {g b : Nat} {w : World} {fv : Value} {f : List Tk} {L : List Int} {ov ov' : Value} {op op' : List Tk} {x : Tk} {M M' : Nat} {wx w' : World}
theorem FR.call (h : FR g b w fv f L ov op x M wx) (hb : But g wx w') (hn : Nums w' g L M') : FR g b w fv f L ov op x M' w' := by
  have hg := h.gB
  have hbB := h.bB
  refine ⟨own_same h.own fun k hk => ?_, own_same h.ownO fun k hk => ?_, h.apart, h.nf, h.no, ?_, h.but.trans hb, hn, hg, hbB⟩
  · have := h.own.lt k hk
    exact hb.block k this.2 (by omega)
  · have := h.ownO.lt k hk
    exact hb.block k this.2 (by omega)
  · rw [hb.block b (Array.getElem?_eq_some_iff.1 h.box).1 (by omega)]
    exact h.box
theorem FR.alloc (h : FR g b w fv f L ov op x M wx) (o : Obj) : FR g b w fv f L ov op x M (wx.alloc o) := h.call ((But.refl _ _).alloc o) (h.num.alloc o)
theorem FR.drew (h : FR g b w fv f L ov op x M wx) : FR g b w fv f L ov op x M wx.drew := h.call ((But.refl g wx).drewN 1) (h.num.keepg fun _ _ => rfl)
theorem FR.set3 (h : FR g b w fv f L ov op x M wx) (y : Tk) : FR g b w fv f L ov op y M (((wx.setCell ⟨b, 0, none⟩ (.int .i64 y.k)).setCell ⟨b, 1, none⟩ (.string y.t)).setCell ⟨b, 2, none⟩ (.int .i64 y.d)) := by
  have hg := h.gB
  have hbB := h.bB
  refine ⟨own_same h.own fun k hk => set3_other _ _ _ _ (h.nf k hk), own_same h.ownO fun k hk => set3_other _ _ _ _ (h.no k hk), h.apart, h.nf, h.no, box_set3 h.box _ _ _, ?_, h.num.keepg fun k hk => set3_other _ _ _ _ (by omega), hg, hbB⟩
  exact ⟨h.but.os, h.but.tape, h.but.output, by rw [set3_size]; exact h.but.size, fun k hk hn => (set3_other _ _ _ _ (by omega)).trans (h.but.block k hk hn)⟩
theorem FR.push (h : FR g b w fv f L ov op x M wx) (hown : OwnT 31 w' w.heap.size ov' op') (hgr : wx.grownBy w' ov.ownBlock) (hat : ov'.ownBlock = ov.ownBlock ∨ ov'.ownBlock = some wx.heap.size) : FR g b w fv f L ov' op' x M w' := by
  have hg := h.gB
  have hbB := h.bB
  have hbl := (Array.getElem?_eq_some_iff.1 h.box).1
  have hsz := h.but.size
  have hO := h.ownO.lt
  refine ⟨own_same h.own fun k hk => hgr.block k (h.own.lt k hk).2 (fun e => h.apart k hk e.symm), hown, fun k hk e => ?_, h.nf, fun k hk => ?_, ?_, ?_, h.num.keepg fun k hk => ?_, hg, hbB⟩
  · rcases hat with hat | hat
    · rw [hat] at e; exact h.apart k hk e
    · rw [hat] at e
      injection e with e
      have := (h.own.lt k hk).2
      omega
  · rcases hat with hat | hat
    · rw [hat] at hk; exact h.no k hk
    · rw [hat] at hk
      injection hk with hk
      omega
  · rw [hgr.block b hbl (fun e => h.no b e.symm rfl)]
    exact h.box
  · exact ⟨hgr.os.trans h.but.os, hgr.tape.trans h.but.tape, hgr.output.trans h.but.output, Nat.le_trans h.but.size hgr.size, fun k hk hn => (hgr.block k (by omega) (fun e => by have := (hO k e.symm).1; omega)).trans (h.but.block k hk hn)⟩
  · exact hgr.block k (by omega) (fun e => by have := (hO k e.symm).1; omega)
theorem FR.fresh (h : FR g b w fv f L ov op x M wx) (hb : Below wx.heap.size wx w') (hown : OwnT 31 w' wx.heap.size ov' op') : FR g b w fv f L ov' op' x M w' := by
  have hg := h.gB
  have hbB := h.bB
  have hbl := (Array.getElem?_eq_some_iff.1 h.box).1
  have hsz := h.but.size
  have hO := hown.lt
  refine ⟨own_same h.own fun k hk => hb.block k (h.own.lt k hk).2, own_base hown hsz, fun k hk e => ?_, h.nf, fun k hk => ?_, ?_, ?_, h.num.keepg fun k hk => hb.block k (by omega), hg, hbB⟩
  · have := (h.own.lt k hk).2
    have := (hO k e).1
    omega
  · have := (hO k hk).1
    omega
  · rw [hb.block b hbl]
    exact h.box
  · exact ⟨hb.os.trans h.but.os, hb.tape.trans h.but.tape, hb.output.trans h.but.output, Nat.le_trans h.but.size hb.size, fun k hk hn => (hb.block k (by omega)).trans (h.but.block k hk hn)⟩
end

/-- A call that has made a fragment. -/
def FragRet (g : Nat) (l : List Tk) (w : World) (e : Ending) (w' : World) : Prop := ∃ v, e = .returned v ∧ OwnT 31 w' w.heap.size v l ∧ But g w w'

end Go.Proofs.YtfkojnofbpdjdaaGreatDoor

namespace Go.Proofs.YtfkojnofbpdjdaaGreatDoor
set_option maxRecDepth 100000

/-- What one item that begins at position a gives to the slice. -/
def pcI (x : Tk) (a p q : Nat) : List Tk :=
  if x.k ≠ 1 then (if p ≤ a ∧ a < q then [x] else [])
  else if max p a - a < min q (a + x.t.size) - a then [⟨1, x.t.extract (max p a - a) (min q (a + x.t.size) - a), x.d⟩] else []
def slI : List Tk → Nat → Nat → Nat → List Tk
  | [], _, _, _ => []
  | x :: f, a, p, q => pcI x a p q ++ slI f (a + wdI x) p q
theorem slI_app (p q : Nat) : ∀ (f g : List Tk) (a : Nat), slI (f ++ g) a p q = slI f a p q ++ slI g (a + lenI f) p q
  | [], g, a => by simp [slI, lenI]
  | x :: f, g, a => by
    rw [List.cons_append, slI, slI, slI_app p q f g, lenI, List.append_assoc, Nat.add_assoc]
theorem slI_take (f : List Tk) (p q k : Nat) (h : k < f.length) : slI (f.take (k + 1)) 0 p q = slI (f.take k) 0 p q ++ pcI f[k] (lenI (f.take k)) p q := by
  rw [List.take_succ_eq_append_getElem h, slI_app, Nat.zero_add]
  congr 1
  simp [slI]
theorem pcI_len (x : Tk) (a p q : Nat) : (pcI x a p q).length ≤ 1 := by
  unfold pcI
  split
  · split <;> simp
  · split <;> simp
theorem slI_len : ∀ (f : List Tk) (a p q : Nat), (slI f a p q).length ≤ f.length
  | [], _, _, _ => Nat.le_refl _
  | x :: f, a, p, q => by
    rw [slI, List.length_append, List.length_cons]
    have h1 := pcI_len x a p q
    have h2 := slI_len f (a + wdI x) p q
    omega

end Go.Proofs.YtfkojnofbpdjdaaGreatDoor

namespace Go.Proofs.YtfkojnofbpdjdaaGreatDoor
set_option maxRecDepth 100000

/-- The positions of an item: is it in the plain text, is it a closing tag. -/
def psI (x : Tk) : List (Bool × Bool) := if x.k = 1 then List.replicate x.t.size (true, false) else if x.k = 5 then [(true, false)] else if x.k = 3 then [(false, true)] else [(false, false)]
def posI (f : List Tk) : List (Bool × Bool) := f.flatMap psI
def clP : List (Bool × Bool) → Nat
  | [] => 0
  | x :: ps => if x.2 = true then clP ps + 1 else 0
def placeP : List (Bool × Bool) → Nat → Nat
  | ps, 0 => clP ps
  | [], _ + 1 => 0
  | x :: ps, o + 1 => placeP ps (if x.1 = true then o else o + 1) + 1
def placeF (f : List Tk) (o : Int) : Int := if o < 0 ∨ ((plI f).length : Int) < o then -1 else (placeP (posI f) o.toNat : Nat)

theorem posI_app (f g : List Tk) : posI (f ++ g) = posI f ++ posI g := by simp [posI]
theorem posI_one (x : Tk) : posI [x] = psI x := by simp [posI]
theorem psI_len (x : Tk) : (psI x).length = wdI x := by
  unfold psI wdI
  split
  · simp
  · split
    · rfl
    · split <;> rfl
theorem posI_len : ∀ f : List Tk, (posI f).length = lenI f
  | [] => rfl
  | x :: f => by
    rw [show x :: f = [x] ++ f from rfl, posI_app, posI_one, List.length_append, psI_len, posI_len f, lenI_app]
    simp [lenI]
theorem psI_text (a b : ByteArray) (k1 k2 d : Int) (h1 : k1 = 1) (h2 : k2 = 1) (d1 d2 : Int) : psI ⟨1, a ++ b, d⟩ = psI ⟨k1, a, d1⟩ ++ psI ⟨k2, b, d2⟩ := by
  unfold psI
  subst h1 h2
  simp only [if_true]
  rw [ByteArray.size_append, List.replicate_append_replicate]
theorem posI_step (out : List Tk) (x : Tk) : posI (normStep out x) = posI out ++ psI x := by
  by_cases h : x.k = 1
  · by_cases h2 : x.t.size = 0
    · rw [step_empty out x h h2]
      have : psI x = [] := by unfold psI; rw [if_pos h, h2]; rfl
      rw [this, List.append_nil]
    · have hx : psI ⟨1, x.t, 0⟩ = psI x := by unfold psI; rw [if_pos rfl, if_pos h]
      rcases List.eq_nil_or_concat out with rfl | ⟨l, y, rfl⟩
      · rw [step_first x h h2, posI_one, hx]
        rfl
      · rw [List.concat_eq_append]
        by_cases hy : y.k = 1
        · rw [step_join l y x h h2 hy, posI_app, posI_app, posI_one, posI_one, psI_text y.t x.t y.k x.k 0 hy h y.d x.d, List.append_assoc]
        · rw [step_new l y x h h2 hy, posI_app, posI_one, hx]
  · rw [step_other out x h, posI_app, posI_one]
theorem posI_fold : ∀ (f out : List Tk), posI (f.foldl normStep out) = posI out ++ posI f
  | [], out => by simp [posI]
  | x :: f, out => by
    rw [List.foldl_cons, posI_fold f, posI_step, show x :: f = [x] ++ f from rfl, posI_app [x] f, posI_one, List.append_assoc]
theorem posI_norm (f : List Tk) : posI (normL f) = posI f := by
  unfold normL
  rw [posI_fold]
  rfl
/-- How many positions are in the plain text. -/
def cntP (ps : List (Bool × Bool)) : Nat := (ps.filter (·.1)).length
theorem cntP_app (a b : List (Bool × Bool)) : cntP (a ++ b) = cntP a + cntP b := by simp [cntP]
theorem cntP_item (x : Tk) : cntP (psI x) = (byI x).length := by
  unfold cntP psI byI
  split
  · rw [List.filter_eq_self.2 (by intro y hy; rw [List.eq_of_mem_replicate hy])]
    simp
  · split
    · rfl
    · split <;> rfl
theorem cntP_pos : ∀ f : List Tk, cntP (posI f) = (plI f).length
  | [] => rfl
  | x :: f => by
    rw [show x :: f = [x] ++ f from rfl, posI_app, posI_one, cntP_app, cntP_item, cntP_pos f, plI_app, List.length_append]
    congr 1
    simp [plI]

end Go.Proofs.YtfkojnofbpdjdaaGreatDoor

namespace Go.Proofs.YtfkojnofbpdjdaaGreatDoor
set_option maxRecDepth 100000
open Go.RowKit

def b2n (p : Nat → Bool) (i : Nat) : Nat := if p i = true then 1 else 0
theorem b2n_le (p : Nat → Bool) (i : Nat) : b2n p i ≤ 1 := by unfold b2n; split <;> omega
/-- Byte k of a set. -/
def byteOf (p : Nat → Bool) (k : Nat) : Nat := b2n p (8 * k) + 2 * b2n p (8 * k + 1) + 4 * b2n p (8 * k + 2) + 8 * b2n p (8 * k + 3) + 16 * b2n p (8 * k + 4) + 32 * b2n p (8 * k + 5) + 64 * b2n p (8 * k + 6) + 128 * b2n p (8 * k + 7)
theorem byteOf_lt (p : Nat → Bool) (k : Nat) : byteOf p k < 256 := by
  have h0 := b2n_le p (8 * k)
  have h1 := b2n_le p (8 * k + 1)
  have h2 := b2n_le p (8 * k + 2)
  have h3 := b2n_le p (8 * k + 3)
  have h4 := b2n_le p (8 * k + 4)
  have h5 := b2n_le p (8 * k + 5)
  have h6 := b2n_le p (8 * k + 6)
  have h7 := b2n_le p (8 * k + 7)
  unfold byteOf
  omega
theorem byteOf_bit (p : Nat → Bool) (k j : Nat) (hj : j < 8) : byteOf p k / 2 ^ j % 2 = b2n p (8 * k + j) := by
  have h0 := b2n_le p (8 * k)
  have h1 := b2n_le p (8 * k + 1)
  have h2 := b2n_le p (8 * k + 2)
  have h3 := b2n_le p (8 * k + 3)
  have h4 := b2n_le p (8 * k + 4)
  have h5 := b2n_le p (8 * k + 5)
  have h6 := b2n_le p (8 * k + 6)
  have h7 := b2n_le p (8 * k + 7)
  unfold byteOf
  rcases (show j = 0 ∨ j = 1 ∨ j = 2 ∨ j = 3 ∨ j = 4 ∨ j = 5 ∨ j = 6 ∨ j = 7 by omega) with rfl | rfl | rfl | rfl | rfl | rfl | rfl | rfl
  all_goals simp only [Nat.add_zero, show (2 : Nat) ^ 0 = 1 from rfl, show (2 : Nat) ^ 1 = 2 from rfl, show (2 : Nat) ^ 2 = 4 from rfl, show (2 : Nat) ^ 3 = 8 from rfl, show (2 : Nat) ^ 4 = 16 from rfl, show (2 : Nat) ^ 5 = 32 from rfl, show (2 : Nat) ^ 6 = 64 from rfl, show (2 : Nat) ^ 7 = 128 from rfl]
  all_goals omega
/-- A byte is known by its bits. -/
theorem byte_ext {v u : Nat} (hv : v < 256) (hu : u < 256) (h : ∀ j, j < 8 → v / 2 ^ j % 2 = u / 2 ^ j % 2) : v = u := by
  have h0 := h 0 (by omega)
  have h1 := h 1 (by omega)
  have h2 := h 2 (by omega)
  have h3 := h 3 (by omega)
  have h4 := h 4 (by omega)
  have h5 := h 5 (by omega)
  have h6 := h 6 (by omega)
  have h7 := h 7 (by omega)
  simp only [show (2 : Nat) ^ 0 = 1 from rfl, show (2 : Nat) ^ 1 = 2 from rfl, show (2 : Nat) ^ 2 = 4 from rfl, show (2 : Nat) ^ 3 = 8 from rfl, show (2 : Nat) ^ 4 = 16 from rfl, show (2 : Nat) ^ 5 = 32 from rfl, show (2 : Nat) ^ 6 = 64 from rfl, show (2 : Nat) ^ 7 = 128 from rfl] at h0 h1 h2 h3 h4 h5 h6 h7
  omega
theorem byteOf_congr {p q : Nat → Bool} {k : Nat} (h : ∀ j, j < 8 → p (8 * k + j) = q (8 * k + j)) : byteOf p k = byteOf q k := by
  refine byte_ext (byteOf_lt p k) (byteOf_lt q k) fun j hj => ?_
  rw [byteOf_bit p k j hj, byteOf_bit q k j hj]
  unfold b2n
  rw [h j hj]

/-! ### What the machine's operations do to bits: all bytes tried -/
theorem and_tab : ∀ v : Fin 256, ∀ j : Fin 8, (bits BinOp.and IntKind.u8 (((v.val : Nat) : Int) / 2 ^ j.val) 1 == 1) = (v.val / 2 ^ j.val % 2 == 1) := by decide +kernel
/-- The bit of a byte in a set. -/
theorem test_bit (p : Nat → Bool) (b : Nat) : (bits BinOp.and IntKind.u8 ((byteOf p (b / 8) : Nat) / 2 ^ (b % 8)) 1 == 1) = p b := by
  have h := and_tab ⟨byteOf p (b / 8), byteOf_lt _ _⟩ ⟨b % 8, Nat.mod_lt _ (by decide)⟩
  simp only at h
  rw [h, byteOf_bit p (b / 8) (b % 8) (Nat.mod_lt _ (by decide)), show 8 * (b / 8) + b % 8 = b by omega]
  unfold b2n
  cases p b <;> rfl
def addP (p : Nat → Bool) (b : Nat) : Nat → Bool := fun n => n == b || p n
/-- The cells of a set. -/
def setC (p : Nat → Bool) : List Value := (List.range 32).map fun k => .int .u8 (byteOf p k : Nat)
theorem setC_length (p : Nat → Bool) : (setC p).length = 32 := by simp [setC]
theorem setC_get (p : Nat → Bool) (k : Nat) (h : k < 32) : (setC p)[k]? = some (.int .u8 (byteOf p k : Nat)) := by simp [setC, h]
theorem setC_congr {p q : Nat → Bool} (h : ∀ n, n < 256 → p n = q n) : setC p = setC q := by
  unfold setC
  refine List.map_congr_left fun k hk => ?_
  have hk' := List.mem_range.1 hk
  rw [byteOf_congr fun j hj => h _ (by omega)]
/-- A set with one byte written anew. -/
theorem setC_set (p q : Nat → Bool) (k : Nat) (hk : k < 32) (h : ∀ i, i < 32 → i ≠ k → byteOf q i = byteOf p i) : (setC p).toArray.setIfInBounds k (.int .u8 (byteOf q k : Nat)) = (setC q).toArray := by
  rw [List.setIfInBounds_toArray]
  congr 1
  refine List.ext_getElem? fun i => ?_
  by_cases hi : i < 32
  · by_cases hik : i = k
    · subst hik
      rw [List.getElem?_set_self (by rw [setC_length]; exact hk), setC_get q i hi]
    · rw [List.getElem?_set_ne (fun e => hik e.symm), setC_get p i hi, setC_get q i hi, h i hi hik]
  · rw [List.getElem?_eq_none (by rw [List.length_set, setC_length]; omega), List.getElem?_eq_none (by rw [setC_length]; omega)]
def noP : Nat → Bool := fun _ => false

end Go.Proofs.YtfkojnofbpdjdaaGreatDoor

namespace Go.Proofs.YtfkojnofbpdjdaaGreatDoor
set_option maxRecDepth 100000
open Go.RowKit

/-- An atom: its set, its least number, and whether it may be many. -/
structure At where
  p : Nat → Bool
  mn : Int
  many : Bool
def atC (x : At) : List Value := setC x.p ++ [.int .i64 x.mn, .bool x.many]
theorem atC_len (x : At) : (atC x).length = 34 := by simp [atC, setC_length]
theorem atC_set (x : At) (k : Nat) (h : k < 32) : (atC x)[k]? = some (.int .u8 (byteOf x.p k : Nat)) := by
  unfold atC
  rw [List.getElem?_append_left (by rw [setC_length]; exact h), setC_get x.p k h]
theorem atC_mn (x : At) : (atC x)[32]? = some (.int .i64 x.mn) := by
  unfold atC
  rw [List.getElem?_append_right (by rw [setC_length]; omega), setC_length]
  rfl
theorem atC_many (x : At) : (atC x)[33]? = some (.bool x.many) := by
  unfold atC
  rw [List.getElem?_append_right (by rw [setC_length]; omega), setC_length]
  rfl

theorem at_cell (w : World) (x : At) (t : TypeId) (k : Nat) (v : Value) (h : (atC x)[k]? = some v) : (w.alloc (.cells (atC x).toArray t)).cell? ⟨w.heap.size, k, none⟩ = some v := by
  rw [cell_of_row _ _ _ (atC x).toArray t _ (heap_alloc_new w _)]
  simpa using h

set_option maxRecDepth 100000 in
set_option maxHeartbeats 1000000 in
theorem contains_any (x : At) (b : Nat) (w : World) (hb : b < 256) :
    Calls Tryz.prog 152 #[.agg (atC x).toArray, .int .u8 b] w fun e w' => e = .returned (.bool (x.p b)) ∧ Below w.heap.size w w' := by
  have q := at_cell w x 107 (b / 8) _ (atC_set x (b / 8) (by omega))
  have H := Lib.hid (test_bit x.p b)
  have hv := byteOf_lt x.p (b / 8)
  generalize byteOf x.p (b / 8) = v at q H hv
  generalize (atC x).toArray = cs at q ⊢
  go_enter Tryz.func152, Tryz.ntmps152
  go_wp2_with fail
  go_ret
  exact ⟨ret_bool H.out, (Below.refl w.heap.size w).alloc (Nat.le_refl _) _⟩

/-- The set in block g. -/
def SetIn (w : World) (g : Nat) (t : TypeId) (p : Nat → Bool) : Prop := w.heap[g]? = some (.cells (setC p).toArray t)
theorem SetIn.cell {w : World} {g : Nat} {t : TypeId} {p : Nat → Bool} (h : SetIn w g t p) (k : Nat) (hk : k < 32) : w.cell? ⟨g, k, none⟩ = some (.int .u8 (byteOf p k : Nat)) := by
  rw [cell_of_row _ _ _ _ _ _ h]
  simpa using setC_get p k hk
theorem SetIn.free {w : World} {g : Nat} {t : TypeId} {p : Nat → Bool} (h : SetIn w g t p) (k : Nat) : w.frozen? ⟨g, k, none⟩ = false := frozen_of_row w g k _ t h
theorem SetIn.lt {w : World} {g : Nat} {t : TypeId} {p : Nat → Bool} (h : SetIn w g t p) : g < w.heap.size := (Array.getElem?_eq_some_iff.1 h).1
/-- Block g alone may have changed. -/
structure Only (g : Nat) (w w' : World) : Prop where
  os : w'.os = w.os
  tape : w'.tape = w.tape
  output : w'.output = w.output
  size : w.heap.size ≤ w'.heap.size
  block : ∀ k, k < w.heap.size → k ≠ g → w'.heap[k]? = w.heap[k]?
theorem Only.refl (g : Nat) (w : World) : Only g w w := ⟨rfl, rfl, rfl, Nat.le_refl _, fun _ _ _ => rfl⟩
theorem Only.trans {g : Nat} {a b c : World} (h : Only g a b) (k : Only g b c) : Only g a c :=
  ⟨k.os.trans h.os, k.tape.trans h.tape, k.output.trans h.output, Nat.le_trans h.size k.size, fun i hi hn => (k.block i (Nat.lt_of_lt_of_le hi h.size) hn).trans (h.block i hi hn)⟩
theorem Only.of_below {g : Nat} {w w' : World} (h : Below w.heap.size w w') : Only g w w' := ⟨h.os, h.tape, h.output, h.size, fun k hk _ => h.block k hk⟩
theorem Only.below {g B : Nat} {w w' : World} (h : Only g w w') (hB : B ≤ g) (hs : B ≤ w.heap.size) : Below B w w' := ⟨h.os, h.tape, h.output, h.size, fun k hk => h.block k (by omega) (by omega)⟩
theorem Only.alloc {g : Nat} {a w : World} (h : Only g a w) (o : Obj) : Only g a (w.alloc o) := h.trans (.of_below ((Below.refl _ _).alloc (Nat.le_refl _) o))
theorem Only.drewN {g : Nat} {a w : World} (h : Only g a w) (n : Nat) : Only g a (w.drewN n) := ⟨h.os, h.tape, h.output, h.size, h.block⟩
theorem Only.set {g : Nat} {a w : World} (h : Only g a w) (j : Nat) (u : Value) : Only g a (w.setCell ⟨g, j, none⟩ u) :=
  h.trans ⟨rfl, rfl, rfl, by simp [World.setCell], fun k _ hn => Below.heap_setCell _ _ _ _ (by show k ≠ g; exact hn)⟩

theorem SetIn.congr {w : World} {g : Nat} {t : TypeId} {p q : Nat → Bool} (h : SetIn w g t p) (e : ∀ n, n < 256 → p n = q n) : SetIn w g t q := by
  unfold SetIn at *
  rw [← setC_congr e]
  exact h
theorem SetIn.keep {w w' : World} {g : Nat} {t : TypeId} {p : Nat → Bool} (h : SetIn w g t p) (e : w'.heap[g]? = w.heap[g]?) : SetIn w' g t p := e.trans h

/-- A store of a whole set. -/
theorem SetIn.row {w : World} {g : Nat} {t : TypeId} {p : Nat → Bool} (h : SetIn w g t p) (q : Nat → Bool) : SetIn (w.setRow g (setC q).toArray) g t q := setRow_heap w g _ _ t _ h
theorem Only.row {g : Nat} {a w : World} (h : Only g a w) (cs : Array Value) : Only g a (w.setRow g cs) :=
  h.trans ⟨rfl, rfl, rfl, by simp, fun k _ hn => setRow_other w g k cs hn⟩
theorem setC_one (p : Nat → Bool) : (setC p).toArray.all (·.oneCell') = true := by
  rw [Array.all_eq_true_iff_forall_mem]
  intro v hv
  simp [setC] at hv
  obtain ⟨k, _, rfl⟩ := hv
  rfl
end Go.Proofs.YtfkojnofbpdjdaaGreatDoor

namespace Go.Proofs.YtfkojnofbpdjdaaGreatDoor
set_option maxRecDepth 100000
open Go.RowKit

theorem of_any (n : Int) (w : World) (h0 : 0 ≤ n) (h1 : n < 256) :
    Calls Tryz.prog 97 #[.int .u8 n] w fun e w' => e = .returned (.int .i64 (clsN n)) ∧ w = w' := by
  go_enter Tryz.func97, Tryz.ntmps97
  go_wp2
  all_goals (go_ret; refine ⟨ret_int ?_, rfl⟩)
  all_goals (try simp only [beq_iff_eq, beq_eq_false_iff_ne] at *)
  all_goals (unfold clsN; repeat (first | rw [if_pos (by omega)] | rw [if_neg (by omega)]))

end Go.Proofs.YtfkojnofbpdjdaaGreatDoor

namespace Go.Proofs.YtfkojnofbpdjdaaGreatDoor
set_option maxRecDepth 100000
open Go.RowKit

end Go.Proofs.YtfkojnofbpdjdaaGreatDoor

namespace Go.Proofs.YtfkojnofbpdjdaaGreatDoor
set_option maxRecDepth 100000
open Go.RowKit

/-- Byte i of a string. -/
def bt (s : ByteArray) (i : Nat) : Nat := (s.data.toList.getD i 0).toNat
theorem bt_get (s : ByteArray) (i : Nat) (h : i < s.size) : bt s i = s[i].toNat := by
  unfold bt
  have hl : i < s.data.toList.length := by rw [← Lib.size_eq]; exact h
  rw [List.getD_eq_getElem?_getD, List.getElem?_eq_getElem hl]
  rfl
end Go.Proofs.YtfkojnofbpdjdaaGreatDoor

namespace Go.Proofs.YtfkojnofbpdjdaaGreatDoor
set_option maxRecDepth 100000
open Go.RowKit

set_option maxRecDepth 100000 in
set_option maxHeartbeats 1000000 in
theorem index_any (s : ByteArray) (b : Nat) (w : World) :
    Calls Tryz.prog 126 #[.string s, .int .u8 b] w fun e w' => e = .returned (.int .i64 (Lib.indexByte s.data.toList (b : Int).toNat.toUInt8)) ∧ w = w' := by
  have C : ∀ w, Calls Tryz.prog 166 #[.string s, .int .u8 b] w fun e w' => e = .returned (.int .i64 (Lib.indexByte s.data.toList (b : Int).toNat.toUInt8)) ∧ w = w' := fun w => by
    go_enter Tryz.func166, Tryz.ntmps166
    go_wp2
    rw [run_callFunc_extern Tryz.func191 (by kernel_rfl) (by kernel_rfl) (by kernel_rfl) (e := Extern.BytealgIndexByte.indexByte) (by kernel_rfl), Lib.run_indexByteString]
    simp only [Result.andThen]
    rw [Oper.upon_value]
    go_wp2
    go_ret
    exact ⟨rfl, rfl⟩
  have HC := Lib.hid C
  clear C
  go_enter Tryz.func126, Tryz.ntmps126
  go_wp2_with (go_at_call 166; refine (HC.out _).mono ?_; rintro e w' ⟨rfl, rfl⟩)
  go_ret
  exact ⟨rfl, rfl⟩

section
variable {w w' : World} {R : Nat} {s : ByteArray} {i : Nat} {bad : Bool}
theorem SetIn.other {t : TypeId} {g : Nat} {p : Nat → Bool} (h : SetIn w g t p) {r : Nat} (hg : g ≠ r) (k : Nat) (u : Value) : SetIn (w.setCell ⟨r, k, none⟩ u) g t p := h.keep (Below.heap_setCell _ _ _ _ hg)
theorem SetIn.below {t : TypeId} {g : Nat} {p : Nat → Bool} (h : SetIn w g t p) (hb : Below w.heap.size w w') : SetIn w' g t p := h.keep (hb.block _ h.lt)
theorem SetIn.only {t : TypeId} {g r : Nat} {p : Nat → Bool} (h : SetIn w g t p) (hb : Only r w w') (hg : g ≠ r) : SetIn w' g t p := h.keep (hb.block _ h.lt hg)
theorem Only.new {a b c : World} {g : Nat} (h : Only R a b) (k : Only g b c) (hg : a.heap.size ≤ g) : Only R a c :=
  ⟨k.os.trans h.os, k.tape.trans h.tape, k.output.trans h.output, Nat.le_trans h.size k.size, fun i hi hn => (k.block i (Nat.lt_of_lt_of_le hi h.size) (by omega)).trans (h.block i hi hn)⟩
theorem Only.bel {a b c : World} (h : Only R a b) (k : Below b.heap.size b c) : Only R a c := h.trans (.of_below k)
end

end Go.Proofs.YtfkojnofbpdjdaaGreatDoor

namespace Go.Proofs.YtfkojnofbpdjdaaGreatDoor
set_option maxRecDepth 100000
open Go.RowKit

end Go.Proofs.YtfkojnofbpdjdaaGreatDoor

namespace Go.Proofs.YtfkojnofbpdjdaaGreatDoor
set_option maxRecDepth 100000
open Go.RowKit

theorem results_cell_tmp2 {fn : Func} {p u v : Tmp} {ty : TypeId} (h : fn.results = #[.cell p ty, .tmp u, .tmp v]) (tmps : Array Value) (P : Program) (w : World) :
    (results fn tmps).run P w =
      ((asAddr (tmps.getD p undef)).run P w).andThen fun a w₁ => ((loadVar ty a).run P w₁).andThen fun x w₂ => .ok (.tuple #[x, tmps.getD u undef, tmps.getD v undef]) w₂ := by
  simp only [results, h]
  simp [Sem.run_bind, Result.andThen]
end Go.Proofs.YtfkojnofbpdjdaaGreatDoor

namespace Go.Proofs.YtfkojnofbpdjdaaGreatDoor
set_option maxRecDepth 100000
open Go.RowKit

end Go.Proofs.YtfkojnofbpdjdaaGreatDoor

namespace Go.Proofs.YtfkojnofbpdjdaaGreatDoor
set_option maxRecDepth 100000
open Go.RowKit

/-- Blocks g and h alone may have changed. -/
structure Two (g h : Nat) (w w' : World) : Prop where
  os : w'.os = w.os
  tape : w'.tape = w.tape
  output : w'.output = w.output
  size : w.heap.size ≤ w'.heap.size
  block : ∀ k, k < w.heap.size → k ≠ g → k ≠ h → w'.heap[k]? = w.heap[k]?
section
variable {g h : Nat} {a b c : World}
theorem Two.refl (g h : Nat) (w : World) : Two g h w w := ⟨rfl, rfl, rfl, Nat.le_refl _, fun _ _ _ _ => rfl⟩
theorem Two.trans (x : Two g h a b) (y : Two g h b c) : Two g h a c :=
  ⟨y.os.trans x.os, y.tape.trans x.tape, y.output.trans x.output, Nat.le_trans x.size y.size, fun i hi h1 h2 => (y.block i (Nat.lt_of_lt_of_le hi x.size) h1 h2).trans (x.block i hi h1 h2)⟩
theorem Two.ofL (x : Only g a b) : Two g h a b := ⟨x.os, x.tape, x.output, x.size, fun k hk h1 _ => x.block k hk h1⟩
theorem Two.bel (x : Below a.heap.size a b) : Two g h a b := ⟨x.os, x.tape, x.output, x.size, fun k hk _ _ => x.block k hk⟩
theorem Two.new {r : Nat} (x : Two g h a b) (y : Only r b c) (hr : a.heap.size ≤ r) : Two g h a c :=
  ⟨y.os.trans x.os, y.tape.trans x.tape, y.output.trans x.output, Nat.le_trans x.size y.size, fun i hi h1 h2 => (y.block i (Nat.lt_of_lt_of_le hi x.size) (by omega)).trans (x.block i hi h1 h2)⟩
theorem Two.drewN (x : Two g h a b) (n : Nat) : Two g h a (b.drewN n) := ⟨x.os, x.tape, x.output, x.size, x.block⟩
/-- A block that the call made itself is forgotten. -/
theorem Two.onlyL (x : Two g h a b) (hh : a.heap.size ≤ h) : Only g a b := ⟨x.os, x.tape, x.output, x.size, fun k hk h1 => x.block k hk h1 (by omega)⟩
theorem SetIn.two {t : TypeId} {r : Nat} {p : Nat → Bool} (x : SetIn a r t p) (y : Two g h a b) (h1 : r ≠ g) (h2 : r ≠ h) : SetIn b r t p := x.keep (y.block _ x.lt h1 h2)
end
end Go.Proofs.YtfkojnofbpdjdaaGreatDoor

namespace Go.Proofs.YtfkojnofbpdjdaaGreatDoor
set_option maxRecDepth 100000
open Go.RowKit

theorem Only.two {g h : Nat} {a b c : World} (x : Only g a b) (y : Two g h b c) (hh : a.heap.size ≤ h) : Only g a c := ((Two.ofL x (h := h)).trans y).onlyL hh
end Go.Proofs.YtfkojnofbpdjdaaGreatDoor

namespace Go.Proofs.YtfkojnofbpdjdaaGreatDoor
set_option maxRecDepth 100000
open Go.RowKit

end Go.Proofs.YtfkojnofbpdjdaaGreatDoor

namespace Go.Proofs.YtfkojnofbpdjdaaGreatDoor
set_option maxRecDepth 100000
open Go.RowKit

end Go.Proofs.YtfkojnofbpdjdaaGreatDoor

namespace Go.Proofs.YtfkojnofbpdjdaaGreatDoor
set_option maxRecDepth 100000
open Go.RowKit

/-- The places behind an atom that are reached by a byte. -/
def nxF (x : At) (s : ByteArray) (f : Nat → Bool) : Nat → Bool
  | 0 => false
  | i + 1 => (f i || (x.many && nxF x s f i)) && x.p (bt s i)
def advF (x : At) (s : ByteArray) (f : Nat → Bool) (i : Nat) : Bool := nxF x s f i || (decide (x.mn < 1) && f i)
theorem adv_zero (x : At) (s : ByteArray) (f : Nat → Bool) : advF x s f 0 = (decide (x.mn < 1) && f 0) := by
  unfold advF nxF
  rw [Bool.false_or]
theorem adv_own (x : At) (s : ByteArray) (f : Nat → Bool) (k : Nat) : advF x s f (k + 1) = ((decide (x.mn < 1) && f (k + 1)) || (x.p (bt s k) && (f k || (x.many && advF x s f k)))) := by
  unfold advF
  rw [show nxF x s f (k + 1) = ((f k || (x.many && nxF x s f k)) && x.p (bt s k)) from rfl]
  cases f k <;> cases x.many <;> cases nxF x s f k <;> cases decide (x.mn < 1) <;> cases f (k + 1) <;> cases x.p (bt s k) <;> rfl
def reachF (s : ByteArray) : List At → (Nat → Bool) → Nat → Bool
  | [], f => f
  | x :: p, f => reachF s p (advF x s f)
def startF : Nat → Bool := fun i => i == 0
def allF : Nat → Bool := fun _ => true
/-- The greatest place below n, or -1. -/
def longF (f : Nat → Bool) : Nat → Int
  | 0 => -1
  | n + 1 => if f n = true then (n : Int) else longF f n
def longestF (p : List At) (s : ByteArray) : Int := longF (reachF s p startF) (s.size + 1)
def prefixF (p : List At) (s : ByteArray) : Bool := decide (0 ≤ longestF p s)
def suffixF (p : List At) (s : ByteArray) : Bool := reachF s p allF s.size
end Go.Proofs.YtfkojnofbpdjdaaGreatDoor

namespace Go.Proofs.YtfkojnofbpdjdaaGreatDoor
set_option maxRecDepth 100000
open Go.RowKit

/-- The words of an atom. -/
def inA (x : At) (u : List Nat) : Prop := (u = [] ∧ x.mn < 1) ∨ (u ≠ [] ∧ (∀ b ∈ u, x.p b = true) ∧ (u.length = 1 ∨ x.many = true))
/-- The words of a pattern. -/
def Lang : List At → List Nat → Prop
  | [], u => u = []
  | x :: p, u => ∃ a b, u = a ++ b ∧ inA x a ∧ Lang p b

theorem lang_append : ∀ (p q : List At) (u : List Nat), Lang (p ++ q) u ↔ ∃ a b, u = a ++ b ∧ Lang p a ∧ Lang q b
  | [], q, u => ⟨fun h => ⟨[], u, rfl, rfl, h⟩, fun ⟨a, b, h1, h2, h3⟩ => by
      have h2' : a = [] := h2
      subst h2'
      rw [h1]
      exact h3⟩
  | x :: p, q, u => ⟨fun ⟨a, b, h1, h2, h3⟩ => by
      obtain ⟨c, d, h4, h5, h6⟩ := (lang_append p q b).1 h3
      exact ⟨a ++ c, d, by rw [h1, h4, List.append_assoc], ⟨a, c, rfl, h2, h5⟩, h6⟩, fun ⟨a, b, h1, ⟨c, d, h4, h5, h6⟩, h3⟩ =>
      ⟨c, d ++ b, by rw [h1, h4, List.append_assoc], h5, (lang_append p q (d ++ b)).2 ⟨d, b, rfl, h6, h3⟩⟩⟩
theorem lang_one (x : At) (u : List Nat) : Lang [x] u ↔ inA x u :=
  ⟨fun ⟨a, b, h1, h2, h3⟩ => by
    have h3' : b = [] := h3
    subst h3'
    rw [h1, List.append_nil]
    exact h2, fun h => ⟨u, [], by rw [List.append_nil], h, rfl⟩⟩
theorem inA_rev (x : At) (u : List Nat) : inA x u.reverse ↔ inA x u := by
  unfold inA
  rw [List.length_reverse]
  have e : u.reverse = [] ↔ u = [] := List.reverse_eq_nil_iff
  constructor
  · rintro (h | ⟨h1, h2, h3⟩)
    · exact .inl ⟨e.1 h.1, h.2⟩
    · exact .inr ⟨fun h => h1 (e.2 h), fun b hb => h2 b (List.mem_reverse.2 hb), h3⟩
  · rintro (h | ⟨h1, h2, h3⟩)
    · exact .inl ⟨e.2 h.1, h.2⟩
    · exact .inr ⟨fun h => h1 (e.1 h), fun b hb => h2 b (List.mem_reverse.1 hb), h3⟩
theorem lang_rev_imp : ∀ (p : List At) (u : List Nat), Lang p u → Lang p.reverse u.reverse
  | [], u, h => by
    have h' : u = [] := h
    subst h'
    rfl
  | x :: p, u, ⟨a, b, h1, h2, h3⟩ => by
    rw [List.reverse_cons, h1, List.reverse_append]
    exact (lang_append _ _ _).2 ⟨_, _, rfl, lang_rev_imp p b h3, (lang_one x _).2 ((inA_rev x a).2 h2)⟩
theorem lang_rev (p : List At) (u : List Nat) : Lang p.reverse u.reverse ↔ Lang p u :=
  ⟨fun h => by
    have := lang_rev_imp _ _ h
    rwa [List.reverse_reverse, List.reverse_reverse] at this, lang_rev_imp p u⟩

/-! ### Places -/
/-- The bytes of s from i up to n. -/
def seg (s : ByteArray) (i n : Nat) : List Nat := ((List.range n).drop i).map (bt s)
theorem seg_self (s : ByteArray) (i : Nat) : seg s i i = [] := by unfold seg; rw [List.drop_eq_nil_of_le (by simp)]; rfl
theorem seg_len (s : ByteArray) (i n : Nat) : (seg s i n).length = n - i := by unfold seg; simp
theorem seg_snoc (s : ByteArray) (i n : Nat) (h : i ≤ n) : seg s i (n + 1) = seg s i n ++ [bt s n] := by
  unfold seg
  rw [List.range_succ, List.drop_append_of_le_length (by simpa using h), List.map_append]
  rfl
theorem seg_split (s : ByteArray) (i j n : Nat) (h1 : i ≤ j) (h2 : j ≤ n) : seg s i n = seg s i j ++ seg s j n := by
  induction n with
  | zero =>
    obtain rfl : j = 0 := by omega
    obtain rfl : i = 0 := by omega
    rw [seg_self]; rfl
  | succ n ih =>
    by_cases hj : j = n + 1
    · subst hj
      rw [seg_self, List.append_nil]
    · rw [seg_snoc s i n (by omega), seg_snoc s j n (by omega), ih (by omega), List.append_assoc]
theorem nx_lang (x : At) (s : ByteArray) (f : Nat → Bool) : ∀ n, nxF x s f n = true ↔ ∃ i, i < n ∧ f i = true ∧ (∀ b ∈ seg s i n, x.p b = true) ∧ (n - i = 1 ∨ x.many = true)
  | 0 => ⟨fun h => absurd h Bool.false_ne_true, fun ⟨i, h, _⟩ => absurd h (Nat.not_lt_zero i)⟩
  | n + 1 => by
    rw [show nxF x s f (n + 1) = ((f n || (x.many && nxF x s f n)) && x.p (bt s n)) from rfl, Bool.and_eq_true, Bool.or_eq_true, Bool.and_eq_true, nx_lang x s f n]
    constructor
    · rintro ⟨h | ⟨hm, i, h1, h2, h3, h4⟩, hp⟩
      · refine ⟨n, by omega, h, fun b hb => ?_, .inl (by omega)⟩
        rw [seg_snoc s n n (Nat.le_refl _), seg_self] at hb
        simp at hb
        rw [hb]
        exact hp
      · refine ⟨i, by omega, h2, fun b hb => ?_, .inr hm⟩
        rw [seg_snoc s i n (by omega)] at hb
        rcases List.mem_append.1 hb with hb | hb
        · exact h3 b hb
        · simp at hb
          rw [hb]
          exact hp
    · rintro ⟨i, h1, h2, h3, h4⟩
      have hp : x.p (bt s n) = true := h3 _ (by rw [seg_snoc s i n (by omega)]; exact List.mem_append_right _ (by simp))
      refine ⟨?_, hp⟩
      by_cases hi : i = n
      · subst hi
        exact .inl h2
      · have hm : x.many = true := by
          rcases h4 with h4 | h4
          · omega
          · exact h4
        exact .inr ⟨hm, i, by omega, h2, fun b hb => h3 b (by rw [seg_snoc s i n (by omega)]; exact List.mem_append_left _ hb), .inr hm⟩
theorem adv_lang (x : At) (s : ByteArray) (f : Nat → Bool) (n : Nat) : advF x s f n = true ↔ ∃ i, i ≤ n ∧ f i = true ∧ inA x (seg s i n) := by
  unfold advF
  rw [Bool.or_eq_true, Bool.and_eq_true, decide_eq_true_iff, nx_lang x s f n]
  constructor
  · rintro (⟨i, h1, h2, h3, h4⟩ | ⟨h1, h2⟩)
    · refine ⟨i, by omega, h2, .inr ⟨?_, h3, ?_⟩⟩
      · intro e
        have := seg_len s i n
        rw [e] at this
        simp at this
        omega
      · rw [seg_len]
        exact h4
    · exact ⟨n, Nat.le_refl _, h2, .inl ⟨seg_self s n, h1⟩⟩
  · rintro ⟨i, h1, h2, h3 | ⟨h3, h4, h5⟩⟩
    · have hi : i = n := by
        have := seg_len s i n
        rw [h3.1] at this
        simp at this
        omega
      subst hi
      exact .inr ⟨h3.2, h2⟩
    · rw [seg_len] at h5
      refine .inl ⟨i, ?_, h2, h4, h5⟩
      refine Nat.lt_of_le_of_ne h1 fun e => h3 ?_
      subst e
      exact seg_self s i
theorem seg_cut (s : ByteArray) (i n : Nat) (hin : i ≤ n) (a b : List Nat) (h : seg s i n = a ++ b) : ∃ j, i ≤ j ∧ j ≤ n ∧ seg s i j = a ∧ seg s j n = b := by
  have hl : a.length + b.length = n - i := by rw [← List.length_append, ← h, seg_len]
  refine ⟨i + a.length, by omega, by omega, ?_⟩
  have h2 := seg_split s i (i + a.length) n (by omega) (by omega)
  rw [h] at h2
  have h3 : a.length = (seg s i (i + a.length)).length := by rw [seg_len]; omega
  obtain ⟨e1, e2⟩ := List.append_inj h2 h3
  exact ⟨e1.symm, e2.symm⟩
theorem reach_lang (s : ByteArray) : ∀ (p : List At) (f : Nat → Bool) (n : Nat), reachF s p f n = true ↔ ∃ i, i ≤ n ∧ f i = true ∧ Lang p (seg s i n)
  | [], f, n => ⟨fun h => ⟨n, Nat.le_refl _, h, seg_self s n⟩, fun ⟨i, h1, h2, h3⟩ => by
      have h3' : seg s i n = [] := h3
      have : i = n := by
        have := seg_len s i n
        rw [h3'] at this
        simp at this
        omega
      subst this
      exact h2⟩
  | x :: p, f, n => by
    rw [show reachF s (x :: p) f n = reachF s p (advF x s f) n from rfl, reach_lang s p]
    constructor
    · rintro ⟨j, h1, h2, h3⟩
      obtain ⟨i, h4, h5, h6⟩ := (adv_lang x s f j).1 h2
      exact ⟨i, by omega, h5, _, _, seg_split s i j n h4 h1, h6, h3⟩
    · rintro ⟨i, h1, h2, a, b, h3, h4, h5⟩
      obtain ⟨j, h6, h7, h8, h9⟩ := seg_cut s i n h1 a b h3
      exact ⟨j, h7, (adv_lang x s f j).2 ⟨i, h6, h2, by rw [h8]; exact h4⟩, by rw [h9]; exact h5⟩
theorem suffix_lang (p : List At) (s : ByteArray) : suffixF p s = true ↔ ∃ i, i ≤ s.size ∧ Lang p (seg s i s.size) := by
  unfold suffixF
  rw [reach_lang]
  exact ⟨fun ⟨i, h1, _, h3⟩ => ⟨i, h1, h3⟩, fun ⟨i, h1, h3⟩ => ⟨i, h1, rfl, h3⟩⟩
theorem start_lang (p : List At) (s : ByteArray) (n : Nat) : reachF s p startF n = true ↔ Lang p (seg s 0 n) := by
  rw [reach_lang]
  constructor
  · rintro ⟨i, _, h2, h3⟩
    have : i = 0 := by unfold startF at h2; simpa using h2
    subst this
    exact h3
  · exact fun h => ⟨0, Nat.zero_le _, rfl, h⟩
theorem long_nonneg (f : Nat → Bool) : ∀ n, 0 ≤ longF f n ↔ ∃ i, i < n ∧ f i = true
  | 0 => ⟨fun h => absurd h (by unfold longF; decide), fun ⟨i, h, _⟩ => absurd h (Nat.not_lt_zero i)⟩
  | n + 1 => by
    unfold longF
    by_cases h : f n = true
    · rw [if_pos h]
      exact ⟨fun _ => ⟨n, by omega, h⟩, fun _ => by omega⟩
    · rw [if_neg h, long_nonneg f n]
      exact ⟨fun ⟨i, h1, h2⟩ => ⟨i, by omega, h2⟩, fun ⟨i, h1, h2⟩ => ⟨i, by
        refine Nat.lt_of_le_of_ne (by omega) fun e => h ?_
        rw [← e]
        exact h2, h2⟩⟩
theorem prefix_lang (p : List At) (s : ByteArray) : prefixF p s = true ↔ ∃ n, n ≤ s.size ∧ Lang p (seg s 0 n) := by
  unfold prefixF longestF
  rw [decide_eq_true_iff, long_nonneg]
  exact ⟨fun ⟨i, h1, h2⟩ => ⟨i, by omega, (start_lang p s i).1 h2⟩, fun ⟨i, h1, h2⟩ => ⟨i, by omega, (start_lang p s i).2 h2⟩⟩
/-- Strings with the same bytes there. -/
theorem seg_same {s t : ByteArray} {i n d : Nat} (h : ∀ k, i ≤ k → k < n → bt s k = bt t (k + d)) (hin : i ≤ n) : seg s i n = seg t (i + d) (n + d) := by
  induction n with
  | zero =>
    obtain rfl : i = 0 := by omega
    rw [Nat.zero_add, seg_self, seg_self]
  | succ n ih =>
    by_cases hi : i = n + 1
    · subst hi
      rw [seg_self, seg_self]
    · rw [seg_snoc s i n (by omega), show n + 1 + d = (n + d) + 1 by omega, seg_snoc t (i + d) (n + d) (by omega), ih (fun k h1 h2 => h k h1 (by omega)) (by omega), h n (by omega) (by omega)]
theorem bt_extract (s : ByteArray) (a b k : Nat) (hk : a + k < b) (hb : b ≤ s.size) : bt (s.extract a b) k = bt s (a + k) := by
  have h1 : k < (s.extract a b).size := by rw [ByteArray.size_extract]; omega
  rw [bt_get _ _ h1, bt_get s (a + k) (by omega)]
  rw [ByteArray.getElem_extract h1]
/-! ### What the statements reckon -/
theorem seg_rev {s t : ByteArray} (hst : t.size = s.size) (h : ∀ k, k < s.size → bt t k = bt s (s.size - 1 - k)) : ∀ i n, i ≤ n → n ≤ s.size → seg t (s.size - n) (s.size - i) = (seg s i n).reverse := by
  intro i n hin hn
  refine List.ext_getElem? fun k => ?_
  by_cases hk : k < n - i
  · unfold seg
    rw [List.getElem?_reverse (by simp; omega)]
    simp only [List.getElem?_map, List.getElem?_drop, List.length_map, List.length_drop, List.length_range]
    rw [List.getElem?_range (by omega), List.getElem?_range (by omega)]
    simp only [Option.map_some]
    rw [h _ (by omega)]
    congr 2
    omega
  · rw [List.getElem?_eq_none (by rw [seg_len]; omega), List.getElem?_eq_none (by rw [List.length_reverse, seg_len]; omega)]
end Go.Proofs.YtfkojnofbpdjdaaGreatDoor

namespace Go.Proofs.YtfkojnofbpdjdaaGreatDoor
set_option maxRecDepth 100000
open Go.Lib

/-- The first place of a byte. -/
theorem index_one_miss (c : UInt8) : ∀ l : List UInt8, (∀ b ∈ l, b ≠ c) → index l [c] = -1
  | [], _ => rfl
  | b :: l, h => by
    have hb : b ≠ c := h b (by simp)
    have ih := index_one_miss c l (fun x hx => h x (by simp [hx]))
    unfold index
    simp [List.isPrefixOf, hb.symm, ih]
theorem index_one_hit (c : UInt8) : ∀ p l : List UInt8, (∀ b ∈ p, b ≠ c) → index (p ++ c :: l) [c] = p.length
  | [], l, _ => by
    unfold index
    simp [List.isPrefixOf]
  | b :: p, l, h => by
    have hb : b ≠ c := h b (by simp)
    have ih := index_one_hit c p l (fun x hx => h x (by simp [hx]))
    rw [List.cons_append]
    unfold index
    simp [List.isPrefixOf, hb.symm, ih]
theorem parted (c : UInt8) : ∀ l : List UInt8, (∀ b ∈ l, b ≠ c) ∨ ∃ p r, l = p ++ c :: r ∧ ∀ b ∈ p, b ≠ c
  | [] => .inl (by simp)
  | b :: l => by
    by_cases hb : b = c
    · exact .inr ⟨[], l, by rw [hb]; rfl, by simp⟩
    · rcases parted c l with h | ⟨p, r, rfl, h⟩
      · refine .inl fun x hx => ?_
        rcases List.mem_cons.1 hx with rfl | hx
        · exact hb
        · exact h x hx
      · refine .inr ⟨b :: p, r, rfl, fun x hx => ?_⟩
        rcases List.mem_cons.1 hx with rfl | hx
        · exact hb
        · exact h x hx
end Go.Proofs.YtfkojnofbpdjdaaGreatDoor

namespace Go.Proofs.YtfkojnofbpdjdaaGreatDoor
set_option maxRecDepth 100000
open Go.RowKit

/-- A rule. -/
structure Ru where
  br : Bool
  bf : List At
  af : List At
/-- A table. -/
structure Tb where
  nm : ByteArray
  pa : ByteArray
  rs : List Ru

def ofL (l : List UInt8) : ByteArray := ⟨l.toArray⟩
theorem ofL_list (l : List UInt8) : (ofL l).data.toList = l := by simp [ofL]
theorem ofL_of (s : ByteArray) : ofL s.data.toList = s := by cases s; simp [ofL]

/-- The tables with a rule more in the last one. -/
def addLast : List Tb → Ru → List Tb
  | [], _ => []
  | [t], r => [⟨t.nm, t.pa, t.rs ++ [r]⟩]
  | t :: u :: ts, r => t :: addLast (u :: ts) r
/-- Whether there is a break. -/
def decideF : List Ru → ByteArray → Nat → Bool
  | [], _, _ => false
  | r :: rs, s, k => if (suffixF r.bf (s.extract 0 k) && prefixF r.af (s.extract k s.size)) = true then r.br else decideF rs s k
def breaksF (rs : List Ru) (s : ByteArray) : List Int := if 1024 < s.size then [] else ((List.range s.size).filter fun k => decide (0 < k) && decideF rs s k).map fun (k : Nat) => (k : Int)

end Go.Proofs.YtfkojnofbpdjdaaGreatDoor

namespace Go.Proofs.YtfkojnofbpdjdaaGreatDoor
set_option maxRecDepth 100000
open Go.RowKit

theorem extract_size (s : ByteArray) (a b : Nat) (hab : a ≤ b) (hb : b ≤ s.size) : (s.extract a b).size = b - a := by
  rw [ByteArray.size_extract]
  omega
theorem ends_suf (p : List At) (s : ByteArray) (i : Nat) (h : i ≤ s.size) : reachF s p allF i = suffixF p (s.extract 0 i) := by
  have hz := extract_size s 0 i (Nat.zero_le _) h
  rw [Nat.sub_zero] at hz
  rw [Bool.eq_iff_iff, reach_lang, suffix_lang, hz]
  have e : ∀ j, j ≤ i → seg (s.extract 0 i) j i = seg s j i := fun j hj => by
    have := seg_same (s := s.extract 0 i) (t := s) (i := j) (n := i) (d := 0) (fun k h1 h2 => by rw [bt_extract s 0 i k (by omega) h, Nat.zero_add, Nat.add_zero]) hj
    simpa using this
  constructor
  · rintro ⟨j, hj, _, hl⟩
    exact ⟨j, hj, by rw [e j hj]; exact hl⟩
  · rintro ⟨j, hj, hl⟩
    exact ⟨j, hj, rfl, by rw [← e j hj]; exact hl⟩
theorem ends_pre (p : List At) {s t : ByteArray} (hst : t.size = s.size) (h : ∀ k, k < s.size → bt t k = bt s (s.size - 1 - k)) (k : Nat) (hk : k ≤ s.size) : reachF t p.reverse allF (s.size - k) = prefixF p (s.extract k s.size) := by
  have hz := extract_size s k s.size hk (Nat.le_refl _)
  rw [Bool.eq_iff_iff, reach_lang, prefix_lang, hz]
  have e : ∀ n, n ≤ s.size - k → seg (s.extract k s.size) 0 n = seg s k (k + n) := fun n hn => by
    have := seg_same (s := s.extract k s.size) (t := s) (i := 0) (n := n) (d := k) (fun j _ h2 => by rw [bt_extract s k s.size j (by omega) (Nat.le_refl _), Nat.add_comm]) (Nat.zero_le _)
    rw [this, Nat.zero_add, Nat.add_comm n k]
  constructor
  · rintro ⟨j, hj, _, hl⟩
    refine ⟨s.size - k - j, by omega, ?_⟩
    rw [e _ (by omega), show k + (s.size - k - j) = s.size - j by omega, ← lang_rev, ← seg_rev hst h k (s.size - j) (by omega) (by omega), show s.size - (s.size - j) = j by omega]
    exact hl
  · rintro ⟨n, hn, hl⟩
    refine ⟨s.size - k - n, by omega, rfl, ?_⟩
    have := seg_rev hst h k (k + n) (by omega) (by omega)
    rw [show s.size - (k + n) = s.size - k - n by omega] at this
    rw [this, lang_rev, ← e n hn]
    exact hl
def applyF (r : Ru) (s : ByteArray) (k : Nat) : Bool := suffixF r.bf (s.extract 0 k) && prefixF r.af (s.extract k s.size)
def foundF (rs : List Ru) (s : ByteArray) (k : Nat) : Bool := rs.any fun r => applyF r s k
theorem decide_cons (r : Ru) (rs : List Ru) (s : ByteArray) (k : Nat) : decideF (r :: rs) s k = if applyF r s k = true then r.br else decideF rs s k := rfl
theorem decide_none : ∀ (rs : List Ru) (s : ByteArray) (k : Nat), foundF rs s k = false → decideF rs s k = false
  | [], _, _, _ => rfl
  | r :: rs, s, k, h => by
    unfold foundF at h
    rw [List.any_cons, Bool.or_eq_false_iff] at h
    rw [decide_cons, if_neg (by rw [h.1]; exact Bool.false_ne_true)]
    exact decide_none rs s k h.2
theorem decide_append : ∀ (rs qs : List Ru) (s : ByteArray) (k : Nat), decideF (rs ++ qs) s k = if foundF rs s k = true then decideF rs s k else decideF qs s k
  | [], qs, s, k => rfl
  | r :: rs, qs, s, k => by
    rw [List.cons_append, decide_cons, decide_cons]
    have e : foundF (r :: rs) s k = (applyF r s k || foundF rs s k) := rfl
    by_cases h : applyF r s k = true
    · rw [if_pos h, if_pos h, if_pos (by rw [e, h]; rfl)]
    · rw [if_neg h, if_neg h, decide_append rs qs s k, e, Bool.not_eq_true] at *
      rw [h, Bool.false_or]
theorem decide_snoc (rs : List Ru) (r : Ru) (s : ByteArray) (k : Nat) : decideF (rs ++ [r]) s k = if foundF rs s k = true then decideF rs s k else (applyF r s k && r.br) := by
  rw [decide_append]
  congr 1
  rw [decide_cons]
  cases applyF r s k <;> rfl
theorem found_snoc (rs : List Ru) (r : Ru) (s : ByteArray) (k : Nat) : foundF (rs ++ [r]) s k = (foundF rs s k || applyF r s k) := by
  unfold foundF
  rw [List.any_append]
  simp

/-- The places below k with a break. -/
def uptoN (f : Nat → Bool) (k : Nat) : List Int := ((List.range k).filter f).map fun (n : Nat) => (n : Int)
theorem uptoN_succ (f : Nat → Bool) (k : Nat) : uptoN f (k + 1) = uptoN f k ++ if f k = true then [(k : Int)] else [] := by
  unfold uptoN
  rw [List.range_succ, List.filter_append, List.map_append]
  congr 1
  by_cases h : f k = true
  · rw [if_pos h, List.filter_cons_of_pos h]; rfl
  · rw [if_neg h, List.filter_cons_of_neg h]; rfl
theorem uptoN_congr {f g : Nat → Bool} : ∀ {k : Nat}, (∀ i, i < k → f i = g i) → uptoN f k = uptoN g k
  | 0, _ => rfl
  | k + 1, h => by rw [uptoN_succ, uptoN_succ, uptoN_congr (fun i hi => h i (by omega)), h k (by omega)]
def inB (rs : List Ru) (s : ByteArray) (k : Nat) : Bool := decide (0 < k) && decideF rs s k
theorem breaks_upto (rs : List Ru) (s : ByteArray) (h : s.size ≤ 1024) : breaksF rs s = uptoN (inB rs s) s.size := by
  unfold breaksF
  rw [if_neg (by omega)]
  rfl
/-- The row of Bools that the program makes. -/
def rowB (rs : List Ru) (s : ByteArray) (k : Nat) : Bool := decide (0 < k ∧ k < s.size) && decideF rs s k
theorem breaks_row (rs : List Ru) (s : ByteArray) (h : s.size ≤ 1024) : uptoN (rowB rs s) (s.size + 1) = breaksF rs s := by
  rw [uptoN_succ, if_neg (by unfold rowB; simp), List.append_nil, breaks_upto rs s h]
  refine uptoN_congr fun i hi => ?_
  unfold rowB inB
  congr 1
  rw [decide_eq_decide]
  omega

end Go.Proofs.YtfkojnofbpdjdaaGreatDoor

namespace Go.Proofs.YtfkojnofbpdjdaaGreatDoor
set_option maxRecDepth 100000

theorem cut_app {α : Type} (l1 l2 : List α) (a p q : Nat) : ((l1 ++ l2).take (q - a)).drop (p - a) = (l1.take (q - a)).drop (p - a) ++ (l2.take (q - (a + l1.length))).drop (p - (a + l1.length)) := by
  rw [List.take_append, List.drop_append, List.length_take]
  congr 1
  rw [show q - a - l1.length = q - (a + l1.length) by omega]
  by_cases h : q - a < l1.length
  · rw [show q - (a + l1.length) = 0 by omega]
    simp
  · rw [show p - a - min (q - a) l1.length = p - (a + l1.length) by omega]
theorem posI_pc (x : Tk) (a p q : Nat) : posI (pcI x a p q) = ((psI x).take (q - a)).drop (p - a) := by
  unfold pcI
  by_cases hx : x.k = 1
  · rw [if_neg (by omega)]
    have e : psI x = List.replicate x.t.size (true, false) := by unfold psI; rw [if_pos hx]
    rw [e, List.take_replicate, List.drop_replicate]
    by_cases h : max p a - a < min q (a + x.t.size) - a
    · rw [if_pos h, posI_one]
      unfold psI
      rw [if_pos rfl]
      show List.replicate (x.t.extract _ _).size _ = _
      rw [extract_size x.t _ _ (by omega) (by omega)]
      congr 1
      omega
    · rw [if_neg h, show min (q - a) x.t.size - (p - a) = 0 by omega]
      rfl
  · rw [if_pos hx]
    obtain ⟨c, hc⟩ : ∃ c, psI x = [c] := by
      unfold psI
      rw [if_neg hx]
      split
      · exact ⟨_, rfl⟩
      · split <;> exact ⟨_, rfl⟩
    by_cases h : p ≤ a ∧ a < q
    · rw [if_pos h, posI_one, hc, show q - a = (q - a - 1) + 1 by omega, show p - a = 0 by omega]
      simp
    · rw [if_neg h, hc]
      by_cases h2 : a < q
      · rw [show p - a = (p - a - 1) + 1 by omega, show q - a = (q - a - 1) + 1 by omega]
        simp [posI]
      · rw [show q - a = 0 by omega]
        simp [posI]
theorem posI_sl (p q : Nat) : ∀ (f : List Tk) (a : Nat), posI (slI f a p q) = ((posI f).take (q - a)).drop (p - a)
  | [], a => by simp [slI, posI]
  | x :: f, a => by
    rw [slI, posI_app, posI_pc, posI_sl p q f, show x :: f = [x] ++ f from rfl, posI_app [x] f, posI_one, cut_app, psI_len]
theorem pcI_wd (x : Tk) (a p q : Nat) : ∀ y ∈ pcI x a p q, 1 ≤ wdI y := by
  unfold pcI
  intro y hy
  by_cases hx : x.k = 1
  · rw [if_neg (by omega)] at hy
    split at hy
    · rename_i h
      rw [List.mem_singleton.1 hy]
      unfold wdI
      rw [if_pos rfl]
      show 1 ≤ (x.t.extract _ _).size
      rw [extract_size x.t _ _ (by omega) (by omega)]
      omega
    · simp at hy
  · rw [if_pos hx] at hy
    split at hy
    · rw [List.mem_singleton.1 hy]
      unfold wdI
      rw [if_neg hx]
      exact Nat.le_refl _
    · simp at hy
theorem slI_wd (p q : Nat) : ∀ (f : List Tk) (a : Nat), ∀ y ∈ slI f a p q, 1 ≤ wdI y
  | [], _, y, hy => by simp [slI] at hy
  | x :: f, a, y, hy => by
    rw [slI] at hy
    rcases List.mem_append.1 hy with h | h
    · exact pcI_wd x a p q y h
    · exact slI_wd p q f _ y h
theorem len_wd : ∀ (l : List Tk), (∀ y ∈ l, 1 ≤ wdI y) → l.length ≤ lenI l
  | [], _ => Nat.le_refl _
  | x :: l, h => by
    rw [List.length_cons, lenI]
    have h1 := h x (by simp)
    have h2 := len_wd l (fun y hy => h y (by simp [hy]))
    omega
end Go.Proofs.YtfkojnofbpdjdaaGreatDoor

namespace Go.Proofs.YtfkojnofbpdjdaaGreatDoor
set_option maxRecDepth 100000

theorem cntP_cons (x : Bool × Bool) (ps : List (Bool × Bool)) : cntP (x :: ps) = (if x.1 = true then 1 else 0) + cntP ps := by
  unfold cntP
  rw [List.filter_cons]
  split
  · rw [List.length_cons]; omega
  · omega
end Go.Proofs.YtfkojnofbpdjdaaGreatDoor

namespace Go.Proofs.YtfkojnofbpdjdaaGreatDoor
set_option maxRecDepth 100000

theorem placeP_text (m o : Nat) (ps : List (Bool × Bool)) (h : m ≤ o) : placeP (List.replicate m (true, false) ++ ps) o = m + placeP ps (o - m) := by
  induction m generalizing o with
  | zero => simp
  | succ m ih =>
    obtain ⟨o', rfl⟩ : ∃ o', o = o' + 1 := ⟨o - 1, by omega⟩
    rw [List.replicate_succ, List.cons_append, placeP, if_pos rfl, ih o' (by omega), Nat.add_sub_add_right]
    omega
theorem placeP_in (m o : Nat) (ps : List (Bool × Bool)) (h : o < m) (h0 : 0 < o) : placeP (List.replicate m (true, false) ++ ps) o = o := by
  obtain ⟨d, rfl⟩ : ∃ d, m = o + (d + 1) := ⟨m - o - 1, by omega⟩
  rw [← List.replicate_append_replicate, List.append_assoc, placeP_text o o _ (Nat.le_refl _), Nat.sub_self, List.replicate_succ, List.cons_append, placeP, clP]
  simp
theorem psI_one (x : Tk) (h : x.k ≠ 1) : psI x = [(decide (x.k = 5), decide (x.k = 3))] := by
  unfold psI
  rw [if_neg h]
  by_cases h5 : x.k = 5
  · rw [if_pos h5, h5]; rfl
  · rw [if_neg h5]
    by_cases h3 : x.k = 3
    · rw [if_pos h3, h3]; rfl
    · rw [if_neg h3, decide_eq_false h5, decide_eq_false h3]
theorem placeP_slot (x : Tk) (h : x.k = 5) (o : Nat) (ps : List (Bool × Bool)) : placeP (psI x ++ ps) (o + 1) = placeP ps o + 1 := by
  rw [psI_one x (by omega), List.singleton_append, placeP, h]
  rfl
theorem placeP_tag (x : Tk) (h1 : x.k ≠ 1) (h5 : x.k ≠ 5) (o : Nat) (ps : List (Bool × Bool)) : placeP (psI x ++ ps) (o + 1) = placeP ps (o + 1) + 1 := by
  rw [psI_one x h1, List.singleton_append, placeP, decide_eq_false h5]
  rfl
theorem clP_close (x : Tk) (h : x.k = 3) (ps : List (Bool × Bool)) : clP (psI x ++ ps) = clP ps + 1 := by
  rw [psI_one x (by omega), List.singleton_append, clP, h]
  rfl
theorem clP_other (x : Tk) (h3 : x.k ≠ 3) (hw : 1 ≤ wdI x) (ps : List (Bool × Bool)) : clP (psI x ++ ps) = 0 := by
  by_cases h1 : x.k = 1
  · unfold wdI at hw
    rw [if_pos h1] at hw
    unfold psI
    rw [if_pos h1]
    obtain ⟨d, hd⟩ : ∃ d, x.t.size = d + 1 := ⟨x.t.size - 1, by omega⟩
    rw [hd, List.replicate_succ, List.cons_append, clP]
    simp
  · rw [psI_one x h1, List.singleton_append, clP, decide_eq_false h3]
    simp
theorem posI_drop (f : List Tk) (k : Nat) (h : k < f.length) : posI (f.drop k) = psI f[k] ++ posI (f.drop (k + 1)) := by
  rw [List.drop_eq_getElem_cons h, show f[k] :: f.drop (k + 1) = [f[k]] ++ f.drop (k + 1) from rfl, posI_app, posI_one]
theorem normal_wd : ∀ (g : List Tk), Normal g → ∀ x ∈ g, 1 ≤ wdI x
  | [], _, x, hx => by simp at hx
  | y :: r, h, x, hx => by
    rcases List.mem_cons.1 hx with rfl | hx
    · unfold wdI
      split
      · rename_i h1
        have := (h.1 h1).1
        omega
      · exact Nat.le_refl _
    · exact normal_wd r h.2 x hx

end Go.Proofs.YtfkojnofbpdjdaaGreatDoor

namespace Go.Proofs.YtfkojnofbpdjdaaGreatDoor
set_option maxRecDepth 100000

def spcB (c : UInt8) : Bool := decide (clsN (c.toNat : Int) = 2)
/-- The positions of an item: is it a plain byte that is no space, is it a space. -/
def sqI (x : Tk) : List (Bool × Bool) := if x.k = 1 then x.t.data.toList.map (fun c => (!spcB c, spcB c)) else if x.k = 5 then [(true, false)] else [(false, false)]
def sqF (f : List Tk) : List (Bool × Bool) := f.flatMap sqI
/-- From x on: behind the spaces; and before y: ahead of the spaces. -/
def frI (R : List (Bool × Bool)) (x : Nat) : Nat := x + ((R.drop x).takeWhile (·.2)).length
def bkI (R : List (Bool × Bool)) (y : Nat) : Nat := y - ((R.take y).reverse.takeWhile (·.2)).length
def sgF (R : List (Bool × Bool)) (p q : Nat) : List (Nat × Nat) := if ((R.take q).drop p).any (·.1) = true then [(frI R p, bkI R q)] else []
def rngF (R : List (Bool × Bool)) : Nat → List Nat → List (Nat × Nat)
  | _, [] => []
  | p, q :: cs => sgF R p q ++ rngF R q cs

theorem sqF_app (f g : List Tk) : sqF (f ++ g) = sqF f ++ sqF g := by simp [sqF]
theorem sqF_one (x : Tk) : sqF [x] = sqI x := by simp [sqF]
theorem sqI_len (x : Tk) : (sqI x).length = wdI x := by
  unfold sqI wdI
  split
  · rw [List.length_map]
    simp
  · split <;> rfl
theorem sqF_len : ∀ f : List Tk, (sqF f).length = lenI f
  | [] => rfl
  | x :: f => by
    rw [show x :: f = [x] ++ f from rfl, sqF_app, sqF_one, List.length_append, sqI_len, sqF_len f, lenI_app]
    simp [lenI]
theorem sqI_pc (x : Tk) (a p q : Nat) : sqF (pcI x a p q) = ((sqI x).take (q - a)).drop (p - a) := by
  unfold pcI
  by_cases hx : x.k = 1
  · rw [if_neg (by omega)]
    have e : sqI x = x.t.data.toList.map (fun c => (!spcB c, spcB c)) := by unfold sqI; rw [if_pos hx]
    have hl : x.t.data.toList.length = x.t.size := by simp
    rw [e]
    by_cases h : max p a - a < min q (a + x.t.size) - a
    · rw [if_pos h, sqF_one]
      unfold sqI
      rw [if_pos rfl]
      show (x.t.extract (max p a - a) (min q (a + x.t.size) - a)).data.toList.map _ = _
      rw [ByteArray.data_extract, Array.toList_extract, ← List.map_take, ← List.map_drop]
      congr 1
      rw [List.extract_eq_take_drop, List.drop_take]
      rw [show p - a = max p a - a by omega]
      by_cases h2 : q ≤ a + x.t.size
      · rw [show min q (a + x.t.size) - a = q - a by omega]
      · rw [show min q (a + x.t.size) - a = x.t.size by omega]
        rw [List.take_of_length_le (by rw [List.length_drop, hl]; omega), List.take_of_length_le (by rw [List.length_drop, hl]; omega)]
    · rw [if_neg h]
      rw [List.drop_eq_nil_of_le (by rw [List.length_take, List.length_map, hl]; omega)]
      rfl
  · rw [if_pos hx]
    obtain ⟨c, hc⟩ : ∃ c, sqI x = [c] := by
      unfold sqI
      rw [if_neg hx]
      split <;> exact ⟨_, rfl⟩
    by_cases h : p ≤ a ∧ a < q
    · rw [if_pos h, sqF_one, hc, show q - a = (q - a - 1) + 1 by omega, show p - a = 0 by omega]
      simp
    · rw [if_neg h, hc]
      by_cases h2 : a < q
      · rw [show p - a = (p - a - 1) + 1 by omega, show q - a = (q - a - 1) + 1 by omega]
        simp [sqF]
      · rw [show q - a = 0 by omega]
        simp [sqF]
theorem sqF_sl (p q : Nat) : ∀ (f : List Tk) (a : Nat), sqF (slI f a p q) = ((sqF f).take (q - a)).drop (p - a)
  | [], a => by simp [slI, sqF]
  | x :: f, a => by
    rw [slI, sqF_app, sqI_pc, sqF_sl p q f, show x :: f = [x] ++ f from rfl, sqF_app [x] f, sqF_one, cut_app, sqI_len]
theorem byI_any (x : Tk) : (byI x).any (fun c => !spcB c) = (sqI x).any (·.1) := by
  unfold byI sqI
  split
  · rw [List.any_map]
    rfl
  · split
    · rfl
    · rfl
theorem plI_any : ∀ f : List Tk, (plI f).any (fun c => !spcB c) = (sqF f).any (·.1)
  | [] => rfl
  | x :: f => by
    rw [show x :: f = [x] ++ f from rfl, plI_app, sqF_app, List.any_append, List.any_append, plI_any f, sqF_one, ← byI_any]
    congr 2
    simp [plI]
/-- A trimmed text is not empty exactly if it has a byte that is no space. -/
theorem trim_any_iff {l : List UInt8} {x y : Nat} (h : IsTrim l x y) : x < y ↔ l.any (fun c => !spcB c) = true := by
  constructor
  · intro hxy
    rcases h with ⟨rfl, rfl, _⟩ | ⟨h1, h2, h3, _⟩
    · omega
    · have hx : x < l.length := by omega
      have h9 := h3 _ (List.getElem?_eq_getElem hx)
      rw [List.any_eq_true]
      refine ⟨l[x], List.getElem_mem hx, ?_⟩
      unfold spcB
      simp [h9]
  · intro ha
    rw [List.any_eq_true] at ha
    obtain ⟨c, hc, h9⟩ := ha
    unfold spcB at h9
    rcases h with ⟨rfl, rfl, h3⟩ | ⟨h1, _⟩
    · exfalso
      obtain ⟨j, hj⟩ := List.mem_iff_getElem?.1 hc
      have := h3 j c hj
      simp [this] at h9
    · exact h1
theorem sqI_ex (x : Tk) : ∀ c ∈ sqI x, c.1 = true → c.2 = false := by
  unfold sqI
  intro c hc h
  split at hc
  · obtain ⟨b, _, rfl⟩ := List.mem_map.1 hc
    simpa using h
  · split at hc
    · rw [List.mem_singleton.1 hc]
    · rw [List.mem_singleton.1 hc]
theorem sqF_ex (f : List Tk) : ∀ c ∈ sqF f, c.1 = true → c.2 = false := by
  intro c hc
  obtain ⟨x, _, hx⟩ := List.mem_flatMap.1 hc
  exact sqI_ex x c hx

/-! ### The ends of a segment -/
theorem frI_step (R : List (Bool × Bool)) (x : Nat) (h : x < R.length) (hs : R[x].2 = true) : frI R x = frI R (x + 1) := by
  unfold frI
  rw [List.drop_eq_getElem_cons h, List.takeWhile_cons, if_pos hs, List.length_cons]
  omega
theorem frI_stop (R : List (Bool × Bool)) (x : Nat) (h : x < R.length) (hs : R[x].2 = false) : frI R x = x := by
  unfold frI
  rw [List.drop_eq_getElem_cons h, List.takeWhile_cons, if_neg (by simp [hs])]
  rfl
theorem bkI_step (R : List (Bool × Bool)) (y : Nat) (h : y < R.length) (hs : R[y].2 = true) : bkI R (y + 1) = bkI R y := by
  unfold bkI
  rw [List.take_succ_eq_append_getElem h, List.reverse_append, List.reverse_singleton, List.singleton_append, List.takeWhile_cons, if_pos hs, List.length_cons]
  omega
theorem bkI_stop (R : List (Bool × Bool)) (y : Nat) (h : y < R.length) (hs : R[y].2 = false) : bkI R (y + 1) = y + 1 := by
  unfold bkI
  rw [List.take_succ_eq_append_getElem h, List.reverse_append, List.reverse_singleton, List.singleton_append, List.takeWhile_cons, if_neg (by simp [hs])]
  rfl
theorem frI_ge (R : List (Bool × Bool)) (x : Nat) : x ≤ frI R x := by unfold frI; omega
theorem bkI_le (R : List (Bool × Bool)) (y : Nat) : bkI R y ≤ y := by unfold bkI; omega
/-- Up to a position that is no space. -/
theorem frI_le (R : List (Bool × Bool)) (x j : Nat) (hx : x ≤ j) (hj : j < R.length) (hs : R[j].2 = false) : frI R x ≤ j := by
  obtain ⟨d, rfl⟩ : ∃ d, j = x + d := ⟨j - x, by omega⟩
  induction d generalizing x with
  | zero => rw [Nat.add_zero] at *; rw [frI_stop R x hj (by simpa using hs)]; exact Nat.le_refl _
  | succ d ih =>
    have hxl : x < R.length := by omega
    by_cases h2 : R[x].2 = true
    · rw [frI_step R x hxl h2]
      have e : x + 1 + d = x + (d + 1) := by omega
      have := ih (x + 1) (by omega) (by omega) (by simp only [e]; exact hs)
      omega
    · rw [frI_stop R x hxl (by simpa using h2)]
      omega
theorem bkI_gt (R : List (Bool × Bool)) (y j : Nat) (hy : j < y) (hyl : y ≤ R.length) (hs : (R[j]'(by omega)).2 = false) : j < bkI R y := by
  obtain ⟨d, rfl⟩ : ∃ d, y = j + 1 + d := ⟨y - j - 1, by omega⟩
  induction d with
  | zero => rw [Nat.add_zero, bkI_stop R j (by omega) hs]; omega
  | succ d ih =>
    have hxl : j + 1 + d < R.length := by omega
    by_cases h2 : R[j + 1 + d].2 = true
    · rw [show j + 1 + (d + 1) = j + 1 + d + 1 by omega, bkI_step R _ hxl h2]
      exact ih (by omega) (by omega) hs
    · rw [show j + 1 + (d + 1) = j + 1 + d + 1 by omega, bkI_stop R _ hxl (by simpa using h2)]
      omega
theorem frI_none (R : List (Bool × Bool)) (x j : Nat) (h1 : x ≤ j) (h2 : j < frI R x) : ∃ h : j < R.length, R[j].2 = true := by
  by_cases hj : j < R.length
  · refine ⟨hj, ?_⟩
    cases h : R[j].2 with
    | true => rfl
    | false => have := frI_le R x j h1 hj h; omega
  · exfalso
    unfold frI at h2
    have := (List.takeWhile_sublist (fun c : Bool × Bool => c.2) (l := R.drop x)).length_le
    rw [List.length_drop] at this
    omega
theorem bkI_none (R : List (Bool × Bool)) (y j : Nat) (hyl : y ≤ R.length) (h1 : bkI R y ≤ j) (h2 : j < y) : (R[j]'(by omega)).2 = true := by
  cases h : (R[j]'(by omega)).2 with
  | true => rfl
  | false => have := bkI_gt R y j h2 hyl h; omega
/-- Where a cut has a byte that is no space. -/
theorem any_pos (R : List (Bool × Bool)) (p q : Nat) (hR : ∀ c ∈ R, c.1 = true → c.2 = false) (ha : ((R.take q).drop p).any (·.1) = true) : ∃ j, ∃ h : j < R.length, p ≤ j ∧ j < q ∧ R[j].1 = true ∧ R[j].2 = false := by
  rw [List.any_eq_true] at ha
  obtain ⟨c, hc, h1⟩ := ha
  obtain ⟨i, hi⟩ := List.mem_iff_getElem?.1 hc
  rw [List.getElem?_drop, List.getElem?_take] at hi
  split at hi
  · obtain ⟨hl, hx⟩ := List.getElem?_eq_some_iff.1 hi
    refine ⟨p + i, hl, by omega, by assumption, by rw [hx]; exact h1, ?_⟩
    exact hR _ (List.getElem_mem hl) (by rw [hx]; exact h1)
  · cases hi
theorem frI_at (R : List (Bool × Bool)) (x j : Nat) (hx : x ≤ j) (hj : j < R.length) (hs : R[j].2 = false) : ∃ k, frI R x = k ∧ ∃ h : k < R.length, R[k].2 = false := by
  obtain ⟨d, rfl⟩ : ∃ d, j = x + d := ⟨j - x, by omega⟩
  induction d generalizing x with
  | zero => exact ⟨x, frI_stop R x (by omega) (by simpa using hs), by omega, by simpa using hs⟩
  | succ d ih =>
    have hxl : x < R.length := by omega
    by_cases h2 : R[x].2 = true
    · rw [frI_step R x hxl h2]
      have e : x + 1 + d = x + (d + 1) := by omega
      exact ih (x + 1) (by omega) (by omega) (by simp only [e]; exact hs)
    · exact ⟨x, frI_stop R x hxl (by simpa using h2), hxl, by simpa using h2⟩
theorem bkI_at (R : List (Bool × Bool)) (y j : Nat) (hy : j < y) (hyl : y ≤ R.length) (hs : (R[j]'(by omega)).2 = false) : ∃ k, bkI R y = k + 1 ∧ ∃ h : k < R.length, R[k].2 = false := by
  obtain ⟨d, rfl⟩ : ∃ d, y = j + 1 + d := ⟨y - j - 1, by omega⟩
  induction d with
  | zero => exact ⟨j, by rw [Nat.add_zero]; exact bkI_stop R j (by omega) hs, by omega, hs⟩
  | succ d ih =>
    have hxl : j + 1 + d < R.length := by omega
    by_cases h2 : R[j + 1 + d].2 = true
    · rw [show j + 1 + (d + 1) = j + 1 + d + 1 by omega, bkI_step R _ hxl h2]
      exact ih (by omega) (by omega) hs
    · exact ⟨j + 1 + d, by rw [show j + 1 + (d + 1) = j + 1 + d + 1 by omega]; exact bkI_stop R _ hxl (by simpa using h2), hxl, by simpa using h2⟩

/-! ### The cuts -/
def AscF : Nat → List Nat → Nat → Prop
  | p, [], n => p = n
  | p, c :: cs, n => p ≤ c ∧ AscF c cs n
theorem AscF.le : ∀ {cs : List Nat} {p n : Nat}, AscF p cs n → p ≤ n
  | [], _, _, h => Nat.le_of_eq h
  | c :: cs, p, n, h => Nat.le_trans h.1 (AscF.le h.2)
theorem AscF.at_ : ∀ {cs : List Nat} {p n : Nat} (k : Nat) (hk : k < cs.length), AscF p cs n → (p :: cs).getD k 0 ≤ cs[k] ∧ cs[k] ≤ n
  | c :: cs, p, n, 0, _, h => ⟨by simpa using h.1, by simpa using AscF.le h.2⟩
  | c :: cs, p, n, k + 1, hk, h => by
    have := AscF.at_ (cs := cs) (p := c) k (by simpa using hk) h.2
    simpa using this
theorem rngF_take (R : List (Bool × Bool)) : ∀ (cs : List Nat) (p k : Nat) (hk : k < cs.length), rngF R p (cs.take (k + 1)) = rngF R p (cs.take k) ++ sgF R ((p :: cs).getD k 0) cs[k]
  | c :: cs, p, 0, _ => by simp [rngF]
  | c :: cs, p, k + 1, hk => by
    have h := rngF_take R cs c k (by simpa using hk)
    rw [List.take_succ_cons, rngF, h, List.take_succ_cons, rngF, List.append_assoc]
    simp
theorem clP_le : ∀ ps : List (Bool × Bool), clP ps ≤ ps.length
  | [] => Nat.le_refl _
  | x :: ps => by
    rw [clP, List.length_cons]
    have := clP_le ps
    split <;> omega
theorem placeP_le : ∀ (ps : List (Bool × Bool)) (o : Nat), placeP ps o ≤ ps.length
  | ps, 0 => by cases ps <;> exact clP_le _
  | [], _ + 1 => Nat.le_refl _
  | x :: ps, o + 1 => by
    rw [placeP, List.length_cons]
    have := placeP_le ps (if x.1 = true then o else o + 1)
    omega
theorem placeP_zero (ps : List (Bool × Bool)) : placeP ps 0 = clP ps := by cases ps <;> rfl
theorem clP_place : ∀ (ps : List (Bool × Bool)) (o : Nat), o ≤ cntP ps → clP ps ≤ placeP ps o
  | [], o, _ => by simp [clP]
  | x :: ps, 0, _ => by rw [placeP_zero]; exact Nat.le_refl _
  | x :: ps, o + 1, h => by
    rw [cntP_cons] at h
    rw [placeP, clP]
    split
    · by_cases hx : x.1 = true
      · rw [if_pos hx] at h ⊢
        have := clP_place ps o (by omega)
        omega
      · rw [if_neg hx] at h ⊢
        have := clP_place ps (o + 1) (by omega)
        omega
    · omega
theorem placeP_mono : ∀ (ps : List (Bool × Bool)) (a b : Nat), a ≤ b → b ≤ cntP ps → placeP ps a ≤ placeP ps b
  | ps, 0, b, _, hb => by rw [placeP_zero]; exact clP_place ps b hb
  | [], a + 1, b, h, hb => by simp [cntP] at hb; omega
  | x :: ps, a + 1, 0, h, _ => by omega
  | x :: ps, a + 1, b + 1, h, hb => by
    rw [cntP_cons] at hb
    rw [placeP, placeP]
    by_cases hx : x.1 = true
    · rw [if_pos hx] at hb
      rw [if_pos hx, if_pos hx]
      have := placeP_mono ps a b (by omega) (by omega)
      omega
    · rw [if_neg hx] at hb
      rw [if_neg hx, if_neg hx]
      have := placeP_mono ps (a + 1) (b + 1) (by omega) (by omega)
      omega
/-- The cuts of a fragment at the breaks bl. -/
def cutsF (f : List Tk) (bl : List Nat) : List Nat := bl.map (placeP (posI f)) ++ [lenI f]
theorem cuts_asc (f : List Tk) : ∀ (bl : List Nat) (a : Nat), (a :: bl).Pairwise (· ≤ ·) → (∀ b ∈ a :: bl, b ≤ (plI f).length) → AscF (placeP (posI f) a) (cutsF f bl) (lenI f)
  | [], a, _, _ => ⟨by have := placeP_le (posI f) a; rw [posI_len] at this; exact this, rfl⟩
  | b :: bl, a, h, hb => by
    refine ⟨?_, ?_⟩
    · refine placeP_mono _ _ _ ?_ ?_
      · exact (List.pairwise_cons.1 h).1 b (by simp)
      · rw [cntP_pos]; exact hb b (by simp)
    · exact cuts_asc f bl b (List.pairwise_cons.1 h).2 (fun c hc => hb c (by simp [hc]))
theorem AscF.zero {cs : List Nat} {p n : Nat} (h : AscF p cs n) (hc : cs ≠ []) : AscF 0 cs n := by
  cases cs with
  | nil => exact absurd rfl hc
  | cons c cs => exact ⟨Nat.zero_le _, h.2⟩

/-! ### What the segments cover -/
end Go.Proofs.YtfkojnofbpdjdaaGreatDoor

namespace Go.Proofs.YtfkojnofbpdjdaaGreatDoor
set_option maxRecDepth 100000
open Go.RowKit

end Go.Proofs.YtfkojnofbpdjdaaGreatDoor

namespace Go.Proofs.YtfkojnofbpdjdaaGreatDoor
set_option maxRecDepth 100000
open Go.RowKit

def SlRet (w : World) (l : List Tk) (e : Ending) (w' : World) : Prop := ∃ v, e = .returned (.tuple #[v, .bool true]) ∧ OwnE 31 tkC 3 w' w.heap.size v l ∧ Below w.heap.size w w'

end Go.Proofs.YtfkojnofbpdjdaaGreatDoor

namespace Go.Proofs.YtfkojnofbpdjdaaGreatDoor
set_option maxRecDepth 100000
open Go.RowKit

set_option maxRecDepth 100000 in
theorem fill_atom (x : At) : Instr.fill (fun i => some (i * 34, 34)) ((Array.range (1 * 34)).map ((Value.agg (atC ⟨noP, 0, false⟩).toArray).cells[· % (Value.agg (atC ⟨noP, 0, false⟩).toArray).cells.size]!)) [(0, .agg (atC x).toArray)] = some (atC x).toArray := by kernel_rfl
theorem atom_info : (Tryz.prog.info? 107).map (fun i => (i.zero, i.size, i.bytes)) = some (some (.agg (atC ⟨noP, 0, false⟩).toArray), 34, 48) := by kernel_rfl
/-- The atom in block g. -/
def AtIn (w : World) (g : Nat) (x : At) : Prop := w.heap[g]? = some (.cells (atC x).toArray 107)
theorem AtIn.setMn {w : World} {g : Nat} {p : Nat → Bool} {mn : Int} {many : Bool} (h : AtIn w g ⟨p, mn, many⟩) (k : Int) : AtIn (w.setCell ⟨g, 32, none⟩ (.int .i64 k)) g ⟨p, k, many⟩ := by
  unfold AtIn at *
  rw [heap_setCell_same w g 32 _ _ _ h]
  rfl
theorem at_zero (w : World) : AtIn (w.alloc (.cells #[.int .u8 0, .int .u8 0, .int .u8 0, .int .u8 0, .int .u8 0, .int .u8 0, .int .u8 0, .int .u8 0, .int .u8 0, .int .u8 0, .int .u8 0, .int .u8 0, .int .u8 0, .int .u8 0, .int .u8 0, .int .u8 0, .int .u8 0, .int .u8 0, .int .u8 0, .int .u8 0, .int .u8 0, .int .u8 0, .int .u8 0, .int .u8 0, .int .u8 0, .int .u8 0, .int .u8 0, .int .u8 0, .int .u8 0, .int .u8 0, .int .u8 0, .int .u8 0, .int .i64 0, .bool false] 107)) w.heap.size ⟨noP, 0, false⟩ := by
  have e : (#[.int .u8 0, .int .u8 0, .int .u8 0, .int .u8 0, .int .u8 0, .int .u8 0, .int .u8 0, .int .u8 0, .int .u8 0, .int .u8 0, .int .u8 0, .int .u8 0, .int .u8 0, .int .u8 0, .int .u8 0, .int .u8 0, .int .u8 0, .int .u8 0, .int .u8 0, .int .u8 0, .int .u8 0, .int .u8 0, .int .u8 0, .int .u8 0, .int .u8 0, .int .u8 0, .int .u8 0, .int .u8 0, .int .u8 0, .int .u8 0, .int .u8 0, .int .u8 0, .int .i64 0, .bool false] : Array Value) = (atC ⟨noP, 0, false⟩).toArray := by kernel_rfl
  rw [e]
  exact heap_alloc_new w _
theorem AtIn.row {w : World} {g : Nat} {x : At} (h : AtIn w g x) (y : At) : AtIn (w.setRow g (atC y).toArray) g y := setRow_heap w g _ _ _ _ h
theorem atom_size : (Tryz.prog.info? 107).map (·.size) = some 34 := by kernel_rfl
theorem atC_size (x : At) : (atC x).toArray.size = 34 := by rw [List.size_toArray, atC_len]
theorem atC_oneA (x : At) : (atC x).toArray.all (·.oneCell') = true := by
  rw [Array.all_eq_true_iff_forall_mem]
  intro v hv
  have h := List.mem_toArray.1 hv
  unfold atC at h
  rcases List.mem_append.1 h with h | h
  · have := (Array.all_eq_true_iff_forall_mem.1 (setC_one x.p)) v (List.mem_toArray.2 h)
    exact this
  · simp at h
    rcases h with rfl | rfl <;> rfl
theorem AtIn.mn {w : World} {g : Nat} {x : At} (h : AtIn w g x) : w.cell? ⟨g, 32, none⟩ = some (.int .i64 x.mn) := by
  rw [cell_of_row _ _ _ _ _ _ h]
  simpa using atC_mn x
theorem AtIn.many {w : World} {g : Nat} {x : At} (h : AtIn w g x) : w.cell? ⟨g, 33, none⟩ = some (.bool x.many) := by
  rw [cell_of_row _ _ _ _ _ _ h]
  simpa using atC_many x
theorem AtIn.free {w : World} {g : Nat} {x : At} (h : AtIn w g x) (k : Nat) : w.frozen? ⟨g, k, none⟩ = false := frozen_of_row w g k _ _ h
theorem AtIn.keep {w w' : World} {g : Nat} {x : At} (h : AtIn w g x) (e : w'.heap[g]? = w.heap[g]?) : AtIn w' g x := e.trans h
theorem atC_one (x : At) : ∀ u ∈ atC x, u.oneCell' = true := fun u hu => (Array.all_eq_true_iff_forall_mem.1 (atC_oneA x)) u (List.mem_toArray.2 hu)
theorem own_setAt {w : World} {B : Nat} {e : TypeId} {size n : Nat} {v : Value} {xs : List Value} {g : Nat} (h : w.ownsRow B e size v n xs) (hk : ∀ k, v.ownBlock = some k → k ≠ g) (j : Nat) (u : Value) : (w.setCell ⟨g, j, none⟩ u).ownsRow B e size v n xs :=
  own_same h fun k hv => Below.heap_setCell _ _ _ _ (hk k hv)
theorem wpList_buildOne {ops : Array Oper} {rest : List Oper} {o : Oper} {a : Act} {w : World} {Q : Exit → Act → World → Prop} (hg : o.guard = none) (x : Operand) (ho : o.op = .buildSlice 108 1 #[(0, x)]) (y : At) (hx : a.eval x = .agg (atC y).toArray)
    (h : wpList Tryz.prog ops Q rest (a.put o.dst (.slice (some ⟨w.heap.size, 0, none⟩) 1 1)) (w.alloc (.cells (atC y).toArray 107))) : wpList Tryz.prog ops Q (o :: rest) a w := by
  obtain ⟨i, hi, hz, hsize, hby⟩ := info_parts atom_info
  refine wpList_buildSlice hg 108 107 1 #[(0, x)] ho (atC y).toArray i _ Tryz.underlying108 hi hz (by rw [hsize]; decide) (by rw [hsize]; decide) ?_ h
  rw [hsize]
  simp only [List.map_toArray, List.map_cons, List.map_nil, hx]
  exact fill_atom y
end Go.Proofs.YtfkojnofbpdjdaaGreatDoor

namespace Go.Proofs.YtfkojnofbpdjdaaGreatDoor
set_option maxRecDepth 100000
open Go.RowKit

theorem AtIn.range {w : World} {g : Nat} {x : At} (h : AtIn w g x) : w.rangeAt g 0 (atC x) := fun j v hj => by
  rw [Nat.zero_add, cell_of_row _ _ _ _ _ _ h]
  simpa using hj
theorem bool_info : (Tryz.prog.info? 4).map (fun i => (i.zero, i.size, i.bytes)) = some (some (.bool false), 1, 1) := by kernel_rfl
/-- A slice of n Bools. -/
def PlIn (w : World) (v : Value) (n : Nat) (f : Nat → Bool) : Prop := ∃ b o c, v = .slice (some ⟨b, o, none⟩) n c ∧ b < w.heap.size ∧ ∀ j, j < n → w.cell? ⟨b, o + j, none⟩ = some (.bool (f j))
theorem PlIn.below {w w' : World} {v : Value} {n : Nat} {f : Nat → Bool} (h : PlIn w v n f) {B : Nat} (hb : Below B w w') (hB : w.heap.size ≤ B) : PlIn w' v n f := by
  obtain ⟨b, o, c, hv, hl, hc⟩ := h
  exact ⟨b, o, c, hv, Nat.lt_of_lt_of_le hl hb.size, fun j hj => (hb.cell (p := ⟨b, o + j, none⟩) (Nat.lt_of_lt_of_le hl hB)).trans (hc j hj)⟩
theorem PlIn.congr {w : World} {v : Value} {n : Nat} {f g : Nat → Bool} (h : PlIn w v n f) (e : ∀ j, j < n → f j = g j) : PlIn w v n g := by
  obtain ⟨b, o, c, hv, hl, hc⟩ := h
  exact ⟨b, o, c, hv, hl, fun j hj => by rw [hc j hj, e j hj]⟩
/-- What a call gives that makes a row of n Bools. -/
def RetPl (w : World) (n : Nat) (f : Nat → Bool) (e : Ending) (w' : World) : Prop :=
  ∃ g, e = .returned (.slice (some ⟨g, 0, none⟩) n n) ∧ w.heap.size ≤ g ∧ w'.rowIs g 4 n (fun j => .bool (f j)) ∧ Below w.heap.size w w'
end Go.Proofs.YtfkojnofbpdjdaaGreatDoor

namespace Go.Proofs.YtfkojnofbpdjdaaGreatDoor
set_option maxRecDepth 100000
open Go.RowKit

def boolC (b : Bool) : List Value := [.bool b]
theorem boolC_len (b : Bool) : (boolC b).length = 1 := rfl
theorem boolC_one (b : Bool) : ∀ u ∈ boolC b, u.oneCell' = true := by
  intro u hu
  simp [boolC] at hu
  subst hu
  rfl
def spF (f : List Tk) : List Bool := (sqF f).map (·.2)
theorem spF_take (f : List Tk) (k : Nat) (h : k < f.length) : spF (f.take (k + 1)) = spF (f.take k) ++ (sqI f[k]).map (·.2) := by
  unfold spF
  rw [List.take_succ_eq_append_getElem h, sqF_app, List.map_append, sqF_one]
theorem spF_len (f : List Tk) : (spF f).length = lenI f := by unfold spF; rw [List.length_map, sqF_len]
theorem sqI_text (t : ByteArray) (d : Int) : (sqI ⟨1, t, d⟩).map (·.2) = t.data.toList.map spcB := by
  unfold sqI
  rw [if_pos rfl, List.map_map]
  rfl
theorem sqI_other (k : Int) (t : ByteArray) (d : Int) (h : k ≠ 1) : (sqI ⟨k, t, d⟩).map (·.2) = [false] := by
  unfold sqI
  rw [if_neg h]
  split <;> rfl
theorem take_map_snoc (s : ByteArray) (i : Nat) (h : i < s.size) : (s.data.toList.map spcB).take (i + 1) = (s.data.toList.map spcB).take i ++ [spcB s[i]] := by
  rw [List.take_succ_eq_append_getElem (by simpa using h)]
  congr 1
  simp only [List.getElem_map]
  rfl

/-- A block of another type is not the row's. -/
theorem own_apart {w : World} {B : Nat} {e : TypeId} {size : Nat} {v : Value} {n : Nat} {xs : List Value} (h : w.ownsRow B e size v n xs) {q : Nat} {cs : Array Value} {t : TypeId} (hq : w.heap[q]? = some (.cells cs t)) (ht : t ≠ e) : ∀ g, v.ownBlock = some g → g ≠ q := by
  rintro g hg rfl
  rcases h.2 with ⟨rfl, _⟩ | ⟨g', cap, cur, rfl, _, hh, _⟩
  · cases hg
  · injection hg with hg
    subst hg
    rw [hq] at hh
    injection hh with hh
    injection hh with _ h2 _
    exact ht h2

set_option maxRecDepth 100000 in
set_option maxHeartbeats 8000000 in
theorem blanks_any (f : List Tk) (v : Value) (w : World) (h1 : RdT w v f) (hl : lenI f ≤ 1000000000) (hfl : f.length ≤ 1000000) :
    Calls Tryz.prog 63 #[v] w (RetOwn 4 boolC 1 w (spF f)) := by
  obtain ⟨R, HRR⟩ : ∃ R, Hid (R = RetOwn 4 boolC 1 w (spF f)) := ⟨_, rfl⟩
  rw [← HRR.out]
  obtain ⟨A, c, rfl, _, _⟩ := h1.shape
  have H1 := Lib.hid h1
  clear h1
  go_enter Tryz.func63, Tryz.ntmps63
  go_wp2_with fail
  obtain ⟨wo, HWO⟩ : ∃ wo, Hid (wo = w) := ⟨w, rfl⟩
  go_loopg [3, 5, 6, 9] f.length (fun gk ov xv iv jv wr => ∃ k : Nat, jv = .int .i64 k ∧ k ≤ f.length ∧ Hid (OwnE 4 boolC 1 wr w.heap.size ov (spF (f.take k))) ∧ Hid (Below w.heap.size w wr) ∧ f.length - k ≤ gk)
  case atStart => exact ⟨0, rfl, Nat.zero_le _, by (show OwnE _ _ _ _ _ _ _); rw [List.take_zero]; exact OwnE.nil, Below.refl _ _, by omega⟩
  case round =>
    clear HWO
    obtain ⟨k, rfl, hk, HO, HB, hgk⟩ := hrel
    by_cases hkl : k < f.length
    · have hki : (k : Int) < (f.length : Int) := by omega
      have hk0 : (0 : Int) ≤ (k : Int) := by omega
      obtain ⟨b, o, rfl, hbl, q1, q2, q3⟩ := RdT.at_ H1.out k hkl
      have hsz := HB.out.size
      rw [← HB.out.cell (p := ⟨b, o + k * 3, none⟩) hbl] at q1
      rw [← HB.out.cell (p := ⟨b, o + k * 3 + 1, none⟩) hbl] at q2
      rw [← HB.out.cell (p := ⟨b, o + k * 3 + 2, none⟩) hbl] at q3
      have hbl2 : b < wr.heap.size := by omega
      have hle := lenI_le f (k + 1)
      have hle2 := lenI_take f k hkl
      have HTK := Lib.hid (spF_take f k hkl)
      have hol := spF_len (f.take k)
      have hol3 := spF_len (f.take (k + 1))
      obtain ⟨Ao, co, hov⟩ := own_shape HO.out
      generalize hl0 : spF (f.take k) = l0 at HO hov HTK hol
      generalize hl1 : spF (f.take (k + 1)) = l1 at HTK hol3
      subst hov
      have hln : l0.length ≤ 1000000000 := by omega
      have hln1 : l1.length ≤ 1000000000 := by omega
      have HL1 := Lib.hid hl1
      clear hl0 hl1 hol hol3
      generalize f[k] = x at q1 q2 q3 HTK hle2
      obtain ⟨xk, xt, xd⟩ := x
      simp only at q1 q2 q3
      have hxs : xk = 1 → xt.size ≤ 1000000000 := fun e => by
        have : wdI ⟨xk, xt, xd⟩ = xt.size := by unfold wdI; rw [if_pos e]
        omega
      have HX : Hid ((wr.alloc (.cells #[.int .i64 xk, .string xt, .int .i64 xd] 31)).heap[wr.heap.size]? = some (.cells #[.int .i64 xk, .string xt, .int .i64 xd] 31)) := heap_alloc_new wr _
      have HB1 := Lib.hid (HB.out.alloc hsz (.cells #[.int .i64 xk, .string xt, .int .i64 xd] 31))
      have HO1 := Lib.hid (World.ownsRow.alloc HO.out (.cells #[.int .i64 xk, .string xt, .int .i64 xd] 31))
      clear hle hle2
      go_upto_region 5 with fail
      generalize wr.alloc (.cells #[.int .i64 xk, .string xt, .int .i64 xd] 31) = w3 at HX HB1 HO1 ⊢
      obtain ⟨q, hq⟩ : ∃ q, Hid (q = wr.heap.size) := ⟨_, rfl⟩
      rw [← hq.out] at HX ⊢
      have hql : q < w3.heap.size := (Array.getElem?_eq_some_iff.1 HX.out).1
      clear q1 q2 q3
      obtain ⟨x0, x1, x2, _⟩ := bx3 HX.out
      have HLT : Hid (∀ g, (Value.slice Ao l0.length co).ownBlock = some g → g < q) := fun g hg => by have := (HO.out.lt g hg).2; rw [hq.out]; exact this
      have hzw := HB1.out.size
      by_cases hx : xk = 1
      · subst hx
        have hxs2 := hxs rfl
        rw [sqI_text] at HTK
        have t1 : ((1 : Int) != 1) = false := rfl
        clear hxs
        go_upto_region 8 with fail
        obtain ⟨wo, HWO⟩ : ∃ wo, Hid (wo = w3) := ⟨w3, rfl⟩
        go_loopg [3, 6] xt.size (fun gk ov iv wx => ∃ i : Nat, iv = .int .i64 i ∧ i ≤ xt.size ∧ Hid (OwnE 4 boolC 1 wx w.heap.size ov (l0 ++ (xt.data.toList.map spcB).take i)) ∧ Hid (Below w.heap.size w wx) ∧ Hid (wx.heap[q]? = some (.cells #[.int .i64 1, .string xt, .int .i64 xd] 31)) ∧ Hid (∀ g, ov.ownBlock = some g → g ≠ q) ∧ xt.size - i ≤ gk)
        case atStart => exact ⟨0, rfl, Nat.zero_le _, by (show OwnE _ _ _ _ _ _ _); rw [List.take_zero, List.append_nil]; exact HO1.out, HB1.out, HX.out, fun g hg => by have := HLT.out g hg; omega, by omega⟩
        case round =>
          clear HWO HO1 HB1 HX HLT hql x0 x1 x2 hzw
          obtain ⟨i, rfl, hi, HOX, HBX, HX, HLT, hgi⟩ := hrel
          obtain ⟨x0, x1, x2, _⟩ := bx3 HX.out
          have hql : q < wr.heap.size := (Array.getElem?_eq_some_iff.1 HX.out).1
          have hzx := HBX.out.size
          by_cases hil : i < xt.size
          · have hii : (i : Int) < (xt.size : Int) := by omega
            have hi0 : (0 : Int) ≤ (i : Int) := by omega
            have HSN := Lib.hid (take_map_snoc xt i hil)
            have h255 : xt[i].toNat < 256 := xt[i].toNat_lt
            have HOF := Lib.hid (fun w' => of_any (xt[i].toNat : Int) w' (by omega) (by omega))
            obtain ⟨bb, hbb⟩ : ∃ bb : Bool, Hid (spcB xt[i] = bb) := ⟨spcB xt[i], rfl⟩
            have t5 : (clsN (xt[i].toNat : Int) == 2) = bb := by rw [← hbb.out]; rfl
            rw [hbb.out] at HSN
            generalize hzz : clsN (xt[i].toNat : Int) = zz at HOF t5
            obtain ⟨Ax, cx, hvx⟩ := own_shape HOX.out
            have hlx : (l0 ++ (xt.data.toList.map spcB).take i).length ≤ 1000000000 := by
              have := congrArg List.length HTK.out
              rw [List.length_append] at this ⊢
              rw [List.length_take]
              simp only [List.length_map] at this ⊢
              omega
            generalize hlq : l0 ++ (xt.data.toList.map spcB).take i = lq at HOX hvx hlx
            subst hvx
            have HLQ := Lib.hid hlq
            clear hlq hzz
            have HSN2 : Hid (lq ++ [bb] = l0 ++ (xt.data.toList.map spcB).take (i + 1)) := by
              show _ = _
              rw [HSN.out, ← HLQ.out, List.append_assoc]
            go_wp2_with (first
              | (go_at_call 97; refine (HOF.out _).mono ?_; rintro e w4 ⟨rfl, rfl⟩)
              | (at_builtin; go_must (refine wpList_app1 rfl (.tmp 26) (.tmp 33) 134 4 rfl Tryz.underlying134 _ 1 1 bool_info rfl (by decide) w.heap.size _ lq.length (lq.flatMap boolC) rfl (by exact World.ownsRow.alloc HOX.out _) ⟨wr.heap.size, 0, none⟩ 1 (boolC bb) rfl rfl (by exact cells_new _ _ _) (boolC_one _) (by omega) (by decide) (by simp; omega) ?_); intro g9 cap9 w9 hown9 hg9 hbel9 hgr9))
            have HO9 := Lib.hid (OwnE.snoc (f := boolC) (l := lq) (x := bb) hown9)
            have HB9 := Lib.hid (hbel9 _ _ (Nat.le_refl _) (HBX.out.alloc hzx (.cells (boolC bb).toArray 4)))
            have HX9 : Hid (w9.heap[q]? = some (.cells #[.int .i64 1, .string xt, .int .i64 xd] 31)) := (hgr9.block q (by simp; omega) (fun e => HLT.out q e.symm rfl)).trans ((Below.heap_alloc wr _ q hql).trans HX.out)
            have HN9 : Hid (∀ g, (Value.slice (some ⟨g9, 0, none⟩) (lq.length + 1) cap9).ownBlock = some g → g ≠ q) := own_apart hown9 HX9.out (by decide)
            rw [HSN2.out] at HO9
            clear hown9 hbel9 hgr9
            go_wp2_with fail
            go_roundg (xt.size - (i + 1))
            case measure => omega
            case rel => exact ⟨i + 1, rfl, by omega, HO9.out, HB9.out, HX9.out, HN9.out, by omega⟩
          · obtain rfl : i = xt.size := by omega
            rw [List.take_of_length_le (by simp), ← HTK.out] at HOX
            go_wp2_with fail
            go_roundg (f.length - (k + 1))
            case measure => omega
            case rel => exact ⟨k + 1, rfl, by omega, by (show OwnE _ _ _ _ _ _ _); rw [HL1.out]; exact HOX.out, HBX.out, by omega⟩
      · have t1 : (xk != 1) = true := by simpa using hx
        rw [sqI_other _ _ _ hx] at HTK
        clear hxs
        go_wp2_with (at_builtin; refine wpList_app1 rfl (.tmp 16) (.tmp 17) 134 4 rfl Tryz.underlying134 _ 1 1 bool_info rfl (by decide) w.heap.size _ _ _ rfl (by exact World.ownsRow.alloc HO1.out _) ⟨w3.heap.size, 0, none⟩ 1 (boolC false) rfl rfl (by exact cells_new _ _ _) (boolC_one _) (by omega) (by decide) (by simp; omega) ?_; intro g9 cap9 w9 hown9 hg9 hbel9 hgr9)
        have HO9 := Lib.hid (OwnE.snoc (f := boolC) (l := l0) (x := false) hown9)
        have HB9 := Lib.hid (hbel9 _ _ (Nat.le_refl _) (HB1.out.alloc hzw (.cells (boolC false).toArray 4)))
        rw [← HTK.out] at HO9
        clear hown9 hbel9 hgr9
        go_roundg (f.length - (k + 1))
        case measure => omega
        case rel => exact ⟨k + 1, rfl, by omega, by (show OwnE _ _ _ _ _ _ _); rw [HL1.out]; exact HO9.out, HB9.out, by omega⟩
    · obtain rfl : k = f.length := by omega
      rw [List.take_length] at HO
      obtain ⟨Ao, co, hov⟩ := own_shape HO.out
      go_wp2_with fail
      rw [HRR.out]
      exact ⟨_, rfl, HO.out, HB.out⟩

end Go.Proofs.YtfkojnofbpdjdaaGreatDoor
