/-
  Contracts and plain laws that this claim leans on, part 1.
-/
import Derived.WalkKit
import Derived.WalkLawsBesides
import Derived.Lib.Hide
import Derived.Lib.Strings
import Derived.Laws.IdiomStrings
import Derived.Deep.Draws
import Derived.Deep.QuietTactic
import Derived.BigQuiet
import Derived.Deep.OwnRows
import Derived.ProofKit
import Derived.OpenShut
import Derived.KernelRfl
import Derived.Below
import Derived.Laws.AppendOwnNone
import Derived.Test.YtfkojnofbpdjdaaGreatDoorChecked
import Derived.Lib.SmallJoins
import Derived.Maps.AppendAt
import Derived.Deep.AppendLies
import Derived.Deep.RegionLaw
import Derived.Lib.AppendStr
import Derived.WalkSpells
import Derived.Deep.LoopGhost
import Derived.Deep.MidRow
import Derived.StillTailTactics
import Derived.Deep.DeepCutAuto
import Derived.Deep.CutBlock
import Derived.Deep.RegionWith
import Derived.BigRegion
import Derived.Deep.RegionHeld3
import Derived.Great.BuildSlice
import Derived.LaidMore
import Derived.Laws.CopyOwn
import Derived.Laws.ResultCell
import Derived.Laws.Tables
import Derived.Lay
import Derived.Lib.Bytealg
import Derived.Lib.IndexMore
import Derived.Lib.SliceRun
import Derived.Lib.Split
import Derived.Lib.SplitLaws
import Derived.Lib.Walk
import Derived.Maps.Own
import Derived.Maps.OwnOps
import Derived.Maps.Views
import Derived.SizedLaws
import Derived.Stop.Joined
import Derived.Shelf.Vars
set_option linter.unusedVariables false
set_option linter.unusedSimpArgs false
set_option maxHeartbeats 16000000
set_option maxRecDepth 100000
namespace Go.Proofs.YtfkojnofbpdjdaaGreatDoor
set_option maxRecDepth 100000
open Go.RowKit
theorem ret_int {k : IntKind} {a b : Int} (h : a = b) : Ending.returned (.int k a) = .returned (.int k b) := by rw [h]
theorem ret_bool {a b : Bool} (h : a = b) : Ending.returned (.bool a) = .returned (.bool b) := by rw [h]
theorem ret_val {a b : Value} (h : a = b) : Ending.returned a = .returned b := by rw [h]
theorem cells_new (w : World) (xs : List Value) (t : TypeId) : ∀ j u, xs[j]? = some u → (w.alloc (.cells xs.toArray t)).cell? ((⟨w.heap.size, 0, none⟩ : Addr).add j) = some u := by
 intro j u hj
 rw [Addr.add_lit, Nat.zero_add]
 have : (w.alloc (.cells xs.toArray t)).heap[w.heap.size]? = some (.cells xs.toArray t) := by
  show (w.heap.push (.cells xs.toArray t))[w.heap.size]? = _
  simp
 rw [cell_of_row _ _ j _ _ _ this]
 simpa using hj
theorem wpList_app1 {P : Program} {ops : Array Oper} {rest : List Oper} {o : Oper} {a : Act} {Q : Exit → Act → World → Prop} {w : World} (hgd : o.guard = none) (s x : Operand) (t e : TypeId)
 (ho : o.op = .call { callee := .builtin .append, args := #[s, x], argTypes := #[t, t] })
 (ht : P.underlying t = some (.slice e)) (z : Value) (size bytes : Nat) (hinfo : (P.info? e).map (fun i => (i.zero, i.size, i.bytes)) = some (some z, size, bytes)) (hzs : z.cells.size = size) (hsz : 0 < size)
 (base : Nat) (v : Value) (n : Nat) (xs : List Value) (hs : a.eval s = v) (hown : w.ownsRow base e size v n xs)
 (ad : Addr) (c : Nat) (news : List Value) (hx : a.eval x = .slice (some ad) 1 c) (hl : news.length = size) (hnews : ∀ j u, news[j]? = some u → w.cell? (ad.add j) = some u) (h1 : ∀ u ∈ news, u.oneCell' = true)
 (hbytes : (n + 1) * bytes ≤ 140737488355328) (hb1 : 1 ≤ bytes) (hbase : base ≤ w.heap.size)
 (h : ∀ g cap w', w'.ownsRow base e size (.slice (some ⟨g, 0, none⟩) (n + 1) cap) (n + 1) (xs ++ news) → base ≤ g → (∀ B W, B ≤ base → Below B W w → Below B W w') → w.grownBy w' v.ownBlock →
   wpList P ops Q rest (a.put o.dst (.slice (some ⟨g, 0, none⟩) (n + 1) cap)) w') : wpList P ops Q (o :: rest) a w := by
 obtain ⟨i, hi, hz, hsize, hby⟩ := info_parts hinfo
 have h2 : n + 1 ≤ 140737488355328 := Nat.le_trans (Nat.le_mul_of_pos_right _ hb1) hbytes
 refine wpList_append_own w hgd s x t ho base e i z size bytes ht hi hz hsize hby hzs hsz v n xs hs hown ad 1 c news hx (by rw [hl, Nat.one_mul]) hnews h1 (by unfold maxLen; omega) hbytes hbase ?_
 intro v' w' hown' hg _
 have hsh : ∃ g cap, v' = .slice (some ⟨g, 0, none⟩) (n + 1) cap ∧ base ≤ g := by
  rcases hown'.2 with ⟨_, h0⟩ | ⟨g, cap, _, h, hb, _⟩
  ·omega
  ·exact ⟨g, cap, h, hb⟩
 obtain ⟨g, cap, hv, hb⟩ := hsh
 rw [hv] at hown' ⊢
 exact h g cap w' hown' hb (fun B W hB hW => hW.grown hg (Nat.le_trans hB hbase) (fun k hk => Nat.le_trans hB (hown.lt k hk).1)) hg
theorem own_shape {w : World} {base : Nat} {e : TypeId} {size : Nat} {v : Value} {n : Nat} {xs : List Value} (h : w.ownsRow base e size v n xs) : ∃ A c, v = .slice A n c := by
 rcases h.2 with ⟨rfl, rfl⟩ | ⟨g, cap, _, h, _⟩
 ·exact ⟨none, 0, rfl⟩
 ·exact ⟨_, _, h⟩
theorem own_some {w : World} {base : Nat} {e : TypeId} {size : Nat} {v : Value} {n : Nat} {xs : List Value} (h : w.ownsRow base e size v n xs) (hn : 0 < n) : ∃ g c, v = .slice (some ⟨g, 0, none⟩) n c ∧ base ≤ g := by
 rcases h.2 with ⟨_, h0⟩ | ⟨g, cap, _, h, hb, _⟩
 ·omega
 ·exact ⟨_, _, h, hb⟩
theorem flat_get {α : Type} (f : α → List Value) (m : Nat) (hm : ∀ x, (f x).length = m) : ∀ (l : List α) (i j : Nat) (x : α), l[i]? = some x → j < m → (l.flatMap f)[i * m + j]? = (f x)[j]?
 | [], i, j, x, h, _ => by simp at h
 | y :: l, 0, j, x, h, hj => by
   simp at h
   subst h
   simp [List.getElem?_append_left (show j < (f y).length by rw [hm]; exact hj)]
 | y :: l, i + 1, j, x, h, hj => by
   have ih := flat_get f m hm l i j x (by simpa using h) hj
   rw [List.flatMap_cons, List.getElem?_append_right (by rw [hm, Nat.add_mul]; omega), hm, ← ih]
   congr 1
   rw [Nat.add_mul]
   omega
theorem flat_length {α : Type} (f : α → List Value) (m : Nat) (hm : ∀ x, (f x).length = m) (l : List α) : (l.flatMap f).length = l.length * m := by
 induction l with
 | nil => simp
 | cons x l ih => rw [List.flatMap_cons, List.length_append, hm, ih, List.length_cons, Nat.add_mul]; omega
/-! ### Quiet calls in a region that draws its order -/
theorem quiet_add_left {P : Program} {f : FuncId} {args : Array Value} {w : World} {a n : Nat} {v : Value}
 (h : Calls P f args (w.drewN (a + n)) fun e w' => e = .returned v ∧ w.drewN (a + n) = w') :
 Calls P f args (w.drewN (a + n)) fun e w'' => e = .returned v ∧ ∃ m, w'' = w.drewN (a + m) :=
 h.mono fun _ _ ⟨he, hm⟩ => ⟨he, n, hm.symm⟩
theorem below_drewN {B : Nat} {a w : World} (h : Below B a w) (n : Nat) : Below B a (w.drewN n) := ⟨h.os, h.tape, h.output, h.size, h.block⟩
theorem toList_eq_data (a : ByteArray) : a.toList = a.data.toList := ByteArray.toList_eq a
def QuietRet (w : World) (v : Value) (e : Ending) (w' : World) : Prop := e = .returned v ∧ ∃ n, w' = w.drewN n
end Go.Proofs.YtfkojnofbpdjdaaGreatDoor

namespace Go.Proofs.YtfkojnofbpdjdaaGreatDoor
set_option maxRecDepth 100000
open Go.RowKit
def clsN (n : Int) : Int :=
 if n = 9 ∨ n = 10 ∨ n = 13 ∨ n = 32 then 2
 else if n < 32 ∨ n = 127 then 1
 else if 48 ≤ n ∧ n ≤ 57 then 3
 else if (97 ≤ n ∧ n ≤ 122) ∨ (65 ≤ n ∧ n ≤ 90) ∨ 128 ≤ n then 4
 else 5
/-! ### Names -/
def headB (c : UInt8) : Bool := decide (97 ≤ c.toNat ∧ c.toNat ≤ 122)
def restB (c : UInt8) : Bool := decide ((97 ≤ c.toNat ∧ c.toNat ≤ 122) ∨ (48 ≤ c.toNat ∧ c.toNat ≤ 57) ∨ c.toNat = 45)
def nameL : List UInt8 → Bool
 | [] => false
 | c :: r => decide (r.length ≤ 23) && headB c && r.all restB
theorem nameL_short (l : List UInt8) (h : l.length < 1) : nameL l = false := by
 have : l = [] := List.eq_nil_of_length_eq_zero (by omega)
 subst this
 rfl
theorem nameL_long (l : List UInt8) (h : 24 < l.length) : nameL l = false := by
 match l, h with
 | c :: r, h => simp at h; simp [nameL]; omega
theorem nameL_head (l : List UInt8) (h : 0 < l.length) (hc : headB l[0] = false) : nameL l = false := by
 match l, h with
 | c :: r, h => simp at hc; simp [nameL, hc]
theorem nameL_tail (l : List UInt8) (h : 0 < l.length) (hl : l.length ≤ 24) (hc : headB l[0] = true) : nameL l = (l.drop 1).all restB := by
 match l, h with
 | c :: r, h => simp at hc hl; simp [nameL, hc, hl]
theorem all_drop_step (l : List UInt8) (k : Nat) (h : k < l.length) : (l.drop k).all restB = (restB l[k] && (l.drop (k + 1)).all restB) := by
 rw [List.drop_eq_getElem_cons h, List.all_cons]
theorem all_drop_end (l : List UInt8) (k : Nat) (h : ¬ k < l.length) : (l.drop k).all restB = true := by
 rw [List.drop_of_length_le (by omega)]; rfl
/-! ### Trim -/
def IsTrim (l : List UInt8) (x y : Nat) : Prop :=
 (x = 0 ∧ y = 0 ∧ ∀ (j : Nat) (c : UInt8), l[j]? = some c → clsN c.toNat = 2) ∨
 (x < y ∧ y ≤ l.length ∧ (∀ c, l[x]? = some c → clsN c.toNat ≠ 2) ∧ (∀ c, l[y - 1]? = some c → clsN c.toNat ≠ 2) ∧ (∀ (j : Nat) (c : UInt8), j < x → l[j]? = some c → clsN c.toNat = 2) ∧ ∀ (j : Nat) (c : UInt8), y ≤ j → l[j]? = some c → clsN c.toNat = 2)
/-! ### Runs -/
end Go.Proofs.YtfkojnofbpdjdaaGreatDoor

namespace Go.Proofs.YtfkojnofbpdjdaaGreatDoor
set_option maxRecDepth 100000
open Go.RowKit
structure Tk where
 k : Int
 t : ByteArray
 d : Int
theorem Tk.ext' {a b : Tk} (h1 : a.k = b.k) (h2 : a.t = b.t) (h3 : a.d = b.d) : a = b := by
 cases a; cases b; simp at h1 h2 h3; rw [h1, h2, h3]
theorem bytes_ext {a b : ByteArray} (h : a.data.toList = b.data.toList) : a = b := by
 obtain ⟨⟨l⟩⟩ := a
 obtain ⟨⟨m⟩⟩ := b
 simp at h
 rw [h]
def wordB (c : UInt8) : Bool := clsN (c.toNat : Int) == 4 || clsN (c.toNat : Int) == 3
def digB (c : UInt8) : Bool := clsN (c.toNat : Int) == 3
def spB (c : UInt8) : Bool := clsN (c.toNat : Int) == 2
def jn (inner : UInt8 → Bool) (a b : UInt8) : List UInt8 → Nat
 | [] => 0
 | c :: r => if inner c then jn inner a b r + 1 else if c == a || c == b then (match r with
   | d :: r' => if inner d then jn inner a b r' + 2 else 0
   | [] => 0) else 0
theorem jn_nil (inner : UInt8 → Bool) (a b : UInt8) : jn inner a b [] = 0 := rfl
theorem jn_in (inner : UInt8 → Bool) (a b c : UInt8) (r : List UInt8) (h : inner c = true) : jn inner a b (c :: r) = jn inner a b r + 1 := by
 cases r <;> simp [jn, h]
theorem jn_out (inner : UInt8 → Bool) (a b c : UInt8) (r : List UInt8) (h : inner c = false) (h2 : (c == a || c == b) = false) : jn inner a b (c :: r) = 0 := by
 have h2' : ¬ ((c == a || c == b) = true) := by rw [h2]; exact Bool.false_ne_true
 cases r <;> simp only [jn, h, Bool.false_eq_true, if_false, if_neg h2']
theorem jn_two (inner : UInt8 → Bool) (a b c d : UInt8) (r : List UInt8) (h : inner c = false) (h2 : (c == a || c == b) = true) (h3 : inner d = true) : jn inner a b (c :: d :: r) = jn inner a b r + 2 := by
 rw [jn, if_neg (by rw [h]; exact Bool.false_ne_true), if_pos h2]
 simp [h3]
theorem jn_half (inner : UInt8 → Bool) (a b c d : UInt8) (r : List UInt8) (h : inner c = false) (h2 : (c == a || c == b) = true) (h3 : inner d = false) : jn inner a b (c :: d :: r) = 0 := by
 rw [jn, if_neg (by rw [h]; exact Bool.false_ne_true), if_pos h2]
 simp [h3]
theorem jn_end (inner : UInt8 → Bool) (a b c : UInt8) (h : inner c = false) : jn inner a b [c] = 0 := by
 rw [jn, if_neg (by rw [h]; exact Bool.false_ne_true)]
 split <;> rfl
theorem jn_le (inner : UInt8 → Bool) (a b : UInt8) : ∀ n (l : List UInt8), l.length ≤ n → jn inner a b l ≤ l.length
 | 0, l, h => by
   have : l = [] := List.eq_nil_of_length_eq_zero (by omega)
   subst this
   simp [jn]
 | n + 1, l, h => by
   match l with
   | [] => simp [jn]
   | [c] =>
     by_cases hc : inner c = true
     ·rw [jn_in _ _ _ _ _ hc, jn_nil]; simp
     ·rw [jn_end _ _ _ _ (by simpa using hc)]; simp
   | c :: d :: r =>
     have h1 := jn_le inner a b n (d :: r) (by simp at h ⊢; omega)
     have h2 := jn_le inner a b n r (by simp at h ⊢; omega)
     simp at h1 ⊢
     by_cases hc : inner c = true
     ·rw [jn_in _ _ _ _ _ hc]; omega
     ·by_cases hj : (c == a || c == b) = true
      ·by_cases hd : inner d = true
       ·rw [jn_two _ _ _ _ _ _ (by simpa using hc) hj hd]; omega
       ·rw [jn_half _ _ _ _ _ _ (by simpa using hc) hj (by simpa using hd)]; omega
      ·rw [jn_out _ _ _ _ _ (by simpa using hc) (by simpa using hj)]; omega
def nextL : List UInt8 → Int × Nat
 | [] => (9, 1)
 | c :: r => if clsN (c.toNat : Int) = 4 then (6, 1 + jn wordB 39 45 r) else if clsN (c.toNat : Int) = 3 then (7, 1 + jn digB 46 44 r)
   else if clsN (c.toNat : Int) = 2 then (8, 1 + (r.takeWhile spB).length) else (9, 1)
theorem nextL_pos (l : List UInt8) : 1 ≤ (nextL l).2 := by
 match l with
 | [] => simp [nextL]
 | c :: r => unfold nextL; repeat' split
             all_goals simp
theorem takeWhile_le (p : UInt8 → Bool) (l : List UInt8) : (l.takeWhile p).length ≤ l.length := (List.takeWhile_prefix p).length_le
theorem nextL_le (l : List UInt8) (h : l ≠ []) : (nextL l).2 ≤ l.length := by
 match l, h with
 | c :: r, _ =>
   have h1 := jn_le wordB 39 45 r.length r (Nat.le_refl _)
   have h2 := jn_le digB 46 44 r.length r (Nat.le_refl _)
   have h3 := takeWhile_le spB r
   simp only [nextL, List.length_cons]
   by_cases a1 : clsN (c.toNat : Int) = 4
   ·rw [if_pos a1]; show 1 + _ ≤ _; omega
   ·rw [if_neg a1]
    by_cases a2 : clsN (c.toNat : Int) = 3
    ·rw [if_pos a2]; show 1 + _ ≤ _; omega
    ·rw [if_neg a2]
     by_cases a3 : clsN (c.toNat : Int) = 2
     ·rw [if_pos a3]; show 1 + _ ≤ _; omega
     ·rw [if_neg a3]; show 1 ≤ _; omega
def cutF : Nat → List UInt8 → List (Int × List UInt8)
 | 0, _ => []
 | _ + 1, [] => []
 | n + 1, c :: r => ((nextL (c :: r)).1, (c :: r).take (nextL (c :: r)).2) :: cutF n ((c :: r).drop (nextL (c :: r)).2)
def cutL (l : List UInt8) : List (Int × List UInt8) := cutF l.length l
theorem cutF_eq (n m : Nat) (l : List UInt8) (hn : l.length ≤ n) (hm : l.length ≤ m) : cutF n l = cutF m l := by
 induction n generalizing m l with
 | zero =>
   have : l = [] := List.eq_nil_of_length_eq_zero (by omega)
   subst this
   cases m <;> rfl
 | succ n ih =>
   match l, m, hm with
   | [], 0, _ => rfl
   | [], _ + 1, _ => rfl
   | c :: r, m + 1, hm =>
     have hp := nextL_pos (c :: r)
     rw [cutF, cutF, ih m]
     ·rw [List.length_drop]; simp at hn ⊢; omega
     ·rw [List.length_drop]; simp at hm ⊢; omega
theorem cutL_nil : cutL [] = [] := rfl
theorem cutL_cons (l : List UInt8) (h : l ≠ []) : cutL l = ((nextL l).1, l.take (nextL l).2) :: cutL (l.drop (nextL l).2) := by
 match l, h with
 | c :: r, _ =>
   have hp := nextL_pos (c :: r)
   unfold cutL
   rw [List.length_cons, cutF]
   congr 1
   refine cutF_eq _ _ _ ?_ (Nat.le_refl _)
   rw [List.length_drop, List.length_cons]
   omega
theorem cutL_length (n : Nat) : ∀ l : List UInt8, l.length ≤ n → (cutL l).length ≤ l.length := by
 induction n with
 | zero =>
   intro l h
   have : l = [] := List.eq_nil_of_length_eq_zero (by omega)
   subst this
   simp [cutL_nil]
 | succ n ih =>
   intro l h
   by_cases hl : l = []
   ·subst hl; simp [cutL_nil]
   ·have hp := nextL_pos l
    have hle := nextL_le l hl
    rw [cutL_cons l hl, List.length_cons]
    have := ih (l.drop (nextL l).2) (by rw [List.length_drop]; omega)
    rw [List.length_drop] at this
    omega
def tkOf (x : Int × List UInt8) : Tk := ⟨x.1, ⟨x.2.toArray⟩, 0⟩
def tok1 (x : Tk) : List Tk := if x.k = 1 then (cutL x.t.data.toList).map tkOf else if 2 ≤ x.k ∧ x.k ≤ 5 then [x] else []
def tokensL (f : List Tk) : List Tk := f.flatMap tok1
def bytesOf (f : List Tk) : Nat := (f.map fun x => x.t.size).sum
theorem bytesOf_cons (x : Tk) (f : List Tk) : bytesOf (x :: f) = x.t.size + bytesOf f := by simp [bytesOf]
theorem tok1_length (x : Tk) : (tok1 x).length ≤ x.t.size + 1 := by
 unfold tok1
 split
 ·have := cutL_length _ x.t.data.toList (Nat.le_refl _)
  rw [List.length_map, Lib.size_eq]
  omega
 ·split <;> simp
theorem tokensL_length (f : List Tk) : (tokensL f).length ≤ bytesOf f + f.length := by
 induction f with
 | nil => simp [tokensL]
 | cons x f ih =>
   have h1 := tok1_length x
   have h2 : tokensL (x :: f) = tok1 x ++ tokensL f := rfl
   rw [h2, List.length_append, bytesOf_cons, List.length_cons]
   omega
theorem tokensL_append (f g : List Tk) : tokensL (f ++ g) = tokensL f ++ tokensL g := by simp [tokensL]
theorem tokensL_take (f : List Tk) (k : Nat) (h : k < f.length) : tokensL (f.take (k + 1)) = tokensL (f.take k) ++ tok1 f[k] := by
 rw [List.take_succ_eq_append_getElem h, tokensL_append]
 simp [tokensL]
theorem bytesOf_take (f : List Tk) (k : Nat) : bytesOf (f.take k) ≤ bytesOf f := by
 induction f generalizing k with
 | nil => simp [bytesOf]
 | cons x f ih =>
   cases k with
   | zero => simp [bytesOf]
   | succ k => rw [List.take_succ_cons, bytesOf_cons, bytesOf_cons]; have := ih k; omega
theorem bytesOf_get (f : List Tk) (k : Nat) (h : k < f.length) : bytesOf (f.take k) + f[k].t.size ≤ bytesOf f := by
 have h1 := bytesOf_take f (k + 1)
 rw [List.take_succ_eq_append_getElem h] at h1
 have h2 : bytesOf (f.take k ++ [f[k]]) = bytesOf (f.take k) + f[k].t.size := by
  unfold bytesOf
  rw [List.map_append, List.sum_append]
  simp only [List.map_cons, List.map_nil, List.sum_cons, List.sum_nil, Nat.add_zero]
 omega
end Go.Proofs.YtfkojnofbpdjdaaGreatDoor

namespace Go.Proofs.YtfkojnofbpdjdaaGreatDoor
set_option maxRecDepth 100000
open Go.RowKit
def RdE {α : Type} (f : α → List Value) (m : Nat) (w : World) (v : Value) (l : List α) : Prop :=
 ∃ A c, v = .slice A l.length c ∧ l.length ≤ c ∧ (A = none → c = 0) ∧ (0 < l.length → ∃ b o, A = some ⟨b, o, none⟩ ∧ b < w.heap.size ∧ ∀ (i : Nat) (x : α) (j : Nat) (u : Value), l[i]? = some x → (f x)[j]? = some u →
  w.cell? ⟨b, o + (i * m + j), none⟩ = some u)
section
variable {α : Type} {f : α → List Value} {m : Nat} {w w' : World} {v : Value} {l : List α}
theorem RdE.nil : RdE f m w (.slice none 0 0) ([] : List α) := ⟨none, 0, rfl, by simp, fun _ => rfl, fun h => by simp at h⟩
theorem RdE.keep (h : RdE f m w v l) (hs : w.heap.size ≤ w'.heap.size) (hk : ∀ b, b < w.heap.size → w'.heap[b]? = w.heap[b]?) : RdE f m w' v l := by
 obtain ⟨A, c, hv, hc, hn, h⟩ := h
 refine ⟨A, c, hv, hc, hn, fun h0 => ?_⟩
 obtain ⟨b, o, hA, hb, hx⟩ := h h0
 refine ⟨b, o, hA, by omega, fun i x j u hi hj => ?_⟩
 rw [World.cell?_of_block (w := w) (hk b hb)]
 exact hx i x j u hi hj
theorem RdE.below {B : Nat} (h : RdE f m w v l) (hb : Below B w w') (hB : w.heap.size ≤ B) : RdE f m w' v l :=
 h.keep hb.size (fun b hlt => hb.block b (by omega))
theorem RdE.alloc (h : RdE f m w v l) (o : Obj) : RdE f m (w.alloc o) v l := h.keep (by simp) (fun b hb => Below.heap_alloc w o b hb)
theorem RdE.shape (h : RdE f m w v l) : ∃ A c, v = .slice A l.length c ∧ l.length ≤ c ∧ (A = none → c = 0) := by
 obtain ⟨A, c, hv, hc, hn, _⟩ := h
 exact ⟨A, c, hv, hc, hn⟩
theorem RdE.cells {A : Option Addr} {n c : Nat} (h : RdE f m w (.slice A n c) l) (h0 : 0 < l.length) :
 ∃ b o, A = some ⟨b, o, none⟩ ∧ b < w.heap.size ∧ ∀ (i : Nat) (x : α) (j : Nat) (u : Value), l[i]? = some x → (f x)[j]? = some u → w.cell? ⟨b, o + (i * m + j), none⟩ = some u := by
 obtain ⟨A', c', hv, _, _, h⟩ := h
 injection hv with hA _ _
 subst hA
 exact h h0
end
abbrev OwnE {α : Type} (e : TypeId) (f : α → List Value) (m : Nat) (w : World) (B : Nat) (v : Value) (l : List α) : Prop := w.ownsRow B e m v l.length (l.flatMap f)
section
variable {α : Type} {e : TypeId} {f : α → List Value} {m : Nat} {w w' : World} {B : Nat} {v : Value} {l : List α}
theorem OwnE.nil : OwnE e f m w B (.slice none 0 0) ([] : List α) := World.ownsRow_nil _ _ _ _
theorem OwnE.snoc {x : α} (h : w.ownsRow B e m v (l.length + 1) (l.flatMap f ++ f x)) : OwnE e f m w B v (l ++ [x]) := by
 unfold OwnE
 rw [List.length_append, List.flatMap_append]
 simpa using h
theorem own_below {size n : Nat} {xs : List Value} {B' : Nat} (h : w.ownsRow B e size v n xs) (hb : Below B' w w') (hB : w.heap.size ≤ B') : w'.ownsRow B e size v n xs := by
 refine ⟨h.1, ?_⟩
 rcases h.2 with h0 | ⟨g, cap, cur, hv, hbg, hg, rest⟩
 ·exact .inl h0
 ·refine .inr ⟨g, cap, cur, hv, hbg, ?_, rest⟩
  rw [hb.block g (Nat.lt_of_lt_of_le (Array.getElem?_eq_some_iff.1 hg).1 hB)]
  exact hg
theorem own_base {size n : Nat} {xs : List Value} {B' : Nat} (h : w.ownsRow B e size v n xs) (hB : B' ≤ B) : w.ownsRow B' e size v n xs :=
 ⟨h.1, h.2.imp id (fun ⟨g, cap, cur, a, b, c⟩ => ⟨g, cap, cur, a, Nat.le_trans hB b, c⟩)⟩
theorem OwnE.rd (hm : ∀ x, (f x).length = m) (h : OwnE e f m w B v l) : RdE f m w v l := by
 rcases h.2 with ⟨rfl, h0⟩ | ⟨g, cap, cur, rfl, _, hh, hc, _⟩
 ·have : l = [] := List.eq_nil_of_length_eq_zero h0
  subst this
  exact RdE.nil
 ·refine ⟨some ⟨g, 0, none⟩, cap, rfl, hc, (fun h => by cases h), fun _ => ⟨g, 0, rfl, (Array.getElem?_eq_some_iff.1 hh).1, fun i x j u hi hj => ?_⟩⟩
  have hil : i < l.length := (List.getElem?_eq_some_iff.1 hi).1
  have hjm : j < m := by rw [← hm x]; exact (List.getElem?_eq_some_iff.1 hj).1
  have hlt : i * m + j < l.length * m := by
   have : (i + 1) * m ≤ l.length * m := Nat.mul_le_mul_right _ hil
   rw [Nat.add_mul] at this
   omega
  rw [Nat.zero_add, h.cellAt (i * m + j) hlt, flat_get f m hm l i j x hi hjm, hj]
end
theorem wpList_appE {P : Program} {ops : Array Oper} {rest : List Oper} {o : Oper} {a : Act} {Q : Exit → Act → World → Prop} {w : World} {α : Type} (hgd : o.guard = none) (s x : Operand) (t e : TypeId)
 (ho : o.op = .call { callee := .builtin .append, args := #[s, x], argTypes := #[t, t] })
 (ht : P.underlying t = some (.slice e)) (z : Value) (f : α → List Value) (size bytes : Nat) (hinfo : (P.info? e).map (fun i => (i.zero, i.size, i.bytes)) = some (some z, size, bytes)) (hzs : z.cells.size = size) (hsz : 0 < size)
 (hm : ∀ x, (f x).length = size) (h1 : ∀ x, ∀ u ∈ f x, u.oneCell' = true)
 (base : Nat) (v : Value) (l : List α) (hs : a.eval s = v) (hown : w.ownsRow base e size v l.length (l.flatMap f))
 (v2 : Value) (l2 : List α) (hx : a.eval x = v2) (hrd : RdE f size w v2 l2)
 (hbytes : (l.length + l2.length) * bytes ≤ 140737488355328) (hb1 : 1 ≤ bytes) (hbase : base ≤ w.heap.size)
 (h : ∀ v' w', w'.ownsRow base e size v' (l ++ l2).length ((l ++ l2).flatMap f) → (∀ B W, B ≤ base → Below B W w → Below B W w') → w.grownBy w' v.ownBlock → wpList P ops Q rest (a.put o.dst v') w') : wpList P ops Q (o :: rest) a w := by
 obtain ⟨i, hi, hz, hsize, hby⟩ := info_parts hinfo
 have h2 : l.length + l2.length ≤ 140737488355328 := Nat.le_trans (Nat.le_mul_of_pos_right _ hb1) hbytes
 obtain ⟨A, c, hv2, hc, hn, hcell⟩ := hrd
 rcases A with _ | ad
 ·have hc0 := hn rfl
  have hl2 : l2 = [] := List.eq_nil_of_length_eq_zero (by omega)
  subst hl2 hc0
  refine wpList_append_own_none hgd s x t ho base e i size ht hi v l.length _ hs hown (by rw [hx, hv2]; rfl) (h v w (by simpa using hown) (fun _ _ _ hB => hB) (World.grownBy.refl w _))
 ·refine wpList_append_own w hgd s x t ho base e i z size bytes ht hi hz hsize hby hzs hsz v l.length _ hs hown ad l2.length c (l2.flatMap f) (by rw [hx, hv2]) (flat_length f size hm l2) (fun j u hj => ?_) (fun u hu => ?_) (by unfold maxLen; omega) hbytes hbase ?_
  ·have hjl : j < l2.length * size := by rw [← flat_length f size hm l2]; exact (List.getElem?_eq_some_iff.1 hj).1
   have hl0 : 0 < l2.length := by
    rcases Nat.eq_zero_or_pos l2.length with h0 | h0
    ·rw [h0] at hjl; omega
    ·exact h0
   obtain ⟨b, o', hA, _, hcc⟩ := hcell hl0
   injection hA with hA
   subst hA
   have hq : j / size < l2.length := Nat.div_lt_of_lt_mul (by rw [Nat.mul_comm]; exact hjl)
   have hr : j % size < size := Nat.mod_lt _ hsz
   have hx' : l2[j / size]? = some l2[j / size] := List.getElem?_eq_getElem hq
   have hj2 : j / size * size + j % size = j := by rw [Nat.mul_comm]; exact Nat.div_add_mod j size
   have hg := flat_get f size hm l2 (j / size) (j % size) _ hx' hr
   rw [hj2, hj] at hg
   have := hcc (j / size) _ (j % size) u hx' hg.symm
   rw [hj2] at this
   rw [Addr.add_lit]
   exact this
  ·obtain ⟨x, hx, hu⟩ := List.mem_flatMap.1 hu
   exact h1 x u hu
  ·intro v' w' hown' hg _
   refine h v' w' ?_ (fun B W hB hW => hW.grown hg (Nat.le_trans hB hbase) (fun k hk => Nat.le_trans hB (hown.lt k hk).1)) hg
   rw [List.length_append, List.flatMap_append]
   exact hown'
def RetOwn {α : Type} (t : TypeId) (f : α → List Value) (m : Nat) (w : World) (l : List α) (e : Ending) (w' : World) : Prop := ∃ v, e = .returned v ∧ OwnE t f m w' w.heap.size v l ∧ Below w.heap.size w w'
theorem cells_at (w : World) (g : Nat) (hg : w.heap.size = g) (xs : List Value) (t : TypeId) : ∀ j u, xs[j]? = some u → (w.alloc (.cells xs.toArray t)).cell? ((⟨g, 0, none⟩ : Addr).add j) = some u := by
 subst hg
 exact cells_new w xs t
end Go.Proofs.YtfkojnofbpdjdaaGreatDoor

namespace Go.Proofs.YtfkojnofbpdjdaaGreatDoor
set_option maxRecDepth 100000
open Go.RowKit
def tkC (x : Tk) : List Value := [.int .i64 x.k, .string x.t, .int .i64 x.d]
theorem tkC_three (x : Tk) : (tkC x).length = 3 := rfl
theorem tkC_one (x : Tk) : ∀ u ∈ tkC x, u.oneCell' = true := by
 intro u hu
 simp [tkC] at hu
 rcases hu with rfl | rfl | rfl <;> rfl
theorem tok_info : (Tryz.prog.info? 127).map (fun i => (i.zero, i.size, i.bytes)) = some (some (.agg #[.int .i64 0, .string ⟨#[]⟩, .int .i64 0]), 3, 32) := by kernel_rfl
theorem item_info : (Tryz.prog.info? 31).map (fun i => (i.zero, i.size, i.bytes)) = some (some (.agg #[.int .i64 0, .string ⟨#[]⟩, .int .i64 0]), 3, 32) := by kernel_rfl
abbrev RdT (w : World) (v : Value) (l : List Tk) : Prop := RdE tkC 3 w v l
abbrev OwnT (e : TypeId) (w : World) (B : Nat) (v : Value) (l : List Tk) : Prop := OwnE e tkC 3 w B v l
theorem RdT.at_ {w : World} {A : Option Addr} {n c : Nat} {l : List Tk} (h : RdT w (.slice A n c) l) (k : Nat) (hk : k < l.length) :
 ∃ b o, A = some ⟨b, o, none⟩ ∧ b < w.heap.size ∧ w.cell? ⟨b, o + k * 3, none⟩ = some (.int .i64 l[k].k) ∧ w.cell? ⟨b, o + k * 3 + 1, none⟩ = some (.string l[k].t) ∧ w.cell? ⟨b, o + k * 3 + 2, none⟩ = some (.int .i64 l[k].d) := by
 obtain ⟨b, o, hA, hb, hx⟩ := RdE.cells h (by omega)
 have hi : l[k]? = some l[k] := List.getElem?_eq_getElem hk
 exact ⟨b, o, hA, hb, hx k _ 0 _ hi rfl, hx k _ 1 _ hi rfl, hx k _ 2 _ hi rfl⟩
def strLen : Value → Nat | .string s => s.size | _ => 0
end Go.Proofs.YtfkojnofbpdjdaaGreatDoor

namespace Go.Proofs.YtfkojnofbpdjdaaGreatDoor
set_option maxRecDepth 100000
open Go.ChangeShapes Go.WideShapes Go.ChangeAt Go.RowKit Go.Deep Go.Joins
theorem wf_i64 {n : Int} (h : (Lit.int .i64 n).wf = true) : -9223372036854775808 ≤ n ∧ n ≤ 9223372036854775807 := by
 simp only [Lit.wf, Bool.and_eq_true, decide_eq_true_eq] at h
 exact h
section
variable {H : Type} {enc : TypeId × Value → H} {P : Program} {w : World} {base : Nat} {spare : Nat → Bool} {held : Bool}
theorem open_rows {α : Type} (f : α → List Value) (m : Nat) (good : α → Prop) {r : Reach} {b0 : Nat} {t e : TypeId} {v : Value} {d : DataW H} {p : List MemPlace} (ht : P.underlying t = some (.slice e)) (hC : P.cellsOf e = m) (hm : ∀ x, (f x).length = m) (hm0 : 0 < m)
 (hel : ∀ n cs x, DataW.trod enc P w base spare held n e cs = some x → ∃ y : α, cs = f y ∧ good y) (hv : Value.okWide P w r b0 t v) (h : DataW.Trod enc P w base spare held t v d p) :
 ∃ (A : Option Addr) (n c : Nat) (l : List α), v = .slice A n c ∧ n = l.length ∧ l.length ≤ maxLen ∧ RdE f m w (.slice A n c) l ∧ ∀ x ∈ l, good x := by
 obtain ⟨A, n, c, rfl⟩ := okWide_slice ht hv
 obtain ⟨fuel, hf⟩ := h
 rcases open_slice ht hf with ⟨h0, _⟩ | ⟨a, len, cap, k, n', D, Pl, hcs, _, hl, hmx, hk, _, hi⟩
 ·simp [Value.cells] at h0
  obtain ⟨rfl, rfl, rfl⟩ := h0
  exact ⟨none, 0, 0, [], rfl, rfl, by simp, RdE.nil, by simp⟩
 ·simp [Value.cells] at hcs
  obtain ⟨rfl, rfl, rfl⟩ := hcs
  have hlk : n ≤ k := by rw [hk]; split <;> omega
  have hall : ∀ i : Fin n, ∃ y : α, good y ∧ ∀ (j : Nat) (u : Value), (f y)[j]? = some u → w.cell? (a.add (i.val * m + j)) = some u := by
   intro i
   obtain ⟨cs', hc, htr⟩ := hi i.val (by omega)
   obtain ⟨y, rfl, hy⟩ := hel _ _ _ htr
   refine ⟨y, hy, fun j u hju => ?_⟩
   obtain ⟨_, hcl, hat⟩ := World.cells?_some hc
   have hjm : j < m := by rw [← hm y]; exact (List.getElem?_eq_some_iff.1 hju).1
   have := hat j (by rw [hC]; exact hjm)
   rw [hju, hC, Go.Deep.add_add] at this
   exact this
  refine ⟨some a, n, c, List.ofFn fun i => Classical.choose (hall i), rfl, by simp, by simp; omega, ?_, ?_⟩
  ·refine ⟨some a, c, by simp, by simp; omega, (fun h => by cases h), fun h0 => ?_⟩
   have hn0 : 0 < n := by simpa using h0
   have hc0 := Classical.choose_spec (hall ⟨0, hn0⟩)
   have h00 : (f (Classical.choose (hall ⟨0, hn0⟩)))[0]? = some _ := List.getElem?_eq_getElem (by rw [hm]; omega)
   have hcell0 := hc0.2 0 _ h00
   obtain ⟨b, o, sp⟩ := a
   have hsp : sp = none := by simpa [Addr.add] using World.cell?_spot hcell0
   subst hsp
   have hbl : b < w.heap.size := by
    unfold World.cell? at hcell0
    split at hcell0
    ·rename_i hh
     have := (Array.getElem?_eq_some_iff.1 hh).1
     rw [Addr.add_lit] at this
     exact this
    ·cases hcell0
   refine ⟨b, o, rfl, hbl, fun i x j u hx hu => ?_⟩
   rw [List.getElem?_ofFn] at hx
   split at hx
   ·rename_i hin
    injection hx with hx
    subst hx
    have := (Classical.choose_spec (hall ⟨i, hin⟩)).2 j u hu
    rw [Addr.add_lit] at this
    exact this
   ·cases hx
  ·intro x hx
   obtain ⟨i, rfl⟩ := List.mem_ofFn.1 hx
   exact (Classical.choose_spec (hall i)).1
end
section
variable {H : Type} {enc : TypeId × Value → H} {w : World} {base : Nat} {spare : Nat → Bool} {held : Bool}
def intC (x : Int) : List Value := [.int .i64 x]
theorem intC_one (x : Int) : (intC x).length = 1 := rfl
def IntIn (x : Int) : Prop := -9223372036854775808 ≤ x ∧ x ≤ 9223372036854775807
theorem open_intl {r : Reach} {b0 : Nat} {v : Value} {d : DataW H} {p : List MemPlace} (hv : Value.okWide Tryz.prog w r b0 22 v) (h : DataW.Trod enc Tryz.prog w base spare held 22 v d p) :
 ∃ (A : Option Addr) (n c : Nat) (l : List Int), v = .slice A n c ∧ n = l.length ∧ l.length ≤ maxLen ∧ RdE intC 1 w (.slice A n c) l ∧ ∀ x ∈ l, IntIn x :=
 open_rows intC 1 IntIn Tryz.underlying22 (by kernel_rfl) intC_one (by decide) (fun n cs x h => by
  obtain ⟨a, e, _, wf⟩ := DataW.trod_int Tryz.underlying3 h
  exact ⟨a, e, wf_i64 wf⟩) hv h
end
end Go.Proofs.YtfkojnofbpdjdaaGreatDoor

namespace Go.Proofs.YtfkojnofbpdjdaaGreatDoor
set_option maxRecDepth 100000
open Go.RowKit
def normStep (out : List Tk) (x : Tk) : List Tk :=
 if x.k ≠ 1 then out ++ [x] else if x.t.size = 0 then out else match out.getLast? with
  | some y => if y.k = 1 then out.dropLast ++ [⟨1, y.t ++ x.t, 0⟩] else out ++ [⟨1, x.t, 0⟩]
  | none => [⟨1, x.t, 0⟩]
def normL (f : List Tk) : List Tk := f.foldl normStep []
theorem normL_snoc (f : List Tk) (x : Tk) : normL (f ++ [x]) = normStep (normL f) x := by simp [normL]
theorem normL_take (f : List Tk) (k : Nat) (h : k < f.length) : normL (f.take (k + 1)) = normStep (normL (f.take k)) f[k] := by
 rw [List.take_succ_eq_append_getElem h, normL_snoc]
theorem step_other (out : List Tk) (x : Tk) (h : x.k ≠ 1) : normStep out x = out ++ [x] := by rw [normStep, if_pos h]
theorem step_empty (out : List Tk) (x : Tk) (h : x.k = 1) (h2 : x.t.size = 0) : normStep out x = out := by
 rw [normStep, if_neg (by omega), if_pos h2]
theorem step_first (x : Tk) (h : x.k = 1) (h2 : x.t.size ≠ 0) : normStep [] x = [⟨1, x.t, 0⟩] := by
 rw [normStep, if_neg (by omega), if_neg h2]
 rfl
theorem step_join (out : List Tk) (y x : Tk) (h : x.k = 1) (h2 : x.t.size ≠ 0) (hy : y.k = 1) : normStep (out ++ [y]) x = out ++ [⟨1, y.t ++ x.t, 0⟩] := by
 rw [normStep, if_neg (by omega), if_neg h2]
 simp [hy]
theorem step_new (out : List Tk) (y x : Tk) (h : x.k = 1) (h2 : x.t.size ≠ 0) (hy : y.k ≠ 1) : normStep (out ++ [y]) x = out ++ [y] ++ [⟨1, x.t, 0⟩] := by
 rw [normStep, if_neg (by omega), if_neg h2]
 simp [hy]
theorem normStep_length (out : List Tk) (x : Tk) : (normStep out x).length ≤ out.length + 1 := by
 unfold normStep
 split
 ·simp
 ·split
  ·omega
  ·split
   ·split
    ·simp; try omega
    ·simp
   ·simp
theorem normL_length (f : List Tk) : (normL f).length ≤ f.length := by
 suffices h : ∀ (g : List Tk) (out : List Tk), (g.foldl normStep out).length ≤ out.length + g.length by
  have := h f []
  simpa [normL] using this
 intro g
 induction g with
 | nil => intro out; simp
 | cons x g ih =>
   intro out
   rw [List.foldl_cons, List.length_cons]
   have h1 := ih (normStep out x)
   have h2 := normStep_length out x
   omega
theorem bytesOf_append (f g : List Tk) : bytesOf (f ++ g) = bytesOf f + bytesOf g := by simp [bytesOf]
theorem bytesOf_one (x : Tk) : bytesOf [x] = x.t.size := by simp [bytesOf]
theorem normStep_bytes (out : List Tk) (x : Tk) : bytesOf (normStep out x) = bytesOf out + x.t.size := by
 by_cases h : x.k = 1
 ·by_cases h2 : x.t.size = 0
  ·rw [step_empty out x h h2]; omega
  ·rcases List.eq_nil_or_concat out with rfl | ⟨o, y, rfl⟩
   ·rw [step_first x h h2]; simp [bytesOf]
   ·rw [List.concat_eq_append]
    by_cases hy : y.k = 1
    ·rw [step_join o y x h h2 hy, bytesOf_append, bytesOf_append, bytesOf_one, bytesOf_one]
     simp
     omega
    ·rw [step_new o y x h h2 hy, bytesOf_append, bytesOf_append, bytesOf_one, bytesOf_one]
 ·rw [step_other out x h, bytesOf_append, bytesOf_one]
theorem normL_bytes (f : List Tk) : bytesOf (normL f) = bytesOf f := by
 suffices h : ∀ (g : List Tk) (out : List Tk), bytesOf (g.foldl normStep out) = bytesOf out + bytesOf g by
  have := h f []
  simpa [normL, bytesOf] using this
 intro g
 induction g with
 | nil => intro out; simp [bytesOf]
 | cons x g ih =>
   intro out
   rw [List.foldl_cons, ih, normStep_bytes, bytesOf_cons]
   omega
def Normal : List Tk → Prop
 | [] => True
 | x :: r => (x.k = 1 → x.t.size ≠ 0 ∧ x.d = 0 ∧ ∀ y, r.head? = some y → y.k ≠ 1) ∧ Normal r
theorem Normal.snoc_other (out : List Tk) (x : Tk) (h : Normal out) (hx : x.k ≠ 1) : Normal (out ++ [x]) := by
 induction out with
 | nil => exact ⟨fun h => absurd h hx, trivial⟩
 | cons y r ih =>
   refine ⟨fun hy => ?_, ih h.2⟩
   obtain ⟨a, b, c⟩ := h.1 hy
   refine ⟨a, b, fun z hz => ?_⟩
   cases r with
   | nil => simp at hz; rw [← hz]; exact hx
   | cons u r => exact c z (by simpa using hz)
theorem Normal.snoc_text (out : List Tk) (y x : Tk) (h : Normal (out ++ [y])) (hy : y.k ≠ 1) (h2 : x.t.size ≠ 0) (h3 : x.d = 0) : Normal (out ++ [y] ++ [x]) := by
 induction out with
 | nil => exact ⟨fun h => absurd h hy, fun _ => ⟨h2, h3, fun z hz => by simp at hz⟩, trivial⟩
 | cons u r ih =>
   refine ⟨fun hu => ?_, ih h.2⟩
   obtain ⟨a, b, c⟩ := h.1 hu
   refine ⟨a, b, fun z hz => c z ?_⟩
   cases r with
   | nil => simpa using hz
   | cons u r => simpa using hz
theorem Normal.replace (out : List Tk) (y x : Tk) (h : Normal (out ++ [y])) (hy : y.k = 1) (_h1 : x.k = 1) (h2 : x.t.size ≠ 0) (h3 : x.d = 0) : Normal (out ++ [x]) := by
 induction out with
 | nil => exact ⟨fun _ => ⟨h2, h3, fun z hz => by simp at hz⟩, trivial⟩
 | cons u r ih =>
   refine ⟨fun hu => ?_, ih h.2⟩
   obtain ⟨a, b, c⟩ := h.1 hu
   refine ⟨a, b, fun z hz => ?_⟩
   cases r with
   | nil => exact absurd hy (c y rfl)
   | cons v r => exact c z (by simpa using hz)
theorem Normal.step (out : List Tk) (x : Tk) (h : Normal out) : Normal (normStep out x) := by
 by_cases hk : x.k = 1
 ·by_cases h2 : x.t.size = 0
  ·rw [step_empty out x hk h2]; exact h
  ·rcases List.eq_nil_or_concat out with rfl | ⟨o, y, rfl⟩
   ·rw [step_first x hk h2]
    exact ⟨fun _ => ⟨h2, rfl, fun z hz => by simp at hz⟩, trivial⟩
   ·rw [List.concat_eq_append] at h ⊢
    by_cases hy : y.k = 1
    ·rw [step_join o y x hk h2 hy]
     exact Normal.replace o y _ h hy rfl (by show (y.t ++ x.t).size ≠ 0; rw [ByteArray.size_append]; omega) rfl
    ·rw [step_new o y x hk h2 hy]
     exact Normal.snoc_text o y _ h hy h2 rfl
 ·rw [step_other out x hk]
  exact Normal.snoc_other out x h hk
theorem normL_normal (f : List Tk) : Normal (normL f) := by
 suffices h : ∀ (g out : List Tk), Normal out → Normal (g.foldl normStep out) from h f [] trivial
 intro g
 induction g with
 | nil => intro out h; exact h
 | cons x g ih => intro out h; exact ih _ (Normal.step out x h)
theorem foldl_normal (f out : List Tk) (h : Normal (out ++ f)) : f.foldl normStep out = out ++ f := by
 induction f generalizing out with
 | nil => simp
 | cons x r ih =>
   have hx : normStep out x = out ++ [x] := by
    by_cases hk : x.k = 1
    ·have hgen : ∀ o : List Tk, Normal (o ++ x :: r) → x.t.size ≠ 0 ∧ x.d = 0 ∧ ∀ p y, o = p ++ [y] → y.k ≠ 1 := by
      intro o
      induction o with
      | nil => intro h; exact ⟨(h.1 hk).1, (h.1 hk).2.1, fun p y e => by simp at e⟩
      | cons u o iho =>
        intro h
        obtain ⟨a, b, c⟩ := iho h.2
        refine ⟨a, b, fun p y e => ?_⟩
        cases p with
        | nil =>
          simp at e
          obtain ⟨rfl, rfl⟩ := e
          intro hu
          exact (h.1 hu).2.2 x rfl hk
        | cons q p =>
          simp at e
          exact c p y e.2
     obtain ⟨a, b, c⟩ := hgen out h
     have hxe : (⟨1, x.t, 0⟩ : Tk) = x := Tk.ext' hk.symm rfl b.symm
     rcases List.eq_nil_or_concat out with rfl | ⟨o, y, rfl⟩
     ·rw [step_first x hk a, hxe]; rfl
     ·rw [List.concat_eq_append]
      rw [step_new o y x hk a (c o y (by rw [List.concat_eq_append])), hxe]
    ·exact step_other out x hk
   rw [List.foldl_cons, hx, ih _ (by rw [List.append_assoc]; exact h), List.append_assoc]
   rfl
theorem normL_of_normal (f : List Tk) (h : Normal f) : normL f = f := by
 have := foldl_normal f [] h
 simpa [normL] using this
end Go.Proofs.YtfkojnofbpdjdaaGreatDoor

namespace Go.Proofs.YtfkojnofbpdjdaaGreatDoor
set_option maxRecDepth 100000
open Go.RowKit
def NoText (out : List Tk) : Prop := ∀ y, out.getLast? = some y → y.k ≠ 1
theorem empty_of_size {a : ByteArray} (h : a.size = 0) : a = ⟨#[]⟩ := by
 apply bytes_ext
 rw [Lib.size_eq] at h
 exact List.eq_nil_of_length_eq_zero h
theorem append_empty (a : ByteArray) : a ++ ⟨#[]⟩ = a := by apply bytes_ext; simp
theorem empty_append (a : ByteArray) : (⟨#[]⟩ : ByteArray) ++ a = a := by apply bytes_ext; simp
theorem append_assoc' (a b c : ByteArray) : a ++ b ++ c = a ++ (b ++ c) := by apply bytes_ext; simp
theorem step_noText (out : List Tk) (t : ByteArray) (d : Int) (h : NoText out) (h0 : t.size ≠ 0) : normStep out ⟨1, t, d⟩ = out ++ [⟨1, t, 0⟩] := by
 rcases List.eq_nil_or_concat out with rfl | ⟨o, y, rfl⟩
 ·exact step_first ⟨1, t, d⟩ rfl h0
 ·rw [List.concat_eq_append] at h ⊢
  exact step_new o y ⟨1, t, d⟩ rfl h0 (h y (by simp))
theorem step_none (out : List Tk) (t : ByteArray) (d : Int) (h0 : t.size = 0) : normStep out ⟨1, t, d⟩ = out := step_empty out ⟨1, t, d⟩ rfl h0
theorem step_assoc (out : List Tk) (a b : ByteArray) (d d' d'' : Int) : normStep (normStep out ⟨1, a, d⟩) ⟨1, b, d'⟩ = normStep out ⟨1, a ++ b, d''⟩ := by
 by_cases ha : a.size = 0
 ·rw [step_none _ _ _ ha, empty_of_size ha, empty_append]
  by_cases hb : b.size = 0
  ·rw [step_none _ _ _ hb, step_none _ _ _ hb]
  ·rcases List.eq_nil_or_concat out with rfl | ⟨o, y, rfl⟩
   ·rw [step_first ⟨1, b, d'⟩ rfl hb, step_first ⟨1, b, d''⟩ rfl hb]
   ·by_cases hy : y.k = 1
    ·rw [List.concat_eq_append, step_join o y ⟨1, b, d'⟩ rfl hb hy, step_join o y ⟨1, b, d''⟩ rfl hb hy]
    ·rw [List.concat_eq_append, step_new o y ⟨1, b, d'⟩ rfl hb hy, step_new o y ⟨1, b, d''⟩ rfl hb hy]
 ·have hab : (a ++ b).size ≠ 0 := by rw [ByteArray.size_append]; omega
  have key : ∀ o z, normStep (o ++ [⟨1, z, 0⟩]) ⟨1, b, d'⟩ = o ++ [⟨1, z ++ b, 0⟩] := by
   intro o z
   by_cases hb : b.size = 0
   ·rw [step_none _ _ _ hb, empty_of_size hb, append_empty]
   ·rw [step_join o ⟨1, z, 0⟩ ⟨1, b, d'⟩ rfl hb rfl]
  rcases List.eq_nil_or_concat out with rfl | ⟨o, y, rfl⟩
  ·rw [step_first ⟨1, a, d⟩ rfl ha, step_first ⟨1, a ++ b, d''⟩ rfl hab]
   exact key [] a
  ·rw [List.concat_eq_append]
   by_cases hy : y.k = 1
   ·rw [step_join o y ⟨1, a, d⟩ rfl ha hy, step_join o y ⟨1, a ++ b, d''⟩ rfl hab hy, key, append_assoc']
   ·rw [step_new o y ⟨1, a, d⟩ rfl ha hy, step_new o y ⟨1, a ++ b, d''⟩ rfl hab hy, key]
end Go.Proofs.YtfkojnofbpdjdaaGreatDoor

namespace Go.Proofs.YtfkojnofbpdjdaaGreatDoor
set_option maxRecDepth 100000
open Go.RowKit
theorem run_appE {P : Program} {w : World} {α : Type} (t ty e : TypeId) (ht : P.underlying t = some (.slice e)) (z : Value) (f : α → List Value) (size bytes : Nat)
 (hinfo : (P.info? e).map (fun i => (i.zero, i.size, i.bytes)) = some (some z, size, bytes)) (hzs : z.cells.size = size) (hsz : 0 < size) (hm : ∀ x, (f x).length = size) (h1 : ∀ x, ∀ u ∈ f x, u.oneCell' = true)
 (base : Nat) (v : Value) (l : List α) (hown : w.ownsRow base e size v l.length (l.flatMap f)) (v2 : Value) (l2 : List α) (hrd : RdE f size w v2 l2)
 (hbytes : (l.length + l2.length) * bytes ≤ 140737488355328) (hb1 : 1 ≤ bytes) (hbase : base ≤ w.heap.size) :
 ∃ v' w', (Builtin.append_ #[t, t] ty #[v, v2]).run P w = .ok v' w' ∧ w'.ownsRow base e size v' (l ++ l2).length ((l ++ l2).flatMap f) ∧ (∀ B W, B ≤ base → Below B W w → Below B W w') ∧ w.grownBy w' v.ownBlock ∧
  (v'.ownBlock = v.ownBlock ∨ v'.ownBlock = some w.heap.size) := by
 obtain ⟨i, hi, hz, hsize, hby⟩ := info_parts hinfo
 have h2 : l.length + l2.length ≤ 140737488355328 := Nat.le_trans (Nat.le_mul_of_pos_right _ hb1) hbytes
 obtain ⟨A, c, hv2, hc, hn, hcell⟩ := hrd
 subst hv2
 rcases A with _ | ad
 ·have hc0 := hn rfl
  have hl2 : l2 = [] := List.eq_nil_of_length_eq_zero (by omega)
  subst hl2 hc0
  exact ⟨v, w, run_append_owned_none (P := P) (w := w) base t ty e i size ht hi v l.length _ hown, by simpa using hown, fun _ _ _ hB => hB, World.grownBy.refl w _, .inl rfl⟩
 ·obtain ⟨v', w', hr, hown', hg, _, hat⟩ := run_append_own_at (P := P) w base t ty e i z size bytes ht hi hz hsize hby hzs hsz v l.length _ hown ad l2.length c (l2.flatMap f) (flat_length f size hm l2) (fun j u hj => by
   have hjl : j < l2.length * size := by rw [← flat_length f size hm l2]; exact (List.getElem?_eq_some_iff.1 hj).1
   have hl0 : 0 < l2.length := by
    rcases Nat.eq_zero_or_pos l2.length with h0 | h0
    ·rw [h0] at hjl; omega
    ·exact h0
   obtain ⟨b, o', hA, _, hcc⟩ := hcell hl0
   injection hA with hA
   subst hA
   have hq : j / size < l2.length := Nat.div_lt_of_lt_mul (by rw [Nat.mul_comm]; exact hjl)
   have hr : j % size < size := Nat.mod_lt _ hsz
   have hx' : l2[j / size]? = some l2[j / size] := List.getElem?_eq_getElem hq
   have hj2 : j / size * size + j % size = j := by rw [Nat.mul_comm]; exact Nat.div_add_mod j size
   have hg := flat_get f size hm l2 (j / size) (j % size) _ hx' hr
   rw [hj2, hj] at hg
   have := hcc (j / size) _ (j % size) u hx' hg.symm
   rw [hj2] at this
   rw [Addr.add_lit]
   exact this) (fun u hu => by
   obtain ⟨x, hx, hu⟩ := List.mem_flatMap.1 hu
   exact h1 x u hu) (by unfold maxLen; omega) hbytes hbase
  refine ⟨v', w', hr, ?_, (fun B W hB hW => hW.grown hg (Nat.le_trans hB hbase) (fun k hk => Nat.le_trans hB (hown.lt k hk).1)), hg, hat⟩
  rw [List.length_append, List.flatMap_append]
  exact hown'
theorem wp_appE {P : Program} {o : Oper} {a : Act} {K : Act → World → Prop} {Q : Exit → Act → World → Prop} {w : World} {α : Type} (s x : Operand) (t e : TypeId)
 (ho : o.op = .call { callee := .builtin .append, args := #[s, x], argTypes := #[t, t] })
 (ht : P.underlying t = some (.slice e)) (z : Value) (f : α → List Value) (size bytes : Nat) (hinfo : (P.info? e).map (fun i => (i.zero, i.size, i.bytes)) = some (some z, size, bytes)) (hzs : z.cells.size = size) (hsz : 0 < size)
 (hm : ∀ x, (f x).length = size) (h1 : ∀ x, ∀ u ∈ f x, u.oneCell' = true)
 (base : Nat) (v : Value) (l : List α) (hs : a.eval s = v) (hown : w.ownsRow base e size v l.length (l.flatMap f))
 (v2 : Value) (l2 : List α) (hx : a.eval x = v2) (hrd : RdE f size w v2 l2)
 (hbytes : (l.length + l2.length) * bytes ≤ 140737488355328) (hb1 : 1 ≤ bytes) (hbase : base ≤ w.heap.size)
 (h : ∀ v' w', w'.ownsRow base e size v' (l ++ l2).length ((l ++ l2).flatMap f) → (∀ B W, B ≤ base → Below B W w → Below B W w') → w.grownBy w' v.ownBlock → (v'.ownBlock = v.ownBlock ∨ v'.ownBlock = some w.heap.size) → K (a.put o.dst v') w') : o.wp P a w K Q := by
 obtain ⟨v', w', hr, h2, h3, h4, h5⟩ := run_appE (P := P) t o.type e ht z f size bytes hinfo hzs hsz hm h1 base v l hown v2 l2 hrd hbytes hb1 hbase
 unfold Oper.wp execOp
 simp only [ho, resolve, invoke, builtin, Sem.run_bind, Sem.run_pure, Result.andThen_ok, List.map_toArray, List.map_cons, List.map_nil, hs, hx, hr]
 exact h v' w' h2 h3 h4 h5
theorem step_appE {P : Program} {ops : Array Oper} {o : Oper} {a : Act} {K : Act → World → Prop} {Q : Exit → Act → World → Prop} {E : Prop} {w : World} {α : Type} (hgd : o.guard = none) (s x : Operand) (t e : TypeId)
 (ho : o.op = .call { callee := .builtin .append, args := #[s, x], argTypes := #[t, t] })
 (ht : P.underlying t = some (.slice e)) (z : Value) (f : α → List Value) (size bytes : Nat) (hinfo : (P.info? e).map (fun i => (i.zero, i.size, i.bytes)) = some (some z, size, bytes)) (hzs : z.cells.size = size) (hsz : 0 < size)
 (hm : ∀ x, (f x).length = size) (h1 : ∀ x, ∀ u ∈ f x, u.oneCell' = true)
 (base : Nat) (v : Value) (l : List α) (hs : a.eval s = v) (hown : w.ownsRow base e size v l.length (l.flatMap f))
 (v2 : Value) (l2 : List α) (hx : a.eval x = v2) (hrd : RdE f size w v2 l2)
 (hbytes : (l.length + l2.length) * bytes ≤ 140737488355328) (hb1 : 1 ≤ bytes) (hbase : base ≤ w.heap.size)
 (h : ∀ v' w', w'.ownsRow base e size v' (l ++ l2).length ((l ++ l2).flatMap f) → (∀ B W, B ≤ base → Below B W w → Below B W w') → w.grownBy w' v.ownBlock → (v'.ownBlock = v.ownBlock ∨ v'.ownBlock = some w.heap.size) → K (a.put o.dst v') w') :
 if Region.wanted o (yielded ops a.tmps) = true then Oper.wp P o a w K Q else E := by
 have hw : Region.wanted o (yielded ops a.tmps) = true := by simp [Region.wanted, hgd]
 rw [if_pos hw]
 exact wp_appE s x t e ho ht z f size bytes hinfo hzs hsz hm h1 base v l hs hown v2 l2 hx hrd hbytes hb1 hbase h
section
variable {α : Type} {e : TypeId} {f : α → List Value} {m : Nat} {w w' : World} {B : Nat} {v : Value} {l : List α}
theorem own_same {size n : Nat} {xs : List Value} (h : w.ownsRow B e size v n xs) (hk : ∀ k, v.ownBlock = some k → w'.heap[k]? = w.heap[k]?) : w'.ownsRow B e size v n xs := by
 refine ⟨h.1, ?_⟩
 rcases h.2 with h0 | ⟨g, cap, cur, hv, hbg, hg, rest⟩
 ·exact .inl h0
 ·refine .inr ⟨g, cap, cur, hv, hbg, ?_, rest⟩
  rw [hk g (by rw [hv]; rfl)]
  exact hg
theorem RdE.take {A : Option Addr} {n c : Nat} (h : RdE f m w (.slice A n c) l) (k : Nat) (hk : k ≤ l.length) : RdE f m w (.slice A k c) (l.take k) := by
 obtain ⟨A', c', hv, hc, hn, hx⟩ := h
 injection hv with h1 h2 h3
 subst h1 h2 h3
 have hlen : (l.take k).length = k := by simp; omega
 refine ⟨A, c, by rw [hlen], by omega, hn, fun h0 => ?_⟩
 obtain ⟨b, o, hA, hb, hcc⟩ := hx (by omega)
 refine ⟨b, o, hA, hb, fun i x j u hi hj => hcc i x j u ?_ hj⟩
 have hik : i < k := by rw [← hlen]; exact (List.getElem?_eq_some_iff.1 hi).1
 rw [List.getElem?_take_of_lt hik] at hi
 exact hi
end
end Go.Proofs.YtfkojnofbpdjdaaGreatDoor

namespace Go.Proofs.YtfkojnofbpdjdaaGreatDoor
set_option maxRecDepth 100000
open Go.RowKit
theorem u8_info : (Tryz.prog.info? 5).map (fun i => (i.zero, i.size, i.bytes)) = some (some (.int .u8 0), 1, 1) := by kernel_rfl
theorem str_cells_append (a b : ByteArray) : Go.Lib.strCells a ++ Go.Lib.strCells b = Go.Lib.strCells (a ++ b) := by
 unfold Go.Lib.strCells
 simp
theorem run_string_own {w : World} {base : Nat} {e : TypeId} {A : Option Addr} {n c : Nat} (s : ByteArray) (src dst : TypeId) (hs : Tryz.prog.underlying src = some (.slice e)) (he : Tryz.prog.underlying e = some (.int .u8)) (hd : Tryz.prog.underlying dst = some .string)
 (h : w.ownsRow base e 1 (.slice A n c) n (Go.Lib.strCells s)) (hn : n = s.size) (h0 : 0 < n) : (convert src dst (.slice A n c)).run Tryz.prog w = .ok (.string s) w := by
 obtain ⟨g, c', hv, _⟩ := own_some h h0
 injection hv with h1 _ h3
 subst h1 h3
 have hl : n = s.data.toList.length := by rw [hn, Lib.size_eq]
 have := run_convert_bytes_back (P := Tryz.prog) w src dst e ⟨g, 0, none⟩ c s.data.toList hs he hd (fun j hj => by
  have hc := h.cells (g := g) rfl j (.int .u8 (s.data.toList[j].toNat : Int)) (by
   unfold Go.Lib.strCells
   rw [List.getElem?_map, List.getElem?_eq_getElem hj]
   rfl)
  exact hc)
 rw [← hl] at this
 exact this
end Go.Proofs.YtfkojnofbpdjdaaGreatDoor

namespace Go.Proofs.YtfkojnofbpdjdaaGreatDoor
set_option maxRecDepth 100000
def wdI (x : Tk) : Nat := if x.k = 1 then x.t.size else 1
def lenI : List Tk → Nat
 | [] => 0
 | x :: f => wdI x + lenI f
theorem lenI_app : ∀ (f g : List Tk), lenI (f ++ g) = lenI f + lenI g
 | [], g => by simp [lenI]
 | x :: f, g => by rw [List.cons_append, lenI, lenI, lenI_app f g]; omega
theorem lenI_take (f : List Tk) (k : Nat) (h : k < f.length) : lenI (f.take (k + 1)) = lenI (f.take k) + wdI f[k] := by
 rw [List.take_succ_eq_append_getElem h, lenI_app]
 simp [lenI]
theorem lenI_le (f : List Tk) (k : Nat) : lenI (f.take k) ≤ lenI f := by
 have h := lenI_app (f.take k) (f.drop k)
 rw [List.take_append_drop] at h
 omega
def byI (x : Tk) : List UInt8 := if x.k = 1 then x.t.data.toList else if x.k = 5 then [255] else []
def plI (f : List Tk) : List UInt8 := f.flatMap byI
def plS (f : List Tk) : ByteArray := ⟨(plI f).toArray⟩
theorem plI_take (f : List Tk) (k : Nat) (h : k < f.length) : plI (f.take (k + 1)) = plI (f.take k) ++ byI f[k] := by
 unfold plI
 rw [List.take_succ_eq_append_getElem h, List.flatMap_append]
 simp
theorem plI_app (f g : List Tk) : plI (f ++ g) = plI f ++ plI g := by simp [plI]
theorem byI_len (x : Tk) : (byI x).length ≤ wdI x := by
 unfold byI wdI
 split
 ·simp
 ·split <;> simp
theorem plI_len : ∀ f : List Tk, (plI f).length ≤ lenI f
 | [] => by simp [plI, lenI]
 | x :: f => by
   have h := plI_len f
   have h2 := byI_len x
   rw [show x :: f = [x] ++ f from rfl, plI_app, lenI_app, List.length_append]
   have e : plI [x] = byI x := by simp [plI]
   have e2 : lenI [x] = wdI x := by simp [lenI]
   rw [e, e2]
   omega
theorem plS_size (f : List Tk) : (plS f).size = (plI f).length := by
 show (plI f).toArray.size = _
 simp
theorem plS_text (f : List Tk) (k : Nat) (h : k < f.length) (hk : f[k].k = 1) : plS (f.take k) ++ f[k].t = plS (f.take (k + 1)) := by
 apply ByteArray.ext
 rw [ByteArray.data_append]
 show (plI (f.take k)).toArray ++ f[k].t.data = (plI (f.take (k + 1))).toArray
 rw [plI_take f k h]
 unfold byI
 rw [if_pos hk]
 apply Array.ext'
 simp
theorem plS_slot (f : List Tk) (k : Nat) (h : k < f.length) (hk : f[k].k = 5) : plS (f.take k) ++ ⟨#[255]⟩ = plS (f.take (k + 1)) := by
 apply ByteArray.ext
 rw [ByteArray.data_append]
 show (plI (f.take k)).toArray ++ #[255] = (plI (f.take (k + 1))).toArray
 rw [plI_take f k h]
 unfold byI
 rw [if_neg (by omega), if_pos hk]
 apply Array.ext'
 simp
theorem plS_none (f : List Tk) (k : Nat) (h : k < f.length) (h1 : f[k].k ≠ 1) (h5 : f[k].k ≠ 5) : plS (f.take k) = plS (f.take (k + 1)) := by
 unfold plS
 rw [plI_take f k h]
 unfold byI
 rw [if_neg h1, if_neg h5, List.append_nil]
end Go.Proofs.YtfkojnofbpdjdaaGreatDoor

namespace Go.Proofs.YtfkojnofbpdjdaaGreatDoor
set_option maxRecDepth 100000
open Go.RowKit
section
variable {P : Program} {ops : Array Oper} {w : World} {Q : Act → Prop} {a : Act} {o : Oper} {rest : List Oper}
theorem wpStill_take (hw : Region.wanted o (yielded ops a.tmps) = true) (v : Value) (hv : (execOp a.eval o).run P w = .ok (.value v) w) (h : wpStill P ops w Q rest (a.put o.dst v)) : wpStill P ops w Q (o :: rest) a :=
 wpStill_step fun K hK => by
  rw [if_pos hw]
  unfold Oper.still
  rw [hv, Oper.stillUpon_value]
  exact hK _ h
theorem wpStill_pass (hw : Region.wanted o (yielded ops a.tmps) = false) (h : wpStill P ops w Q rest (a.put o.dst undef)) : wpStill P ops w Q (o :: rest) a :=
 wpStill_step fun K hK => by
  rw [if_neg (by rw [hw]; exact Bool.false_ne_true)]
  exact hK _ h
structure SW (P : Program) (ops : Array Oper) (w : World) (Q : Act → Prop) (rest : List Oper) (a : Act) : Prop where
 out : wpStill P ops w Q rest a
theorem sw_take (d : Option Tmp) (hd : o.dst = d) (hw : Region.wanted o (yielded ops a.tmps) = true) (v : Value) (hv : (execOp a.eval o).run P w = .ok (.value v) w) (h : SW P ops w Q rest (a.put d v)) : SW P ops w Q (o :: rest) a := by
 subst hd
 exact ⟨wpStill_take hw v hv h.out⟩
theorem sw_pass (d : Option Tmp) (hd : o.dst = d) (hw : Region.wanted o (yielded ops a.tmps) = false) (h : SW P ops w Q rest (a.put d undef)) : SW P ops w Q (o :: rest) a := by
 subst hd
 exact ⟨wpStill_pass hw h.out⟩
theorem sw_nil (h : Q a) : SW P ops w Q [] a := ⟨wpStill_nil h⟩
theorem sw_region_tail {id : Nat} {QE : Exit → Act → World → Prop} {l l1 l2 : List Oper} (n : Nat) (hm : P.follows .mixedOrders = true) (hB : Region.lexTailB .any l.toArray n = true) (e1 : l.take n = l1) (e2 : l.drop n = l2)
 (h : SW P l.toArray w.drew (fun a' => wpList P l.toArray QE l2 a' w.drew) l1 a) : (Code.region id l.toArray true).wp P QE a w := by
 subst e1 e2
 exact wp_region_still_tail n hm hB h.out
theorem sw_region {id : Nat} {QE : Exit → Act → World → Prop} {l : List Oper} (hm : P.follows .mixedOrders = true) (hB : Region.lexB .any l.toArray = true)
 (h : SW P l.toArray w.drew (fun a' => QE .normal a' w.drew) l a) : (Code.region id l.toArray true).wp P QE a w :=
 wp_region_still_lit hm hB h.out
theorem ex_move (x : Operand) (v : Value) (ho : o.op = .move x) (hx : a.eval x = v) : (execOp a.eval o).run P w = .ok (.value v) w := by
 unfold execOp
 simp only [ho, hx]
 rfl
theorem ex_assign (x : Operand) (v : Value) (ho : o.op = .assign x) (hx : a.eval x = v) : (execOp a.eval o).run P w = .ok (.value v) w := by
 unfold execOp
 simp only [ho, hx]
 rfl
theorem ex_pick (c x y : Operand) (b : Bool) (vx vy : Value) (ho : o.op = .pick c x y) (hc : a.eval c = .bool b) (hx : a.eval x = vx) (hy : a.eval y = vy) : (execOp a.eval o).run P w = .ok (.value (if b = true then vx else vy)) w := by
 unfold execOp
 simp only [ho, hx, hy, hc]
 rfl
theorem ex_indexAddr (t : TypeId) (x i : Operand) (vx vi v : Value) (ho : o.op = .indexAddr t x i) (hx : a.eval x = vx) (hi : a.eval i = vi) (hr : (Instr.indexAt t vx vi).run P w = .ok v w) : (execOp a.eval o).run P w = .ok (.value v) w := by
 unfold execOp
 simp only [ho, hx, hi, Sem.run_bind, hr, Result.andThen_ok, Sem.run_pure]
theorem ex_fieldAddr (t : TypeId) (x : Operand) (f : Nat) (vx v : Value) (ho : o.op = .fieldAddr t x f) (hx : a.eval x = vx) (hr : (Instr.fieldAt t vx f).run P w = .ok v w) : (execOp a.eval o).run P w = .ok (.value v) w := by
 unfold execOp
 simp only [ho, hx, Sem.run_bind, hr, Result.andThen_ok, Sem.run_pure]
theorem ex_load (t : TypeId) (x : Operand) (vx v : Value) (ho : o.op = .load t x) (hx : a.eval x = vx) (hr : (Instr.loadAt t vx).run P w = .ok v w) : (execOp a.eval o).run P w = .ok (.value v) w := by
 unfold execOp
 simp only [ho, hx, Sem.run_bind, hr, Result.andThen_ok, Sem.run_pure]
theorem ex_index (t : TypeId) (x i : Operand) (vx vi v : Value) (ho : o.op = .index t x i) (hx : a.eval x = vx) (hi : a.eval i = vi) (hr : (Instr.index t vx vi).run P w = .ok v w) : (execOp a.eval o).run P w = .ok (.value v) w := by
 unfold execOp
 simp only [ho, hx, hi, Sem.run_bind, hr, Result.andThen_ok, Sem.run_pure]
theorem ex_binOp (op : BinOp) (t t2 : TypeId) (x y : Operand) (vx vy v : Value) (ho : o.op = .binOp op t x y t2) (hx : a.eval x = vx) (hy : a.eval y = vy) (hr : (do eqGuard op t x y vx vy; Go.binOp op t vx vy : Sem Value).run P w = .ok v w) : (execOp a.eval o).run P w = .ok (.value v) w := by
 unfold execOp
 simp only [ho, hx, hy]
 rw [Sem.run_bind, hr]
 rfl
theorem wp_region_at {QE : Exit → Act → World → Prop} {id : Nat} (n : Nat) (l0 : Array Bool) (hn : ops.size = n) (hl : Array.replicate n false = l0) (hm : P.follows .mixedOrders = true)
 (h : wpAny P .any ops QE n l0 a w.drew) : (Code.region id ops true).wp P QE a w := by
 subst hn hl
 exact wp_region_any hm h
theorem at_drop {i : Nat} {oi : Oper} {rs : List Oper} (h : ops.toList.drop i = oi :: rs) : ops[i]? = some oi := by
 rw [← Array.getElem?_toList]
 have := congrArg (fun l => l[0]?) h
 simpa using this
theorem wpAny_at {md : Region.Mode} {QE : Exit → Act → World → Prop} {i : Nat} {oi : Oper} (d : Option Tmp) {v : Value} {fuel : Nat} {listed : Array Bool} {rs : List Oper} (hi0 : ops.toList.drop i = oi :: rs) (hd : oi.dst = d)
 (hs : Region.noSelect ops = true) (hf : Region.free md ops listed i = true) (hr : (Region.ready md ops listed).contains i = true)
 (hQ : ∀ c a w, QE (.panic c) (a.put oi.dst v) w → QE (.panic c) a w) (hw : Region.wanted oi (yielded ops a.tmps) = true) (hv : ∀ w, (execOp a.eval oi).run P w = .ok (.value v) w)
 (h : wpAny P md ops QE fuel (listed.setIfInBounds i true) (a.put d v) w) : wpAny P md ops QE (fuel + 1) listed a w := by
 subst hd
 have hi := at_drop hi0
 exact wpAny_take hi hs hf hr hQ (Or.inl ⟨hw, hv⟩) h
theorem wpAny_only {md : Region.Mode} {QE : Exit → Act → World → Prop} (i : Nat) {oi : Oper} {fuel : Nat} {listed : Array Bool} {rs : List Oper} (hr : Region.ready md ops listed = [i]) (hi : ops.toList.drop i = oi :: rs) (hw : Region.wanted oi (yielded ops a.tmps) = true)
 (h : Oper.wp P oi a w (wpAny P md ops QE fuel (listed.setIfInBounds i true)) QE) : wpAny P md ops QE (fuel + 1) listed a w :=
 wpAny_ready hr (by simp) (AllReady.cons (at_drop hi) (fun K hK => by rw [if_pos hw]; exact Oper.wp_mono hK h) AllReady.nil)
theorem wpAny_two {md : Region.Mode} {QE : Exit → Act → World → Prop} (i j : Nat) {oi oj : Oper} {fuel : Nat} {listed : Array Bool} {rs rs2 : List Oper} (hr : Region.ready md ops listed = [i, j]) (hi : ops.toList.drop i = oi :: rs) (hj : ops.toList.drop j = oj :: rs2) (hwi : Region.wanted oi (yielded ops a.tmps) = true) (hwj : Region.wanted oj (yielded ops a.tmps) = true)
 (h1 : Oper.wp P oi a w (wpAny P md ops QE fuel (listed.setIfInBounds i true)) QE) (h2 : Oper.wp P oj a w (wpAny P md ops QE fuel (listed.setIfInBounds j true)) QE) : wpAny P md ops QE (fuel + 1) listed a w :=
 wpAny_ready hr (by simp) (AllReady.cons (at_drop hi) (fun K hK => by rw [if_pos hwi]; exact Oper.wp_mono hK h1) (AllReady.cons (at_drop hj) (fun K hK => by rw [if_pos hwj]; exact Oper.wp_mono hK h2) AllReady.nil))
theorem wpAny_load {md : Region.Mode} {QE : Exit → Act → World → Prop} (i : Nat) (d : Option Tmp) {oi : Oper} {fuel : Nat} {listed : Array Bool} {rs : List Oper} (hr : Region.ready md ops listed = [i]) (hi : ops.toList.drop i = oi :: rs) (hd : oi.dst = d) (hw : Region.wanted oi (yielded ops a.tmps) = true)
 (ty : TypeId) (x : Operand) (ho : oi.op = .load ty x) (b o : Nat) (hx : a.eval x = .pointer (some ⟨b, o, none⟩)) (cs : List Value) (dd : TypeDesc) (hc : w.rangeAt b o cs) (hu : P.underlying ty = some dd) (hdd : dd.isRow = true) (hsz : (P.info? ty).map (·.size) = some cs.length)
 (h : wpAny P md ops QE fuel (listed.setIfInBounds i true) (a.put d (.agg cs.toArray)) w) : wpAny P md ops QE (fuel + 1) listed a w := by
 subst hd
 exact wpAny_only i hr hi hw (wp_load_mid ty x ho b o hx cs dd hc hu hdd hsz h)
theorem wpAny_loads {md : Region.Mode} {QE : Exit → Act → World → Prop} (i j : Nat) (d e : Option Tmp) {oi oj : Oper} {fuel : Nat} {listed : Array Bool} {rs rs2 : List Oper} (hr : Region.ready md ops listed = [i, j]) (hi : ops.toList.drop i = oi :: rs) (hj : ops.toList.drop j = oj :: rs2) (hd : oi.dst = d) (he : oj.dst = e)
 (hwi : Region.wanted oi (yielded ops a.tmps) = true) (hwj : Region.wanted oj (yielded ops a.tmps) = true)
 (ty : TypeId) (x : Operand) (ho : oi.op = .load ty x) (b o : Nat) (hx : a.eval x = .pointer (some ⟨b, o, none⟩)) (cs : List Value) (dd : TypeDesc) (hc : w.rangeAt b o cs) (hu : P.underlying ty = some dd) (hdd : dd.isRow = true) (hsz : (P.info? ty).map (·.size) = some cs.length)
 (ty2 : TypeId) (x2 : Operand) (ho2 : oj.op = .load ty2 x2) (b2 o2 : Nat) (hx2 : a.eval x2 = .pointer (some ⟨b2, o2, none⟩)) (cs2 : List Value) (dd2 : TypeDesc) (hc2 : w.rangeAt b2 o2 cs2) (hu2 : P.underlying ty2 = some dd2) (hdd2 : dd2.isRow = true) (hsz2 : (P.info? ty2).map (·.size) = some cs2.length)
 (h1 : wpAny P md ops QE fuel (listed.setIfInBounds i true) (a.put d (.agg cs.toArray)) w) (h2 : wpAny P md ops QE fuel (listed.setIfInBounds j true) (a.put e (.agg cs2.toArray)) w) : wpAny P md ops QE (fuel + 1) listed a w := by
 subst hd he
 exact wpAny_two i j hr hi hj hwi hwj (wp_load_mid ty x ho b o hx cs dd hc hu hdd hsz h1) (wp_load_mid ty2 x2 ho2 b2 o2 hx2 cs2 dd2 hc2 hu2 hdd2 hsz2 h2)
theorem wpAny_store {md : Region.Mode} {QE : Exit → Act → World → Prop} (i : Nat) {oi : Oper} {fuel : Nat} {listed : Array Bool} {rs : List Oper} (hr : Region.ready md ops listed = [i]) (hi : ops.toList.drop i = oi :: rs) (hd : oi.dst = none) (hw : Region.wanted oi (yielded ops a.tmps) = true)
 (ty : TypeId) (x y : Operand) (ho : oi.op = .store ty x y) (b o : Nat) (cells : List Value) (hx : a.eval x = .pointer (some ⟨b, o, none⟩)) (hy : a.eval y = .agg cells.toArray) (ht : w.there b o cells.length) (hsz : (P.info? ty).map (·.size) = some cells.length) (h1 : cells.toArray.all (·.oneCell') = true)
 (h : wpAny P md ops QE fuel (listed.setIfInBounds i true) a (w.setCells b o cells)) : wpAny P md ops QE (fuel + 1) listed a w := by
 refine wpAny_only i hr hi hw (wp_store_mid ty x y ho b o cells.toArray hx hy (by simpa using ht) (by simpa using hsz) h1 ?_)
 rw [hd]
 exact h
theorem wpAny_val {md : Region.Mode} {QE : Exit → Act → World → Prop} (i : Nat) (d : Option Tmp) (v : Value) {oi : Oper} {fuel : Nat} {listed : Array Bool} {rs : List Oper} (hr : Region.ready md ops listed = [i]) (hi : ops.toList.drop i = oi :: rs) (hd : oi.dst = d) (hw : Region.wanted oi (yielded ops a.tmps) = true)
 (hv : (execOp a.eval oi).run P w = .ok (.value v) w) (h : wpAny P md ops QE fuel (listed.setIfInBounds i true) (a.put d v) w) : wpAny P md ops QE (fuel + 1) listed a w := by
 subst hd
 refine wpAny_only i hr hi hw ?_
 show Oper.upon _ _ _ _ _ _
 rw [hv]
 exact h
theorem wpAny_skip {md : Region.Mode} {QE : Exit → Act → World → Prop} (i : Nat) (d : Option Tmp) {oi : Oper} {fuel : Nat} {listed : Array Bool} {rs : List Oper} (hi0 : ops.toList.drop i = oi :: rs) (hd : oi.dst = d)
 (hs : Region.noSelect ops = true) (hf : Region.free md ops listed i = true) (hr : (Region.ready md ops listed).contains i = true)
 (hQ : ∀ c a w, QE (.panic c) (a.put oi.dst undef) w → QE (.panic c) a w) (hw : Region.wanted oi (yielded ops a.tmps) = false)
 (h : wpAny P md ops QE fuel (listed.setIfInBounds i true) (a.put d undef) w) : wpAny P md ops QE (fuel + 1) listed a w := by
 subst hd
 exact wpAny_take (at_drop hi0) hs hf hr hQ (Or.inr ⟨hw, rfl⟩) h
theorem wpAny_call {md : Region.Mode} {QE : Exit → Act → World → Prop} (i : Nat) (d : Option Tmp) {oi : Oper} {fuel : Nat} {listed : Array Bool} {rs : List Oper} (hr : Region.ready md ops listed = [i]) (hi : ops.toList.drop i = oi :: rs) (hd : oi.dst = d) (hw : Region.wanted oi (yielded ops a.tmps) = true)
 (f : FuncId) (vs : Array Value) (hrun : (execOp a.eval oi).run P w = .ok (.enter f vs) w) {Post : Ending → World → Prop} (hc : Calls P f vs w Post)
 (h : ∀ e w', Post e w' → ∃ v, e = .returned v ∧ wpAny P md ops QE fuel (listed.setIfInBounds i true) (a.put d v) w') : wpAny P md ops QE (fuel + 1) listed a w := by
 subst hd
 refine wpAny_only i hr hi hw ?_
 show Oper.upon _ _ _ _ _ _
 rw [hrun, Oper.upon_enter]
 refine hc.mono fun e w' hp => ?_
 obtain ⟨v, rfl, hv⟩ := h e w' hp
 exact hv
theorem Any.wanted_pos {p q : Prop} {c : Bool} (hc : c = true) (h : p) : if c = true then p else q := by
 rw [if_pos hc]
 exact h
end
end Go.Proofs.YtfkojnofbpdjdaaGreatDoor

namespace Go.Proofs.YtfkojnofbpdjdaaGreatDoor
set_option maxRecDepth 100000
open Go.RowKit
section
variable {P : Program} {ops : Array Oper} {w : World} {a : Act}
theorem wp_of_val {o : Oper} {v : Value} {K : Act → World → Prop} {QE : Exit → Act → World → Prop} (hv : (execOp a.eval o).run P w = .ok (.value v) w) (h : K (a.put o.dst v) w) : Oper.wp P o a w K QE := by
 show Oper.upon _ _ _ _ _ _
 rw [hv]
 exact h
theorem wp_of_call {o : Oper} {f : FuncId} {vs : Array Value} {K : Act → World → Prop} {QE : Exit → Act → World → Prop} (hrun : (execOp a.eval o).run P w = .ok (.enter f vs) w) {Post : Ending → World → Prop} (hc : Calls P f vs w Post)
 (h : ∀ e w', Post e w' → ∃ v, e = .returned v ∧ K (a.put o.dst v) w') : Oper.wp P o a w K QE := by
 show Oper.upon _ _ _ _ _ _
 rw [hrun, Oper.upon_enter]
 refine hc.mono fun e w' hp => ?_
 obtain ⟨v, rfl, hv⟩ := h e w' hp
 exact hv
theorem wpAny_vals {md : Region.Mode} {QE : Exit → Act → World → Prop} (i j : Nat) (d e : Option Tmp) (v u : Value) {oi oj : Oper} {fuel : Nat} {listed : Array Bool} {rs rs2 : List Oper} (hr : Region.ready md ops listed = [i, j]) (hi : ops.toList.drop i = oi :: rs) (hj : ops.toList.drop j = oj :: rs2) (hd : oi.dst = d) (he : oj.dst = e)
 (hwi : Region.wanted oi (yielded ops a.tmps) = true) (hwj : Region.wanted oj (yielded ops a.tmps) = true) (hv : (execOp a.eval oi).run P w = .ok (.value v) w) (hu : (execOp a.eval oj).run P w = .ok (.value u) w)
 (h1 : wpAny P md ops QE fuel (listed.setIfInBounds i true) (a.put d v) w) (h2 : wpAny P md ops QE fuel (listed.setIfInBounds j true) (a.put e u) w) : wpAny P md ops QE (fuel + 1) listed a w := by
 subst hd he
 exact wpAny_two i j hr hi hj hwi hwj (wp_of_val hv h1) (wp_of_val hu h2)
theorem wpAny_callval {md : Region.Mode} {QE : Exit → Act → World → Prop} (i j : Nat) (d e : Option Tmp) (u : Value) {oi oj : Oper} {fuel : Nat} {listed : Array Bool} {rs rs2 : List Oper} (hr : Region.ready md ops listed = [i, j]) (hi : ops.toList.drop i = oi :: rs) (hj : ops.toList.drop j = oj :: rs2) (hd : oi.dst = d) (he : oj.dst = e)
 (hwi : Region.wanted oi (yielded ops a.tmps) = true) (hwj : Region.wanted oj (yielded ops a.tmps) = true) (f : FuncId) (vs : Array Value) (hrun : (execOp a.eval oi).run P w = .ok (.enter f vs) w) {Post : Ending → World → Prop} (hc : Calls P f vs w Post) (hu : (execOp a.eval oj).run P w = .ok (.value u) w)
 (h1 : ∀ e' w', Post e' w' → ∃ v, e' = .returned v ∧ wpAny P md ops QE fuel (listed.setIfInBounds i true) (a.put d v) w') (h2 : wpAny P md ops QE fuel (listed.setIfInBounds j true) (a.put e u) w) : wpAny P md ops QE (fuel + 1) listed a w := by
 subst hd he
 exact wpAny_two i j hr hi hj hwi hwj (wp_of_call hrun hc h1) (wp_of_val hu h2)
end
end Go.Proofs.YtfkojnofbpdjdaaGreatDoor

namespace Go.Proofs.YtfkojnofbpdjdaaGreatDoor
set_option maxRecDepth 100000
open Go.RowKit
section
variable {P : Program} {ops : Array Oper} {w : World} {a : Act} {o : Oper}
theorem ex_slice (t : TypeId) (x : Operand) (lo hi : Option Operand) (vx v : Value) (vlo vhi : Option Value) (ho : o.op = .slice t x lo hi none) (hx : a.eval x = vx) (hl : lo.map a.eval = vlo) (hh : hi.map a.eval = vhi) (hr : (Instr.sliceAt t vx vlo vhi none).run P w = .ok v w) : (execOp a.eval o).run P w = .ok (.value v) w := by
 unfold execOp
 simp only [ho, hx, hl, hh, Option.map_none, Sem.run_bind, hr, Result.andThen_ok, Sem.run_pure]
theorem ex_unOp (op : UnOp) (t : TypeId) (x : Operand) (vx v : Value) (ho : o.op = .unOp op t x) (hx : a.eval x = vx) (hr : (Op.unary op vx).run P w = .ok v w) : (execOp a.eval o).run P w = .ok (.value v) w := by
 unfold execOp
 simp only [ho, hx, Sem.run_bind, hr, Result.andThen_ok, Sem.run_pure]
theorem put_comm (d e : Tmp) (v u : Value) (h : d ≠ e) : (a.put (some e) u).put (some d) v = (a.put (some d) v).put (some e) u := by
 unfold Act.put
 simp only
 rw [Array.setIfInBounds_comm _ _ (fun x => h x.symm)]
theorem wpAny_both {md : Region.Mode} {QE : Exit → Act → World → Prop} (i j : Nat) (d e : Tmp) (v u : Value) {oi oj : Oper} {fuel : Nat} {listed L : Array Bool} {rs rs2 : List Oper} (hr : Region.ready md ops listed = [i, j]) (hri : Region.ready md ops (listed.setIfInBounds i true) = [j]) (hrj : Region.ready md ops (listed.setIfInBounds j true) = [i])
 (hi : ops.toList.drop i = oi :: rs) (hj : ops.toList.drop j = oj :: rs2) (hd : oi.dst = some d) (he : oj.dst = some e) (hde : d ≠ e) (hij : i ≠ j)
 (hwi : Region.wanted oi (yielded ops a.tmps) = true) (hwj : Region.wanted oj (yielded ops a.tmps) = true) (hwi2 : Region.wanted oi (yielded ops (a.put (some e) u).tmps) = true) (hwj2 : Region.wanted oj (yielded ops (a.put (some d) v).tmps) = true)
 (hv : (execOp a.eval oi).run P w = .ok (.value v) w) (hu : (execOp a.eval oj).run P w = .ok (.value u) w) (hv2 : (execOp (a.put (some e) u).eval oi).run P w = .ok (.value v) w) (hu2 : (execOp (a.put (some d) v).eval oj).run P w = .ok (.value u) w)
 (hL : (listed.setIfInBounds i true).setIfInBounds j true = L) (h : wpAny P md ops QE fuel L ((a.put (some d) v).put (some e) u) w) : wpAny P md ops QE (fuel + 1 + 1) listed a w := by
 refine wpAny_vals i j (some d) (some e) v u hr hi hj hd he hwi hwj hv hu ?_ ?_
 ·refine wpAny_val j (some e) u hri hj he hwj2 hu2 ?_
  rw [hL]
  exact h
 ·refine wpAny_val i (some d) v hrj hi hd hwi2 hv2 ?_
  rw [Array.setIfInBounds_comm _ _ (fun x => hij x.symm), hL, put_comm d e v u hde]
  exact h
end
end Go.Proofs.YtfkojnofbpdjdaaGreatDoor

namespace Go.Proofs.YtfkojnofbpdjdaaGreatDoor
set_option maxRecDepth 100000
open Go.RowKit
section
variable {P : Program} {ops : Array Oper} {w : World} {a : Act} {o : Oper}
theorem wp_of_valw {o : Oper} {v : Value} {w2 : World} {K : Act → World → Prop} {QE : Exit → Act → World → Prop} (hv : (execOp a.eval o).run P w = .ok (.value v) w2) (h : K (a.put o.dst v) w2) : Oper.wp P o a w K QE := by
 show Oper.upon _ _ _ _ _ _
 rw [hv]
 exact h
theorem wpAny_valw {md : Region.Mode} {QE : Exit → Act → World → Prop} (i : Nat) (d : Option Tmp) (v : Value) (w2 : World) {oi : Oper} {fuel : Nat} {listed : Array Bool} {rs : List Oper} (hr : Region.ready md ops listed = [i]) (hi : ops.toList.drop i = oi :: rs) (hd : oi.dst = d) (hw : Region.wanted oi (yielded ops a.tmps) = true)
 (hv : (execOp a.eval oi).run P w = .ok (.value v) w2) (h : wpAny P md ops QE fuel (listed.setIfInBounds i true) (a.put d v) w2) : wpAny P md ops QE (fuel + 1) listed a w := by
 subst hd
 exact wpAny_only i hr hi hw (wp_of_valw hv h)
theorem wpAny_ops2 {md : Region.Mode} {QE : Exit → Act → World → Prop} (i j : Nat) {oi oj : Oper} {fuel : Nat} {listed : Array Bool} {r1 r2 : List Oper} (hr : Region.ready md ops listed = [i, j]) (hi : ops.toList.drop i = oi :: r1) (hj : ops.toList.drop j = oj :: r2)
 (hwi : Region.wanted oi (yielded ops a.tmps) = true) (hwj : Region.wanted oj (yielded ops a.tmps) = true)
 (h1 : Oper.wp P oi a w (wpAny P md ops QE fuel (listed.setIfInBounds i true)) QE) (h2 : Oper.wp P oj a w (wpAny P md ops QE fuel (listed.setIfInBounds j true)) QE) : wpAny P md ops QE (fuel + 1) listed a w :=
 wpAny_ready hr (by simp) (AllReady.cons (at_drop hi) (fun K hK => by rw [if_pos hwi]; exact Oper.wp_mono hK h1) (AllReady.cons (at_drop hj) (fun K hK => by rw [if_pos hwj]; exact Oper.wp_mono hK h2) AllReady.nil))
theorem wpAny_ops3 {md : Region.Mode} {QE : Exit → Act → World → Prop} (i j k : Nat) {oi oj ok : Oper} {fuel : Nat} {listed : Array Bool} {r1 r2 r3 : List Oper} (hr : Region.ready md ops listed = [i, j, k]) (hi : ops.toList.drop i = oi :: r1) (hj : ops.toList.drop j = oj :: r2) (hk : ops.toList.drop k = ok :: r3)
 (hwi : Region.wanted oi (yielded ops a.tmps) = true) (hwj : Region.wanted oj (yielded ops a.tmps) = true) (hwk : Region.wanted ok (yielded ops a.tmps) = true)
 (h1 : Oper.wp P oi a w (wpAny P md ops QE fuel (listed.setIfInBounds i true)) QE) (h2 : Oper.wp P oj a w (wpAny P md ops QE fuel (listed.setIfInBounds j true)) QE) (h3 : Oper.wp P ok a w (wpAny P md ops QE fuel (listed.setIfInBounds k true)) QE) : wpAny P md ops QE (fuel + 1) listed a w :=
 wpAny_ready hr (by simp) (AllReady.cons (at_drop hi) (fun K hK => by rw [if_pos hwi]; exact Oper.wp_mono hK h1) (AllReady.cons (at_drop hj) (fun K hK => by rw [if_pos hwj]; exact Oper.wp_mono hK h2) (AllReady.cons (at_drop hk) (fun K hK => by rw [if_pos hwk]; exact Oper.wp_mono hK h3) AllReady.nil)))
theorem wpAny_lcab {md : Region.Mode} {QE : Exit → Act → World → Prop} (i j k b : Nat) (d e f s : Tmp) (v : Value) (vb : Value → Value) (ob : Obj) {oi oj ok ox : Oper} {fuel : Nat} {listed L : Array Bool} {r1 r2 r3 r4 : List Oper} (fn : FuncId) (vs : Array Value) {Post1 Post2 : Ending → World → Prop}
 (hns : Region.noSelect ops = true) (hr : Region.ready md ops listed = [i, j, k]) (hri : Region.ready md ops (listed.setIfInBounds i true) = [j, k]) (hrj : Region.ready md ops (listed.setIfInBounds j true) = [i, k]) (hrk : Region.ready md ops (listed.setIfInBounds k true) = [i, j])
 (hfij : Region.free md ops ((listed.setIfInBounds i true).setIfInBounds j true) b = true) (hrij : (Region.ready md ops ((listed.setIfInBounds i true).setIfInBounds j true)).contains b = true) (hrijb : Region.ready md ops (((listed.setIfInBounds i true).setIfInBounds j true).setIfInBounds b true) = [k])
 (hrik : Region.ready md ops ((listed.setIfInBounds i true).setIfInBounds k true) = [j]) (hrjk : Region.ready md ops ((listed.setIfInBounds j true).setIfInBounds k true) = [i])
 (hrijk : Region.ready md ops (((listed.setIfInBounds i true).setIfInBounds j true).setIfInBounds k true) = [b])
 (hi : ops.toList.drop i = oi :: r1) (hj : ops.toList.drop j = oj :: r2) (hk : ops.toList.drop k = ok :: r3) (hb : ops.toList.drop b = ox :: r4) (hd : oi.dst = some d) (he : oj.dst = some e) (hf : ok.dst = some f) (hs : ox.dst = some s) (hde : d ≠ e) (hdf : d ≠ f) (hef : e ≠ f) (hsf : s ≠ f) (hij : i ≠ j) (hik : i ≠ k) (hjk : j ≠ k) (hkb : k ≠ b)
 (hw : ∀ A : Act, Region.wanted oi (yielded ops A.tmps) = true ∧ Region.wanted oj (yielded ops A.tmps) = true ∧ Region.wanted ok (yielded ops A.tmps) = true ∧ Region.wanted ox (yielded ops A.tmps) = true)
 (hQ : ∀ c x A W, QE (.panic c) (Act.put A ox.dst x) W → QE (.panic c) A W)
 (hv : ∀ (A : Act) (W : World), A = a ∨ (∃ u, A = a.put (some e) u) ∨ (∃ p, A = a.put (some f) p) ∨ (∃ u p, A = (a.put (some e) u).put (some f) p) → (W = w ∨ W = w.alloc ob ∨ (∃ e', Post1 e' W) ∨ (∃ e', Post2 e' W) ∨ ∃ e' W1, Post1 e' W1 ∧ W = W1.alloc ob) → (execOp A.eval oi).run P W = .ok (.value v) W)
 (hc : ∀ A : Act, A = a ∨ A = a.put (some d) v ∨ (∃ p, A = a.put (some f) p) ∨ (∃ p, A = (a.put (some d) v).put (some f) p) → ∀ W, (execOp A.eval oj).run P W = .ok (.enter fn vs) W)
 (ha : ∀ (A : Act) (W : World), (execOp A.eval ok).run P W = .ok (.value (.pointer (some ⟨W.heap.size, 0, none⟩))) (W.alloc ob))
 (hvb : ∀ (u : Value) (W0 : World), (Post1 (.returned u) W0 ∨ Post2 (.returned u) W0) → ∀ (A : Act), (A = (a.put (some d) v).put (some e) u ∨ ∃ p, A = ((a.put (some d) v).put (some e) u).put (some f) p) → ∀ W, (execOp A.eval ox).run P W = .ok (.value (vb u)) W)
 (hc1 : Calls P fn vs w Post1) (hc2 : Calls P fn vs (w.alloc ob) Post2)
 (hL : (((listed.setIfInBounds i true).setIfInBounds j true).setIfInBounds k true).setIfInBounds b true = L)
 (h1 : ∀ e' w1, Post1 e' w1 → ∃ u, e' = .returned u ∧ wpAny P md ops QE fuel L ((((a.put (some d) v).put (some e) u).put (some f) (.pointer (some ⟨w1.heap.size, 0, none⟩))).put (some s) (vb u)) (w1.alloc ob))
 (h2 : ∀ e' w1, Post2 e' w1 → ∃ u, e' = .returned u ∧ wpAny P md ops QE fuel L ((((a.put (some d) v).put (some e) u).put (some f) (.pointer (some ⟨w.heap.size, 0, none⟩))).put (some s) (vb u)) w1) :
 wpAny P md ops QE (fuel + 1 + 1 + 1 + 1) listed a w := by
 have hLb : (((listed.setIfInBounds i true).setIfInBounds j true).setIfInBounds b true).setIfInBounds k true = L := by rw [Array.setIfInBounds_comm (xs := (listed.setIfInBounds i true).setIfInBounds j true) _ _ (fun x => hkb x.symm)]; exact hL
 have eji : (listed.setIfInBounds j true).setIfInBounds i true = (listed.setIfInBounds i true).setIfInBounds j true := Array.setIfInBounds_comm _ _ (fun x => hij x.symm)
 have eki : (listed.setIfInBounds k true).setIfInBounds i true = (listed.setIfInBounds i true).setIfInBounds k true := Array.setIfInBounds_comm _ _ (fun x => hik x.symm)
 have ekj : (listed.setIfInBounds k true).setIfInBounds j true = (listed.setIfInBounds j true).setIfInBounds k true := Array.setIfInBounds_comm _ _ (fun x => hjk x.symm)
 have eikj : ((listed.setIfInBounds i true).setIfInBounds k true).setIfInBounds j true = ((listed.setIfInBounds i true).setIfInBounds j true).setIfInBounds k true := Array.setIfInBounds_comm _ _ (fun x => hjk x.symm)
 have ejki : ((listed.setIfInBounds j true).setIfInBounds k true).setIfInBounds i true = ((listed.setIfInBounds i true).setIfInBounds j true).setIfInBounds k true := by
  rw [Array.setIfInBounds_comm (xs := listed.setIfInBounds j true) _ _ (fun x => hik x.symm), eji]
 -- load and call done, the alloc still to come
 have pre : ∀ (u : Value) (w1 : World), Post1 (.returned u) w1 → wpAny P md ops QE fuel L ((((a.put (some d) v).put (some e) u).put (some f) (.pointer (some ⟨w1.heap.size, 0, none⟩))).put (some s) (vb u)) (w1.alloc ob) →
  wpAny P md ops QE (fuel + 1 + 1) ((listed.setIfInBounds i true).setIfInBounds j true) ((a.put (some d) v).put (some e) u) w1 := fun u w1 hp h => by
  refine wpAny_take (at_drop hb) hns hfij hrij (hQ · (vb u)) (Or.inl ⟨(hw _).2.2.2, hvb u w1 (.inl hp) _ (.inl rfl)⟩) ?_
  refine wpAny_only k hrijb hk (hw _).2.2.1 (wp_of_valw (ha _ w1) ?_)
  rw [hs, hf, hLb, put_comm f s _ _ (fun x => hsf x.symm)]
  exact h
 have post : ∀ (u : Value) (p : Value) (W : World), (∃ W0, Post1 (.returned u) W0 ∨ Post2 (.returned u) W0) → wpAny P md ops QE fuel L ((((a.put (some d) v).put (some e) u).put (some f) p).put (some s) (vb u)) W →
  wpAny P md ops QE (fuel + 1) (((listed.setIfInBounds i true).setIfInBounds j true).setIfInBounds k true) (((a.put (some d) v).put (some e) u).put (some f) p) W := fun u p W ⟨W0, hp⟩ h => by
  refine wpAny_val b (some s) (vb u) hrijk hb hs (hw _).2.2.2 (hvb u W0 hp _ (.inr ⟨p, rfl⟩) W) ?_
  rw [hL]
  exact h
 refine wpAny_ops3 i j k hr hi hj hk (hw a).1 (hw a).2.1 (hw a).2.2.1 ?_ ?_ ?_
 ·-- the load first
  refine wp_of_val (hv a w (.inl rfl) (.inl rfl)) ?_
  rw [hd]
  refine wpAny_ops2 j k hri hj hk (hw _).2.1 (hw _).2.2.1 ?_ ?_
  ·refine wp_of_call (hc _ (.inr (.inl rfl)) w) hc1 fun e' w1 hp => ?_
   obtain ⟨u, rfl, h⟩ := h1 e' w1 hp
   refine ⟨u, rfl, ?_⟩
   rw [he]
   exact pre u w1 hp h
  ·refine wp_of_valw (ha _ w) ?_
   rw [hf]
   refine wpAny_only j hrik hj (hw _).2.1 (wp_of_call (hc _ (.inr (.inr (.inr ⟨_, rfl⟩))) _) hc2 fun e' w1 hp => ?_)
   obtain ⟨u, rfl, h⟩ := h2 e' w1 hp
   refine ⟨u, rfl, ?_⟩
   rw [he, eikj, put_comm e f _ _ hef]
   exact post u _ w1 ⟨w1, .inr hp⟩ h
 ·-- the call first
  refine wp_of_call (hc a (.inl rfl) w) hc1 fun e' w1 hp => ?_
  obtain ⟨u, rfl, h⟩ := h1 e' w1 hp
  refine ⟨u, rfl, ?_⟩
  rw [he]
  refine wpAny_ops2 i k hrj hi hk (hw _).1 (hw _).2.2.1 ?_ ?_
  ·refine wp_of_val (hv _ w1 (.inr (.inl ⟨u, rfl⟩)) (.inr (.inr (.inl ⟨_, hp⟩)))) ?_
   rw [hd, eji, put_comm d e _ _ hde]
   exact pre u w1 hp h
  ·refine wp_of_valw (ha _ w1) ?_
   rw [hf]
   refine wpAny_only i hrjk hi (hw _).1 (wp_of_val (hv _ _ (.inr (.inr (.inr ⟨_, _, rfl⟩))) (.inr (.inr (.inr (.inr ⟨_, w1, hp, rfl⟩))))) ?_)
   rw [hd, ejki, put_comm d f _ _ hdf, put_comm d e _ _ hde]
   exact post u _ _ ⟨w1, .inl hp⟩ h
 ·-- the alloc first
  refine wp_of_valw (ha a w) ?_
  rw [hf]
  refine wpAny_ops2 i j hrk hi hj (hw _).1 (hw _).2.1 ?_ ?_
  ·refine wp_of_val (hv _ _ (.inr (.inr (.inl ⟨_, rfl⟩))) (.inr (.inl rfl))) ?_
   rw [hd, eki]
   refine wpAny_only j hrik hj (hw _).2.1 (wp_of_call (hc _ (.inr (.inr (.inr ⟨.pointer (some ⟨w.heap.size, 0, none⟩), by rw [put_comm d f _ _ hdf]⟩))) _) hc2 fun e' w1 hp => ?_)
   obtain ⟨u, rfl, h⟩ := h2 e' w1 hp
   refine ⟨u, rfl, ?_⟩
   rw [he, eikj, put_comm d f _ _ hdf, put_comm e f _ _ hef]
   exact post u _ w1 ⟨w1, .inr hp⟩ h
  ·refine wp_of_call (hc _ (.inr (.inr (.inl ⟨_, rfl⟩))) _) hc2 fun e' w1 hp => ?_
   obtain ⟨u, rfl, h⟩ := h2 e' w1 hp
   refine ⟨u, rfl, ?_⟩
   rw [he, ekj]
   refine wpAny_only i hrjk hi (hw _).1 (wp_of_val (hv _ _ (.inr (.inr (.inr ⟨u, .pointer (some ⟨w.heap.size, 0, none⟩), by rw [put_comm e f _ _ hef]⟩))) (.inr (.inr (.inr (.inl ⟨_, hp⟩))))) ?_)
   rw [hd, ejki, put_comm e f _ _ hef, put_comm d f _ _ hdf, put_comm d e _ _ hde]
   exact post u _ w1 ⟨w1, .inr hp⟩ h
end
end Go.Proofs.YtfkojnofbpdjdaaGreatDoor

namespace Go.Proofs.YtfkojnofbpdjdaaGreatDoor
set_option maxRecDepth 100000
open Go.RowKit
section
variable {P : Program} {ops : Array Oper} {a : Act} {w : World}
def chkA (md : Region.Mode) (ops : Array Oper) (listed : Array Bool) (i : Nat) (oi : Oper) (a : Act) (b : Bool) : Bool :=
 Region.noSelect ops && Region.free md ops listed i && (Region.ready md ops listed).contains i && (Region.wanted oi (yielded ops a.tmps) == b)
theorem chkA_spec {md : Region.Mode} {listed : Array Bool} {i : Nat} {oi : Oper} {b : Bool} (h : chkA md ops listed i oi a b = true) : Region.noSelect ops = true ∧ Region.free md ops listed i = true ∧ (Region.ready md ops listed).contains i = true ∧ Region.wanted oi (yielded ops a.tmps) = b := by
 unfold chkA at h
 simp only [Bool.and_eq_true, beq_iff_eq] at h
 exact ⟨h.1.1.1, h.1.1.2, h.1.2, h.2⟩
theorem zzA {md : Region.Mode} {QE : Exit → Act → World → Prop} (i : Nat) {oi : Oper} (v : Value) {fuel : Nat} {listed : Array Bool} {rs : List Oper} (d : Option Tmp) (hi0 : ops.toList.drop i = oi :: rs)
 (hv : ∀ w, (execOp a.eval oi).run P w = .ok (.value v) w)
 (h : wpAny P md ops QE fuel (listed.setIfInBounds i true) (a.put d v) w)
 (hd : oi.dst = d := by rfl) (hc : chkA md ops listed i oi a true = true := by kernel_rfl) (hQ : ∀ c a w, QE (.panic c) (a.put oi.dst v) w → QE (.panic c) a w := by exact fun _ _ _ h => h) : wpAny P md ops QE (fuel + 1) listed a w := by
 obtain ⟨h1, h2, h3, h4⟩ := chkA_spec hc
 exact wpAny_at d hi0 hd h1 h2 h3 hQ h4 hv h
theorem zzM {md : Region.Mode} {QE : Exit → Act → World → Prop} (i : Nat) {oi : Oper} (v : Value) {fuel : Nat} {listed : Array Bool} {rs : List Oper} (d : Option Tmp) (hi0 : ops.toList.drop i = oi :: rs)
 (h : wpAny P md ops QE fuel (listed.setIfInBounds i true) (a.put d v) w) {x : Operand} (ho : oi.op = .move x := by rfl) (hx : a.eval x = v := by kernel_rfl)
 (hd : oi.dst = d := by rfl) (hc : chkA md ops listed i oi a true = true := by kernel_rfl) (hQ : ∀ c a w, QE (.panic c) (a.put oi.dst v) w → QE (.panic c) a w := by exact fun _ _ _ h => h) : wpAny P md ops QE (fuel + 1) listed a w :=
 zzA i v d hi0 (fun _ => ex_move x v ho hx) h hd hc hQ
theorem zzG {md : Region.Mode} {QE : Exit → Act → World → Prop} (i : Nat) {oi : Oper} (v : Value) {fuel : Nat} {listed : Array Bool} {rs : List Oper} (d : Option Tmp) (hi0 : ops.toList.drop i = oi :: rs)
 (h : wpAny P md ops QE fuel (listed.setIfInBounds i true) (a.put d v) w) {x : Operand} (ho : oi.op = .assign x := by rfl) (hx : a.eval x = v := by kernel_rfl)
 (hd : oi.dst = d := by rfl) (hc : chkA md ops listed i oi a true = true := by kernel_rfl) (hQ : ∀ c a w, QE (.panic c) (a.put oi.dst v) w → QE (.panic c) a w := by exact fun _ _ _ h => h) : wpAny P md ops QE (fuel + 1) listed a w :=
 zzA i v d hi0 (fun _ => ex_assign x v ho hx) h hd hc hQ
theorem zzS {md : Region.Mode} {QE : Exit → Act → World → Prop} (i : Nat) {oi : Oper} {fuel : Nat} {listed : Array Bool} {rs : List Oper} (d : Option Tmp) (hi0 : ops.toList.drop i = oi :: rs)
 (h : wpAny P md ops QE fuel (listed.setIfInBounds i true) (a.put d undef) w)
 (hd : oi.dst = d := by rfl) (hc : chkA md ops listed i oi a false = true := by kernel_rfl) (hQ : ∀ c a w, QE (.panic c) (a.put oi.dst undef) w → QE (.panic c) a w := by exact fun _ _ _ h => h) : wpAny P md ops QE (fuel + 1) listed a w := by
 obtain ⟨h1, h2, h3, h4⟩ := chkA_spec hc
 exact wpAny_skip i d hi0 hd h1 h2 h3 hQ h4 h
end
end Go.Proofs.YtfkojnofbpdjdaaGreatDoor

namespace Go.Proofs.YtfkojnofbpdjdaaGreatDoor
set_option maxRecDepth 100000
def pcI (x : Tk) (a p q : Nat) : List Tk :=
 if x.k ≠ 1 then (if p ≤ a ∧ a < q then [x] else [])
 else if max p a - a < min q (a + x.t.size) - a then [⟨1, x.t.extract (max p a - a) (min q (a + x.t.size) - a), x.d⟩] else []
def slI : List Tk → Nat → Nat → Nat → List Tk
 | [], _, _, _ => []
 | x :: f, a, p, q => pcI x a p q ++ slI f (a + wdI x) p q
theorem slI_app (p q : Nat) : ∀ (f g : List Tk) (a : Nat), slI (f ++ g) a p q = slI f a p q ++ slI g (a + lenI f) p q
 | [], g, a => by simp [slI, lenI]
 | x :: f, g, a => by
   rw [List.cons_append, slI, slI, slI_app p q f g, lenI, List.append_assoc, Nat.add_assoc]
theorem slI_take (f : List Tk) (p q k : Nat) (h : k < f.length) : slI (f.take (k + 1)) 0 p q = slI (f.take k) 0 p q ++ pcI f[k] (lenI (f.take k)) p q := by
 rw [List.take_succ_eq_append_getElem h, slI_app, Nat.zero_add]
 congr 1
 simp [slI]
theorem pcI_len (x : Tk) (a p q : Nat) : (pcI x a p q).length ≤ 1 := by
 unfold pcI
 split
 ·split <;> simp
 ·split <;> simp
theorem slI_len : ∀ (f : List Tk) (a p q : Nat), (slI f a p q).length ≤ f.length
 | [], _, _, _ => Nat.le_refl _
 | x :: f, a, p, q => by
   rw [slI, List.length_append, List.length_cons]
   have h1 := pcI_len x a p q
   have h2 := slI_len f (a + wdI x) p q
   omega
end Go.Proofs.YtfkojnofbpdjdaaGreatDoor

namespace Go.Proofs.YtfkojnofbpdjdaaGreatDoor
set_option maxRecDepth 100000
open Go.RowKit
theorem wp_appR {o : Oper} {a : Act} {K : Act → World → Prop} {Q : Exit → Act → World → Prop} {w : World} {α : Type} (hgd : o.guard = none) (s x : Operand) (t e : TypeId)
 (ho : o.op = .call { callee := .builtin .append, args := #[s, x], argTypes := #[t, t] })
 (ht : Tryz.prog.underlying t = some (.slice e)) (z : Value) (f : α → List Value) (size bytes : Nat) (hinfo : (Tryz.prog.info? e).map (fun i => (i.zero, i.size, i.bytes)) = some (some z, size, bytes)) (hzs : z.cells.size = size) (hsz : 0 < size)
 (hm : ∀ x, (f x).length = size) (h1 : ∀ x, ∀ u ∈ f x, u.oneCell' = true)
 (base : Nat) (v : Value) (l : List α) (hs : a.eval s = v) (hown : w.ownsRow base e size v l.length (l.flatMap f))
 (v2 : Value) (l2 : List α) (hx : a.eval x = v2) (hrd : RdE f size w v2 l2)
 (hbytes : (l.length + l2.length) * bytes ≤ 140737488355328) (hb1 : 1 ≤ bytes) (hbase : base ≤ w.heap.size)
 (h : ∀ v' w', w'.ownsRow base e size v' (l ++ l2).length ((l ++ l2).flatMap f) → (∀ B W, B ≤ base → Below B W w → Below B W w') → w.grownBy w' v.ownBlock → (v'.ownBlock = v.ownBlock ∨ v'.ownBlock = some w.heap.size) → K (a.put o.dst v') w') :
 Oper.wp Tryz.prog o a w K Q := by
 have hh := step_appE (P := Tryz.prog) (ops := #[]) (E := True) (Q := Q) hgd s x t e ho ht z f size bytes hinfo hzs hsz hm h1 base v l hs hown v2 l2 hx hrd hbytes hb1 hbase h
 rw [if_pos (by unfold Region.wanted; rw [hgd])] at hh
 exact hh
theorem rdE_oneR {α : Type} (f : α → List Value) (m : Nat) (_hm : ∀ x, (f x).length = m) (w : World) (g : Nat) (hg : w.heap.size = g) (x : α) (t : TypeId) : RdE f m (w.alloc (.cells (f x).toArray t)) (.slice (some ⟨g, 0, none⟩) 1 1) [x] := by
 subst hg
 refine ⟨some ⟨w.heap.size, 0, none⟩, 1, rfl, by simp, (fun h => by cases h), fun _ => ⟨w.heap.size, 0, rfl, by simp, fun i y j u hi hj => ?_⟩⟩
 have hi0 : i = 0 := by
  have := (List.getElem?_eq_some_iff.1 hi).1
  simpa using this
 subst hi0
 simp at hi
 subst hi
 have := cells_new w (f x) t j u hj
 rw [Addr.add_lit] at this
 simpa using this
theorem bx3 {w : World} {b : Nat} {v0 v1 v2 : Value} {t : TypeId} (h : w.heap[b]? = some (.cells #[v0, v1, v2] t)) :
 w.cell? ⟨b, 0, none⟩ = some v0 ∧ w.cell? ⟨b, 1, none⟩ = some v1 ∧ w.cell? ⟨b, 2, none⟩ = some v2 ∧ w.frozen? ⟨b, 0, none⟩ = false ∧ w.frozen? ⟨b, 1, none⟩ = false ∧ w.frozen? ⟨b, 2, none⟩ = false :=
 ⟨by rw [cell_of_row _ _ 0 _ _ _ h]; rfl, by rw [cell_of_row _ _ 1 _ _ _ h]; rfl, by rw [cell_of_row _ _ 2 _ _ _ h]; rfl, frozen_of_row w b 0 _ _ h, frozen_of_row w b 1 _ _ h, frozen_of_row w b 2 _ _ h⟩
theorem set_rw1 {w : World} {b : Nat} {cs : Array Value} {t : TypeId} (h : w.heap[b]? = some (.cells cs t)) (j : Nat) (u : Value) : (w.setCell ⟨b, j, none⟩ u).heap[b]? = some (.cells (cs.setIfInBounds j u) t) :=
 heap_setCell_same w b j _ _ _ h
theorem ld_strR {w : World} {b o : Nat} {x : ByteArray} (h : w.cell? ⟨b, o, none⟩ = some (.string x)) : (Instr.loadAt 9 (.pointer (some ⟨b, o, none⟩))).run Tryz.prog w = .ok (.string x) w := by
 go_simp
end Go.Proofs.YtfkojnofbpdjdaaGreatDoor

namespace Go.Proofs.YtfkojnofbpdjdaaGreatDoor
set_option maxRecDepth 100000
open Go.RowKit
def SlRet (w : World) (l : List Tk) (e : Ending) (w' : World) : Prop := ∃ v, e = .returned (.tuple #[v, .bool true]) ∧ OwnE 31 tkC 3 w' w.heap.size v l ∧ Below w.heap.size w w'
end Go.Proofs.YtfkojnofbpdjdaaGreatDoor

namespace Go.Proofs.YtfkojnofbpdjdaaGreatDoor
set_option maxRecDepth 100000
open Go.RowKit
theorem iplain_any (f : List Tk) (v : Value) (w : World) (h1 : RdT w v f) (hl : lenI f ≤ 1000000000) (hfl : f.length ≤ 1000000) :
 Calls Tryz.prog 60 #[v] w fun e w' => e = .returned (.string (plS f)) ∧ Below w.heap.size w w' := by
 obtain ⟨A, c, rfl, _, _⟩ := h1.shape
 have H1 := Lib.hid h1
 clear h1
 obtain ⟨i8, hi8, hz8, hs8, hb8⟩ := info_parts u8_info
 have HI8 := Lib.hid hi8
 have HZ8 := Lib.hid hz8
 have HS8 := Lib.hid hs8
 have HB8 := Lib.hid hb8
 clear hi8 hz8 hs8 hb8
 go_enter Tryz.func60, Tryz.ntmps60
 go_wp2_with fail
 obtain ⟨wo, HWO⟩ : ∃ wo, Hid (wo = w) := ⟨w, rfl⟩
 go_loopg [3, 5, 8] f.length (fun gk bv xv jv wr => ∃ (k : Nat) (bs : ByteArray), jv = .int .i64 k ∧ k ≤ f.length ∧ Hid (bs = plS (f.take k)) ∧ Hid (wr.ownsRow w.heap.size 5 1 bv bs.size (Go.Lib.strCells bs)) ∧ Hid (Below w.heap.size w wr) ∧ f.length - k ≤ gk)
 case atStart => exact ⟨0, ⟨#[]⟩, rfl, Nat.zero_le _, by (show _ = _); rw [List.take_zero]; rfl, World.ownsRow_nil _ _ _ _, Below.refl _ _, by omega⟩
 case round =>
  clear HWO
  obtain ⟨k, bs, rfl, hk, HS, HO, HB, hgk⟩ := hrel
  obtain ⟨A2, c2, hv2⟩ := own_shape HO.out
  subst hv2
  have hsz := HB.out.size
  by_cases hkl : k < f.length
  ·have hki : (k : Int) < (f.length : Int) := by omega
   have hk0 : (0 : Int) ≤ (k : Int) := by omega
   obtain ⟨b, o, rfl, hbl, q1, q2, q3⟩ := RdT.at_ H1.out k hkl
   rw [← HB.out.cell (p := ⟨b, o + k * 3, none⟩) hbl] at q1
   rw [← HB.out.cell (p := ⟨b, o + k * 3 + 1, none⟩) hbl] at q2
   rw [← HB.out.cell (p := ⟨b, o + k * 3 + 2, none⟩) hbl] at q3
   have hbl2 : b < wr.heap.size := by omega
   have hss : bs.size ≤ lenI (f.take k) := by
    rw [HS.out, plS_size]
    exact plI_len _
   have hle := lenI_le f (k + 1)
   rw [lenI_take f k hkl] at hle
   have hsl : bs.size + wdI f[k] ≤ 1000000000 := by omega
   unfold wdI at hsl
   clear hle hss
   have c1 := Lib.hid (plS_text f k hkl)
   have c5 := Lib.hid (plS_slot f k hkl)
   have c0 := Lib.hid (plS_none f k hkl)
   rw [← HS.out] at c1 c5 c0
   generalize f[k] = x at q1 q2 q3 hsl c1 c5 c0
   obtain ⟨xk, xt, xd⟩ := x
   simp only at q1 q2 q3 hsl c1 c5 c0
   have HW1 := Lib.hid ((Below.refl wr.heap.size wr).alloc (Nat.le_refl _) (.cells #[.int .i64 xk, .string xt, .int .i64 xd] 31))
   have HX : Hid ((wr.alloc (.cells #[.int .i64 xk, .string xt, .int .i64 xd] 31)).heap[wr.heap.size]? = some (.cells #[.int .i64 xk, .string xt, .int .i64 xd] 31)) := heap_alloc_new wr _
   go_upto_region 5 with fail
   generalize wr.alloc (.cells #[.int .i64 xk, .string xt, .int .i64 xd] 31) = w1 at HW1 HX ⊢
   obtain ⟨g, hg⟩ : ∃ g, Hid (g = wr.heap.size) := ⟨_, rfl⟩
   rw [← hg.out] at HX ⊢
   have hgl : g < w1.heap.size := (Array.getElem?_eq_some_iff.1 HX.out).1
   clear q1 q2 q3
   obtain ⟨x0, x1, x2, _⟩ := bx3 HX.out
   have HO1 := Lib.hid (own_below HO.out HW1.out (Nat.le_refl _))
   have HB1 := Lib.hid (HB.out.trans (HW1.out.mono HB.out.size))
   have hz1 := HB1.out.size
   by_cases hx : xk = 1
   ·subst hx
    simp only [if_true] at hsl
    have hxs : xt.size ≤ 1000000000 := by omega
    go_wp2_with (at_builtin; go_must (refine Go.Lib.wpList_append_own_string _ rfl (.tmp 16) (.tmp 18) 89 9 rfl w.heap.size 5 i8 Tryz.underlying89 Tryz.underlying9 HI8.out HZ8.out HS8.out HB8.out _ bs.size _ rfl (by exact HO1.out) xt rfl (by unfold maxLen; omega) (by omega) (by exact hz1) ?_); intro v7 w7 hown7 hgr7 _)
    have hB7 := HB1.out.grown hgr7 (by exact hz1) (fun q hq => (HO1.out.lt q hq).1)
    rw [str_cells_append] at hown7
    have hown8 : Hid (w7.ownsRow w.heap.size 5 1 v7 (bs ++ xt).size (Go.Lib.strCells (bs ++ xt))) := by
     show World.ownsRow _ _ _ _ _ _ _
     rw [ByteArray.size_append]
     exact hown7
    go_roundg (f.length - (k + 1))
    case measure => omega
    case rel => exact ⟨k + 1, bs ++ xt, rfl, by omega, c1.out (by first | trivial | rfl), hown8.out, hB7, by omega⟩
   ·rw [if_neg hx] at hsl
    have t1 : (xk == 1) = false := by simpa using hx
    by_cases h5 : xk = 5
    ·subst h5
     go_wp2_with (at_builtin; go_must (refine wpList_app1 rfl (.tmp 22) (.tmp 23) 89 5 rfl Tryz.underlying89 _ 1 1 u8_info rfl (by decide) w.heap.size _ bs.size _ rfl (by exact World.ownsRow.alloc HO1.out _) ⟨w1.heap.size, 0, none⟩ 1 [.int .u8 255] rfl rfl (by exact cells_at _ _ rfl _ _) (by intro u hu; rw [List.mem_singleton.1 hu]; rfl) (by omega) (by decide) (by simp; omega) ?_); intro g9 cap9 w9 hown9 hg9 hbel9 hgr9)
     have HB9 := Lib.hid (hbel9 w.heap.size w (Nat.le_refl _) (HB1.out.alloc hz1 _))
     have e255 : Go.Lib.strCells bs ++ [Value.int .u8 255] = Go.Lib.strCells (bs ++ (⟨#[255]⟩ : ByteArray)) := by
      rw [← str_cells_append]
      rfl
     rw [e255] at hown9
     have hown8 : Hid (w9.ownsRow w.heap.size 5 1 (.slice (some ⟨g9, 0, none⟩) (bs.size + 1) cap9) (bs ++ (⟨#[255]⟩ : ByteArray)).size (Go.Lib.strCells (bs ++ (⟨#[255]⟩ : ByteArray)))) := by
      show World.ownsRow _ _ _ _ _ _ _
      rw [ByteArray.size_append]
      exact hown9
     go_roundg (f.length - (k + 1))
     case measure => omega
     case rel => exact ⟨k + 1, bs ++ (⟨#[255]⟩ : ByteArray), rfl, by omega, c5.out (by first | trivial | rfl), hown8.out, HB9.out, by omega⟩
    ·have t5 : (xk == 5) = false := by simpa using h5
     go_wp2_with fail
     go_roundg (f.length - (k + 1))
     case measure => omega
     case rel => exact ⟨k + 1, bs, rfl, by omega, c0.out hx h5, HO1.out, HB1.out, by omega⟩
  ·obtain rfl : k = f.length := by omega
   have e : Hid (bs = plS f) := by (show _ = _); rw [HS.out, List.take_length]
   by_cases h0 : 0 < bs.size
   ·have hcv := run_string_own bs 89 9 Tryz.underlying89 Tryz.underlying5 Tryz.underlying9 HO.out rfl h0
    go_wp2_with fail
    go_ret
    exact ⟨by rw [← e.out]; rfl, HB.out⟩
   ·have hcv : (convert 89 9 (.slice A2 bs.size c2)).run Tryz.prog wr = .ok (.string bs) wr := by
     have hz : bs.size = 0 := by omega
     have hb0 : bs = ⟨#[]⟩ := by
      cases bs with
      | mk d =>
        have : d.size = 0 := hz
        rw [Array.eq_empty_of_size_eq_zero this]
     rw [hz, hb0]
     cases A2 with
     | some a2 => exact run_convert_bytes_back wr 89 9 5 a2 c2 [] Tryz.underlying89 Tryz.underlying5 Tryz.underlying9 (fun j hj => by simp at hj)
     | none =>
       rw [run_convert_bytes_string (P := Tryz.prog) wr 89 9 5 none 0 c2 Tryz.underlying89 Tryz.underlying5 Tryz.underlying9]
       simp [Conv.bytesToString]
       rfl
    go_wp2_with fail
    go_ret
    exact ⟨by rw [← e.out]; rfl, HB.out⟩
end Go.Proofs.YtfkojnofbpdjdaaGreatDoor

namespace Go.Proofs.YtfkojnofbpdjdaaGreatDoor
set_option maxRecDepth 100000
open Go.RowKit
theorem norm_anyL (f : List Tk) (v : Value) (w : World) (hf : RdT w v f) (hl : f.length ≤ 100000) (hbt : lenI f ≤ 1000000) :
 Calls Tryz.prog 104 #[v] w (RetOwn 31 tkC 3 w (normL f)) := by
 obtain ⟨A, c, rfl, _, _⟩ := hf.shape
 have HF := Lib.hid hf
 obtain ⟨i8, hi8, hz8, hs8, hb8⟩ := info_parts u8_info
 have HI8 := Lib.hid hi8
 have HZ8 := Lib.hid hz8
 have HS8 := Lib.hid hs8
 have HB8 := Lib.hid hb8
 clear hf hi8 hz8 hs8 hb8
 go_enter Tryz.func104, Tryz.ntmps104
 go_wp2
 go_loopw [3, 4] (fun ov i wr => ∃ k : Nat, k ≤ f.length ∧ i = .int .i64 k ∧ Hid (OwnT 31 wr w.heap.size ov (normL (f.take k))) ∧ Below w.heap.size w wr ∧ Hid (∀ h : k < f.length, (f[k]'h).k = 1 → NoText (normL (f.take k)))) (fun _ i _ => f.length - (intOf i).toNat)
 case atStart => exact ⟨0, by omega, rfl, OwnE.nil, Below.refl _ _, fun _ _ y hy => by simp [normL] at hy⟩
 case round =>
  obtain ⟨k, hk, rfl, HO, hb, HN⟩ := hrel
  have hsize := hb.size
  obtain ⟨A', c', hv⟩ := own_shape HO.out
  subst hv
  have hol : (normL (f.take k)).length ≤ f.length := by
   have := normL_length (f.take k)
   rw [List.length_take] at this
   omega
  by_cases hkl : k < f.length
  ·obtain ⟨b, o, rfl, hbl, q1, q2, q3⟩ := RdT.at_ HF.out k hkl
   rw [← hb.cell (p := ⟨b, o + k * 3, none⟩) hbl] at q1
   rw [← hb.cell (p := ⟨b, o + k * 3 + 1, none⟩) hbl] at q2
   rw [← hb.cell (p := ⟨b, o + k * 3 + 2, none⟩) hbl] at q3
   have HT := Lib.hid (normL_take f k hkl)
   have HNK := Lib.hid (HN.out hkl)
   generalize hx : f[k] = x at q1 q2 q3 HT HNK
   have HX := Lib.hid hx
   obtain ⟨xk, xt, xd⟩ := x
   simp only at q1 q2 q3
   clear hx
   by_cases h1 : xk = 1
   ·have HNO := Lib.hid (HNK.out h1)
    generalize hout : normL (f.take k) = out at HO hol HNO HT
    have HOUT := Lib.hid hout
    subst h1
    clear hout
    go_wp2_with fail
    obtain ⟨wo, rfl⟩ : ∃ wo : World, wo = wr := ⟨_, rfl⟩
    go_loopw [4, 5] (fun i bv wi => ∃ (j : Nat) (bs : ByteArray), k ≤ j ∧ j ≤ f.length ∧ i = .int .i64 j ∧ bs.size ≤ 1000000 ∧ Hid (bs.size ≤ lenI (f.take j)) ∧ Hid (wi.ownsRow wo.heap.size 5 1 bv bs.size (Go.Lib.strCells bs)) ∧ Hid (Below wo.heap.size wo wi) ∧ Hid (normL (f.take j) = normStep out ⟨1, bs, 0⟩) ∧ Hid (j = k → bs.size = 0)) (fun i _ _ => f.length - (intOf i).toNat)
    case atStart => exact ⟨k, ⟨#[]⟩, by omega, by omega, rfl, by decide, Nat.zero_le _, World.ownsRow_nil _ _ _ _, Below.refl _ _, by rw [step_none _ _ _ rfl]; exact HOUT.out, fun _ => rfl⟩
    case round =>
     obtain ⟨j, bs, hkj, hj, rfl, hbs, HBS, HBV, HBI, HNJ, HJK⟩ := hrel
     obtain ⟨A2, c2, hv2⟩ := own_shape HBV.out
     subst hv2
     have hzi := HBI.out.size
     have HOI := Lib.hid (own_below HO.out HBI.out (Nat.le_refl _))
     have HBW := Lib.hid (hb.trans (HBI.out.mono hsize))
     by_cases hjl : j < f.length
     ·have hlt2 : decide ((j : Int) < (f.length : Int)) = true := by simp; omega
      obtain ⟨b', o', hA', _, p1, p2, p3⟩ := RdT.at_ HF.out j hjl
      injection hA' with hA'
      injection hA' with e1 e2 _
      subst e1 e2
      rw [← HBW.out.cell (p := ⟨b, o + j * 3, none⟩) hbl] at p1
      rw [← HBW.out.cell (p := ⟨b, o + j * 3 + 1, none⟩) hbl] at p2
      rw [← HBW.out.cell (p := ⟨b, o + j * 3 + 2, none⟩) hbl] at p3
      have HTJ := Lib.hid (normL_take f j hjl)
      have hgb := lenI_le f (j + 1)
      rw [lenI_take f j hjl] at hgb
      have HBJ := Lib.hid (lenI_take f j hjl)
      unfold wdI at hgb HBJ
      generalize hy : f[j] = y at p1 p2 p3 HTJ hgb HBJ
      have HY := Lib.hid hy
      obtain ⟨yk, yt, yd⟩ := y
      simp only at p1 p2 p3 hgb
      clear hy
      have hbsz := HBS.out
      by_cases hy1 : yk = 1
      ·subst hy1
       simp only [if_true] at hgb HBJ
       go_wp2_with (at_builtin; go_must (refine Go.Lib.wpList_append_own_string _ rfl (.tmp 37) (.tmp 42) 89 9 rfl wo.heap.size 5 i8 Tryz.underlying89 Tryz.underlying9 HI8.out HZ8.out HS8.out HB8.out _ bs.size _ rfl (by exact HBV.out) yt rfl (by unfold maxLen; omega) (by omega) (by exact HBI.out.size) ?_); intro v7 w7 hown7 hgr7 _)
       have hB7 := HBI.out.grown hgr7 (by exact HBI.out.size) (fun q hq => (HBV.out.lt q hq).1)
       refine ⟨⟨j + 1, bs ++ yt, by omega, by omega, by go_num, by rw [ByteArray.size_append]; omega, ?_, ?_, hB7, ?_, fun h => absurd h (by omega)⟩, by simp [intOf]; try omega⟩
       ·show (bs ++ yt).size ≤ lenI (f.take (j + 1))
        rw [ByteArray.size_append, HBJ.out]
        show bs.size + yt.size ≤ lenI (f.take j) + yt.size
        omega
       ·rw [str_cells_append] at hown7
        rw [ByteArray.size_append]
        exact hown7
       ·show normL (f.take (j + 1)) = normStep out ⟨1, bs ++ yt, 0⟩
        rw [HTJ.out, HNJ.out, step_assoc _ _ _ _ _ 0]
      ·have ty : (yk == 1) = false := by simpa using hy1
       have hjk : k < j := by
        rcases Nat.lt_or_ge k j with h | h
        ·exact h
        ·exfalso
         obtain rfl : j = k := by omega
         have := HX.out
         rw [HY.out] at this
         injection this with e _ _
         exact hy1 e
       by_cases hz : 0 < bs.size
       ·have hcv := run_string_own bs 89 9 Tryz.underlying89 Tryz.underlying5 Tryz.underlying9 HBV.out rfl hz
        go_wp2_with (at_builtin; go_must (refine wpList_app1 rfl (.tmp 49) (.tmp 53) 24 31 rfl Tryz.underlying24 _ 3 32 item_info rfl (by decide) w.heap.size _ out.length (out.flatMap tkC) rfl (by exact World.ownsRow.alloc HOI.out _) ⟨wr.heap.size, 0, none⟩ 1 (tkC ⟨1, bs, 0⟩) rfl rfl (by exact cells_at _ _ rfl _ _) (tkC_one _) (by omega) (by decide) (by simp; omega) ?_); intro g cap w1 hown1 hg1 hbel1 hgr1)
        refine ⟨⟨j, by omega, rfl, ?_, hbel1 _ _ (Nat.le_refl _) (by exact HBW.out.alloc (by omega) _), fun h hk => by rw [HY.out] at hk; exact absurd hk hy1⟩, by simp [intOf]; try omega⟩
        rw [HNJ.out, step_noText _ _ _ HNO.out (by omega)]
        exact OwnE.snoc hown1
       ·have hz0 : bs.size = 0 := by omega
        have HOJ : Hid (normL (f.take j) = out) := by
         show normL (f.take j) = out
         rw [HNJ.out, step_none _ _ _ hz0]
        have HZ0 := Lib.hid hz0
        clear hz0
        go_wp2_with fail
        refine ⟨⟨j, by omega, rfl, ?_, HBW.out, fun h hk => by rw [HY.out] at hk; exact absurd hk hy1⟩, by simp [intOf]; try omega⟩
        rw [HOJ.out]
        exact HOI.out
     ·obtain rfl : j = f.length := by omega
      have hlt2 : decide ((f.length : Int) < (f.length : Int)) = false := by simp
      by_cases hz : 0 < bs.size
      ·have hcv := run_string_own bs 89 9 Tryz.underlying89 Tryz.underlying5 Tryz.underlying9 HBV.out rfl hz
       go_wp2_with (at_builtin; go_must (refine wpList_app1 rfl (.tmp 49) (.tmp 53) 24 31 rfl Tryz.underlying24 _ 3 32 item_info rfl (by decide) w.heap.size _ out.length (out.flatMap tkC) rfl (by exact World.ownsRow.alloc HOI.out _) ⟨wr.heap.size, 0, none⟩ 1 (tkC ⟨1, bs, 0⟩) rfl rfl (by exact cells_at _ _ rfl _ _) (tkC_one _) (by omega) (by decide) (by simp; omega) ?_); intro g cap w1 hown1 hg1 hbel1 hgr1)
       refine ⟨⟨f.length, by omega, rfl, ?_, hbel1 _ _ (Nat.le_refl _) (by exact HBW.out.alloc (by omega) _), fun h => absurd h (by omega)⟩, by simp [intOf]; try omega⟩
       rw [HNJ.out, step_noText _ _ _ HNO.out (by omega)]
       exact OwnE.snoc hown1
      ·have hz0 : bs.size = 0 := by omega
       have HOJ : Hid (normL (f.take f.length) = out) := by
        show normL (f.take f.length) = out
        rw [HNJ.out, step_none _ _ _ hz0]
       have HZ0 := Lib.hid hz0
       clear hz0
       go_wp2_with fail
       refine ⟨⟨f.length, by omega, rfl, ?_, HBW.out, fun h => absurd h (by omega)⟩, by simp [intOf]; try omega⟩
       rw [HOJ.out]
       exact HOI.out
   ·have t1 : (xk != 1) = true := by simpa using h1
    have h1' : xk ≠ 1 := h1
    have H1 := Lib.hid h1'
    clear h1 h1'
    go_wp2_with (at_builtin; go_must (refine wpList_app1 rfl (.tmp 16) (.tmp 21) 24 31 rfl Tryz.underlying24 _ 3 32 item_info rfl (by decide) w.heap.size _ (normL (f.take k)).length ((normL (f.take k)).flatMap tkC) rfl (by exact World.ownsRow.alloc HO.out _) ⟨wr.heap.size, 0, none⟩ 1 (tkC ⟨xk, xt, xd⟩) rfl rfl (by exact cells_at _ _ rfl _ _) (tkC_one _) (by omega) (by decide) (by simp; omega) ?_); intro g cap w1 hown1 hg1 hbel1 hgr1)
    have hst := step_other (normL (f.take k)) ⟨xk, xt, xd⟩ H1.out
    refine ⟨⟨k + 1, by omega, by go_num, ?_, hbel1 _ _ (Nat.le_refl _) (by exact hb.alloc hsize _), fun h _ y hy => ?_⟩, by simp [intOf]; try omega⟩
    ·rw [HT.out, hst]
     exact OwnE.snoc hown1
    ·rw [HT.out, hst] at hy
     simp at hy
     rw [← hy]
     exact H1.out
  ·obtain rfl : k = f.length := by omega
   have he := HO.out
   rw [List.take_length] at he hol ⊢
   have HE := Lib.hid he
   have e0 : decide ((f.length : Int) < (f.length : Int)) = false := by simp
   clear he HO
   go_wp2_with fail
   go_ret
   exact ⟨_, rfl, HE.out, hb⟩
end Go.Proofs.YtfkojnofbpdjdaaGreatDoor

namespace Go.Proofs.YtfkojnofbpdjdaaGreatDoor
set_option maxRecDepth 100000
def psI (x : Tk) : List (Bool × Bool) := if x.k = 1 then List.replicate x.t.size (true, false) else if x.k = 5 then [(true, false)] else if x.k = 3 then [(false, true)] else [(false, false)]
def posI (f : List Tk) : List (Bool × Bool) := f.flatMap psI
def clP : List (Bool × Bool) → Nat
 | [] => 0
 | x :: ps => if x.2 = true then clP ps + 1 else 0
def placeP : List (Bool × Bool) → Nat → Nat
 | ps, 0 => clP ps
 | [], _ + 1 => 0
 | x :: ps, o + 1 => placeP ps (if x.1 = true then o else o + 1) + 1
def placeF (f : List Tk) (o : Int) : Int := if o < 0 ∨ ((plI f).length : Int) < o then -1 else (placeP (posI f) o.toNat : Nat)
theorem posI_app (f g : List Tk) : posI (f ++ g) = posI f ++ posI g := by simp [posI]
theorem posI_one (x : Tk) : posI [x] = psI x := by simp [posI]
theorem psI_len (x : Tk) : (psI x).length = wdI x := by
 unfold psI wdI
 split
 ·simp
 ·split
  ·rfl
  ·split <;> rfl
theorem posI_len : ∀ f : List Tk, (posI f).length = lenI f
 | [] => rfl
 | x :: f => by
   rw [show x :: f = [x] ++ f from rfl, posI_app, posI_one, List.length_append, psI_len, posI_len f, lenI_app]
   simp [lenI]
theorem psI_text (a b : ByteArray) (k1 k2 d : Int) (h1 : k1 = 1) (h2 : k2 = 1) (d1 d2 : Int) : psI ⟨1, a ++ b, d⟩ = psI ⟨k1, a, d1⟩ ++ psI ⟨k2, b, d2⟩ := by
 unfold psI
 subst h1 h2
 simp only [if_true]
 rw [ByteArray.size_append, List.replicate_append_replicate]
theorem posI_step (out : List Tk) (x : Tk) : posI (normStep out x) = posI out ++ psI x := by
 by_cases h : x.k = 1
 ·by_cases h2 : x.t.size = 0
  ·rw [step_empty out x h h2]
   have : psI x = [] := by unfold psI; rw [if_pos h, h2]; rfl
   rw [this, List.append_nil]
  ·have hx : psI ⟨1, x.t, 0⟩ = psI x := by unfold psI; rw [if_pos rfl, if_pos h]
   rcases List.eq_nil_or_concat out with rfl | ⟨l, y, rfl⟩
   ·rw [step_first x h h2, posI_one, hx]
    rfl
   ·rw [List.concat_eq_append]
    by_cases hy : y.k = 1
    ·rw [step_join l y x h h2 hy, posI_app, posI_app, posI_one, posI_one, psI_text y.t x.t y.k x.k 0 hy h y.d x.d, List.append_assoc]
    ·rw [step_new l y x h h2 hy, posI_app, posI_one, hx]
 ·rw [step_other out x h, posI_app, posI_one]
theorem posI_fold : ∀ (f out : List Tk), posI (f.foldl normStep out) = posI out ++ posI f
 | [], out => by simp [posI]
 | x :: f, out => by
   rw [List.foldl_cons, posI_fold f, posI_step, show x :: f = [x] ++ f from rfl, posI_app [x] f, posI_one, List.append_assoc]
theorem posI_norm (f : List Tk) : posI (normL f) = posI f := by
 unfold normL
 rw [posI_fold]
 rfl
def cntP (ps : List (Bool × Bool)) : Nat := (ps.filter (·.1)).length
theorem cntP_app (a b : List (Bool × Bool)) : cntP (a ++ b) = cntP a + cntP b := by simp [cntP]
theorem cntP_item (x : Tk) : cntP (psI x) = (byI x).length := by
 unfold cntP psI byI
 split
 ·rw [List.filter_eq_self.2 (by intro y hy; rw [List.eq_of_mem_replicate hy])]
  simp
 ·split
  ·rfl
  ·split <;> rfl
theorem cntP_pos : ∀ f : List Tk, cntP (posI f) = (plI f).length
 | [] => rfl
 | x :: f => by
   rw [show x :: f = [x] ++ f from rfl, posI_app, posI_one, cntP_app, cntP_item, cntP_pos f, plI_app, List.length_append]
   congr 1
   simp [plI]
end Go.Proofs.YtfkojnofbpdjdaaGreatDoor

namespace Go.Proofs.YtfkojnofbpdjdaaGreatDoor
set_option maxRecDepth 100000
open Go.RowKit
def b2n (p : Nat → Bool) (i : Nat) : Nat := if p i = true then 1 else 0
theorem b2n_le (p : Nat → Bool) (i : Nat) : b2n p i ≤ 1 := by unfold b2n; split <;> omega
def byteOf (p : Nat → Bool) (k : Nat) : Nat := b2n p (8 * k) + 2 * b2n p (8 * k + 1) + 4 * b2n p (8 * k + 2) + 8 * b2n p (8 * k + 3) + 16 * b2n p (8 * k + 4) + 32 * b2n p (8 * k + 5) + 64 * b2n p (8 * k + 6) + 128 * b2n p (8 * k + 7)
theorem byteOf_lt (p : Nat → Bool) (k : Nat) : byteOf p k < 256 := by
 have h0 := b2n_le p (8 * k)
 have h1 := b2n_le p (8 * k + 1)
 have h2 := b2n_le p (8 * k + 2)
 have h3 := b2n_le p (8 * k + 3)
 have h4 := b2n_le p (8 * k + 4)
 have h5 := b2n_le p (8 * k + 5)
 have h6 := b2n_le p (8 * k + 6)
 have h7 := b2n_le p (8 * k + 7)
 unfold byteOf
 omega
theorem byteOf_bit (p : Nat → Bool) (k j : Nat) (hj : j < 8) : byteOf p k / 2 ^ j % 2 = b2n p (8 * k + j) := by
 have h0 := b2n_le p (8 * k)
 have h1 := b2n_le p (8 * k + 1)
 have h2 := b2n_le p (8 * k + 2)
 have h3 := b2n_le p (8 * k + 3)
 have h4 := b2n_le p (8 * k + 4)
 have h5 := b2n_le p (8 * k + 5)
 have h6 := b2n_le p (8 * k + 6)
 have h7 := b2n_le p (8 * k + 7)
 unfold byteOf
 rcases (show j = 0 ∨ j = 1 ∨ j = 2 ∨ j = 3 ∨ j = 4 ∨ j = 5 ∨ j = 6 ∨ j = 7 by omega) with rfl | rfl | rfl | rfl | rfl | rfl | rfl | rfl
 all_goals simp only [Nat.add_zero, show (2 : Nat) ^ 0 = 1 from rfl, show (2 : Nat) ^ 1 = 2 from rfl, show (2 : Nat) ^ 2 = 4 from rfl, show (2 : Nat) ^ 3 = 8 from rfl, show (2 : Nat) ^ 4 = 16 from rfl, show (2 : Nat) ^ 5 = 32 from rfl, show (2 : Nat) ^ 6 = 64 from rfl, show (2 : Nat) ^ 7 = 128 from rfl]
 all_goals omega
/-! ### What the machine's operations do to bits: all bytes tried -/
theorem and_tab : ∀ v : Fin 256, ∀ j : Fin 8, (bits BinOp.and IntKind.u8 (((v.val : Nat) : Int) / 2 ^ j.val) 1 == 1) = (v.val / 2 ^ j.val % 2 == 1) := by decide +kernel
theorem test_bit (p : Nat → Bool) (b : Nat) : (bits BinOp.and IntKind.u8 ((byteOf p (b / 8) : Nat) / 2 ^ (b % 8)) 1 == 1) = p b := by
 have h := and_tab ⟨byteOf p (b / 8), byteOf_lt _ _⟩ ⟨b % 8, Nat.mod_lt _ (by decide)⟩
 simp only at h
 rw [h, byteOf_bit p (b / 8) (b % 8) (Nat.mod_lt _ (by decide)), show 8 * (b / 8) + b % 8 = b by omega]
 unfold b2n
 cases p b <;> rfl
def addP (p : Nat → Bool) (b : Nat) : Nat → Bool := fun n => n == b || p n
def setC (p : Nat → Bool) : List Value := (List.range 32).map fun k => .int .u8 (byteOf p k : Nat)
theorem setC_length (p : Nat → Bool) : (setC p).length = 32 := by simp [setC]
theorem setC_get (p : Nat → Bool) (k : Nat) (h : k < 32) : (setC p)[k]? = some (.int .u8 (byteOf p k : Nat)) := by simp [setC, h]
theorem setC_set (p q : Nat → Bool) (k : Nat) (hk : k < 32) (h : ∀ i, i < 32 → i ≠ k → byteOf q i = byteOf p i) : (setC p).toArray.setIfInBounds k (.int .u8 (byteOf q k : Nat)) = (setC q).toArray := by
 rw [List.setIfInBounds_toArray]
 congr 1
 refine List.ext_getElem? fun i => ?_
 by_cases hi : i < 32
 ·by_cases hik : i = k
  ·subst hik
   rw [List.getElem?_set_self (by rw [setC_length]; exact hk), setC_get q i hi]
  ·rw [List.getElem?_set_ne (fun e => hik e.symm), setC_get p i hi, setC_get q i hi, h i hi hik]
 ·rw [List.getElem?_eq_none (by rw [List.length_set, setC_length]; omega), List.getElem?_eq_none (by rw [setC_length]; omega)]
def noP : Nat → Bool := fun _ => false
end Go.Proofs.YtfkojnofbpdjdaaGreatDoor

namespace Go.Proofs.YtfkojnofbpdjdaaGreatDoor
set_option maxRecDepth 100000
open Go.RowKit
structure At where
 p : Nat → Bool
 mn : Int
 many : Bool
def atC (x : At) : List Value := setC x.p ++ [.int .i64 x.mn, .bool x.many]
theorem atC_len (x : At) : (atC x).length = 34 := by simp [atC, setC_length]
theorem atC_set (x : At) (k : Nat) (h : k < 32) : (atC x)[k]? = some (.int .u8 (byteOf x.p k : Nat)) := by
 unfold atC
 rw [List.getElem?_append_left (by rw [setC_length]; exact h), setC_get x.p k h]
theorem atC_mn (x : At) : (atC x)[32]? = some (.int .i64 x.mn) := by
 unfold atC
 rw [List.getElem?_append_right (by rw [setC_length]; omega), setC_length]
 rfl
theorem atC_many (x : At) : (atC x)[33]? = some (.bool x.many) := by
 unfold atC
 rw [List.getElem?_append_right (by rw [setC_length]; omega), setC_length]
 rfl
theorem at_cell (w : World) (x : At) (t : TypeId) (k : Nat) (v : Value) (h : (atC x)[k]? = some v) : (w.alloc (.cells (atC x).toArray t)).cell? ⟨w.heap.size, k, none⟩ = some v := by
 rw [cell_of_row _ _ _ (atC x).toArray t _ (heap_alloc_new w _)]
 simpa using h
theorem contains_any (x : At) (b : Nat) (w : World) (hb : b < 256) :
 Calls Tryz.prog 152 #[.agg (atC x).toArray, .int .u8 b] w fun e w' => e = .returned (.bool (x.p b)) ∧ Below w.heap.size w w' := by
 have q := at_cell w x 107 (b / 8) _ (atC_set x (b / 8) (by omega))
 have H := Lib.hid (test_bit x.p b)
 have hv := byteOf_lt x.p (b / 8)
 generalize byteOf x.p (b / 8) = v at q H hv
 generalize (atC x).toArray = cs at q ⊢
 go_enter Tryz.func152, Tryz.ntmps152
 go_wp2_with fail
 go_ret
 exact ⟨ret_bool H.out, (Below.refl w.heap.size w).alloc (Nat.le_refl _) _⟩
theorem setC_one (p : Nat → Bool) : (setC p).toArray.all (·.oneCell') = true := by
 rw [Array.all_eq_true_iff_forall_mem]
 intro v hv
 simp [setC] at hv
 obtain ⟨k, _, rfl⟩ := hv
 rfl
end Go.Proofs.YtfkojnofbpdjdaaGreatDoor

namespace Go.Proofs.YtfkojnofbpdjdaaGreatDoor
set_option maxRecDepth 100000
open Go.RowKit
theorem of_any (n : Int) (w : World) (h0 : 0 ≤ n) (h1 : n < 256) :
 Calls Tryz.prog 97 #[.int .u8 n] w fun e w' => e = .returned (.int .i64 (clsN n)) ∧ w = w' := by
 go_enter Tryz.func97, Tryz.ntmps97
 go_wp2
 all_goals (go_ret; refine ⟨ret_int ?_, rfl⟩)
 all_goals (try simp only [beq_iff_eq, beq_eq_false_iff_ne] at *)
 all_goals (unfold clsN; repeat (first | rw [if_pos (by omega)] | rw [if_neg (by omega)]))
end Go.Proofs.YtfkojnofbpdjdaaGreatDoor

namespace Go.Proofs.YtfkojnofbpdjdaaGreatDoor
set_option maxRecDepth 100000
open Go.RowKit
def bt (s : ByteArray) (i : Nat) : Nat := (s.data.toList.getD i 0).toNat
theorem bt_get (s : ByteArray) (i : Nat) (h : i < s.size) : bt s i = s[i].toNat := by
 unfold bt
 have hl : i < s.data.toList.length := by rw [← Lib.size_eq]; exact h
 rw [List.getD_eq_getElem?_getD, List.getElem?_eq_getElem hl]
 rfl
end Go.Proofs.YtfkojnofbpdjdaaGreatDoor

namespace Go.Proofs.YtfkojnofbpdjdaaGreatDoor
set_option maxRecDepth 100000
open Go.RowKit
theorem index_any (s : ByteArray) (b : Nat) (w : World) :
 Calls Tryz.prog 126 #[.string s, .int .u8 b] w fun e w' => e = .returned (.int .i64 (Lib.indexByte s.data.toList (b : Int).toNat.toUInt8)) ∧ w = w' := by
 have C : ∀ w, Calls Tryz.prog 166 #[.string s, .int .u8 b] w fun e w' => e = .returned (.int .i64 (Lib.indexByte s.data.toList (b : Int).toNat.toUInt8)) ∧ w = w' := fun w => by
  go_enter Tryz.func166, Tryz.ntmps166
  go_wp2
  rw [run_callFunc_extern Tryz.func191 (by kernel_rfl) (by kernel_rfl) (by kernel_rfl) (e := Extern.BytealgIndexByte.indexByte) (by kernel_rfl), Lib.run_indexByteString]
  simp only [Result.andThen]
  rw [Oper.upon_value]
  go_wp2
  go_ret
  exact ⟨rfl, rfl⟩
 have HC := Lib.hid C
 clear C
 go_enter Tryz.func126, Tryz.ntmps126
 go_wp2_with (go_at_call 166; refine (HC.out _).mono ?_; rintro e w' ⟨rfl, rfl⟩)
 go_ret
 exact ⟨rfl, rfl⟩
end Go.Proofs.YtfkojnofbpdjdaaGreatDoor

namespace Go.Proofs.YtfkojnofbpdjdaaGreatDoor
set_option maxRecDepth 100000
open Go.RowKit
theorem results_cell_tmp2 {fn : Func} {p u v : Tmp} {ty : TypeId} (h : fn.results = #[.cell p ty, .tmp u, .tmp v]) (tmps : Array Value) (P : Program) (w : World) :
 (results fn tmps).run P w =
   ((asAddr (tmps.getD p undef)).run P w).andThen fun a w₁ => ((loadVar ty a).run P w₁).andThen fun x w₂ => .ok (.tuple #[x, tmps.getD u undef, tmps.getD v undef]) w₂ := by
 simp only [results, h]
 simp [Sem.run_bind, Result.andThen]
end Go.Proofs.YtfkojnofbpdjdaaGreatDoor

namespace Go.Proofs.YtfkojnofbpdjdaaGreatDoor
set_option maxRecDepth 100000
open Go.RowKit
def nxF (x : At) (s : ByteArray) (f : Nat → Bool) : Nat → Bool
 | 0 => false
 | i + 1 => (f i || (x.many && nxF x s f i)) && x.p (bt s i)
def advF (x : At) (s : ByteArray) (f : Nat → Bool) (i : Nat) : Bool := nxF x s f i || (decide (x.mn < 1) && f i)
theorem adv_zero (x : At) (s : ByteArray) (f : Nat → Bool) : advF x s f 0 = (decide (x.mn < 1) && f 0) := by
 unfold advF nxF
 rw [Bool.false_or]
theorem adv_own (x : At) (s : ByteArray) (f : Nat → Bool) (k : Nat) : advF x s f (k + 1) = ((decide (x.mn < 1) && f (k + 1)) || (x.p (bt s k) && (f k || (x.many && advF x s f k)))) := by
 unfold advF
 rw [show nxF x s f (k + 1) = ((f k || (x.many && nxF x s f k)) && x.p (bt s k)) from rfl]
 cases f k <;> cases x.many <;> cases nxF x s f k <;> cases decide (x.mn < 1) <;> cases f (k + 1) <;> cases x.p (bt s k) <;> rfl
def reachF (s : ByteArray) : List At → (Nat → Bool) → Nat → Bool
 | [], f => f
 | x :: p, f => reachF s p (advF x s f)
def startF : Nat → Bool := fun i => i == 0
def allF : Nat → Bool := fun _ => true
def longF (f : Nat → Bool) : Nat → Int
 | 0 => -1
 | n + 1 => if f n = true then (n : Int) else longF f n
def longestF (p : List At) (s : ByteArray) : Int := longF (reachF s p startF) (s.size + 1)
def prefixF (p : List At) (s : ByteArray) : Bool := decide (0 ≤ longestF p s)
def suffixF (p : List At) (s : ByteArray) : Bool := reachF s p allF s.size
end Go.Proofs.YtfkojnofbpdjdaaGreatDoor

namespace Go.Proofs.YtfkojnofbpdjdaaGreatDoor
set_option maxRecDepth 100000
open Go.RowKit
def inA (x : At) (u : List Nat) : Prop := (u = [] ∧ x.mn < 1) ∨ (u ≠ [] ∧ (∀ b ∈ u, x.p b = true) ∧ (u.length = 1 ∨ x.many = true))
def Lang : List At → List Nat → Prop
 | [], u => u = []
 | x :: p, u => ∃ a b, u = a ++ b ∧ inA x a ∧ Lang p b
theorem lang_append : ∀ (p q : List At) (u : List Nat), Lang (p ++ q) u ↔ ∃ a b, u = a ++ b ∧ Lang p a ∧ Lang q b
 | [], q, u => ⟨fun h => ⟨[], u, rfl, rfl, h⟩, fun ⟨a, b, h1, h2, h3⟩ => by
    have h2' : a = [] := h2
    subst h2'
    rw [h1]
    exact h3⟩
 | x :: p, q, u => ⟨fun ⟨a, b, h1, h2, h3⟩ => by
    obtain ⟨c, d, h4, h5, h6⟩ := (lang_append p q b).1 h3
    exact ⟨a ++ c, d, by rw [h1, h4, List.append_assoc], ⟨a, c, rfl, h2, h5⟩, h6⟩, fun ⟨a, b, h1, ⟨c, d, h4, h5, h6⟩, h3⟩ =>
    ⟨c, d ++ b, by rw [h1, h4, List.append_assoc], h5, (lang_append p q (d ++ b)).2 ⟨d, b, rfl, h6, h3⟩⟩⟩
theorem lang_one (x : At) (u : List Nat) : Lang [x] u ↔ inA x u :=
 ⟨fun ⟨a, b, h1, h2, h3⟩ => by
   have h3' : b = [] := h3
   subst h3'
   rw [h1, List.append_nil]
   exact h2, fun h => ⟨u, [], by rw [List.append_nil], h, rfl⟩⟩
theorem inA_rev (x : At) (u : List Nat) : inA x u.reverse ↔ inA x u := by
 unfold inA
 rw [List.length_reverse]
 have e : u.reverse = [] ↔ u = [] := List.reverse_eq_nil_iff
 constructor
 ·rintro (h | ⟨h1, h2, h3⟩)
  ·exact .inl ⟨e.1 h.1, h.2⟩
  ·exact .inr ⟨fun h => h1 (e.2 h), fun b hb => h2 b (List.mem_reverse.2 hb), h3⟩
 ·rintro (h | ⟨h1, h2, h3⟩)
  ·exact .inl ⟨e.2 h.1, h.2⟩
  ·exact .inr ⟨fun h => h1 (e.1 h), fun b hb => h2 b (List.mem_reverse.1 hb), h3⟩
theorem lang_rev_imp : ∀ (p : List At) (u : List Nat), Lang p u → Lang p.reverse u.reverse
 | [], u, h => by
   have h' : u = [] := h
   subst h'
   rfl
 | x :: p, u, ⟨a, b, h1, h2, h3⟩ => by
   rw [List.reverse_cons, h1, List.reverse_append]
   exact (lang_append _ _ _).2 ⟨_, _, rfl, lang_rev_imp p b h3, (lang_one x _).2 ((inA_rev x a).2 h2)⟩
theorem lang_rev (p : List At) (u : List Nat) : Lang p.reverse u.reverse ↔ Lang p u :=
 ⟨fun h => by
   have := lang_rev_imp _ _ h
   rwa [List.reverse_reverse, List.reverse_reverse] at this, lang_rev_imp p u⟩
/-! ### Places -/
def seg (s : ByteArray) (i n : Nat) : List Nat := ((List.range n).drop i).map (bt s)
theorem seg_self (s : ByteArray) (i : Nat) : seg s i i = [] := by unfold seg; rw [List.drop_eq_nil_of_le (by simp)]; rfl
theorem seg_len (s : ByteArray) (i n : Nat) : (seg s i n).length = n - i := by unfold seg; simp
theorem seg_snoc (s : ByteArray) (i n : Nat) (h : i ≤ n) : seg s i (n + 1) = seg s i n ++ [bt s n] := by
 unfold seg
 rw [List.range_succ, List.drop_append_of_le_length (by simpa using h), List.map_append]
 rfl
theorem seg_split (s : ByteArray) (i j n : Nat) (h1 : i ≤ j) (h2 : j ≤ n) : seg s i n = seg s i j ++ seg s j n := by
 induction n with
 | zero =>
   obtain rfl : j = 0 := by omega
   obtain rfl : i = 0 := by omega
   rw [seg_self]; rfl
 | succ n ih =>
   by_cases hj : j = n + 1
   ·subst hj
    rw [seg_self, List.append_nil]
   ·rw [seg_snoc s i n (by omega), seg_snoc s j n (by omega), ih (by omega), List.append_assoc]
theorem nx_lang (x : At) (s : ByteArray) (f : Nat → Bool) : ∀ n, nxF x s f n = true ↔ ∃ i, i < n ∧ f i = true ∧ (∀ b ∈ seg s i n, x.p b = true) ∧ (n - i = 1 ∨ x.many = true)
 | 0 => ⟨fun h => absurd h Bool.false_ne_true, fun ⟨i, h, _⟩ => absurd h (Nat.not_lt_zero i)⟩
 | n + 1 => by
   rw [show nxF x s f (n + 1) = ((f n || (x.many && nxF x s f n)) && x.p (bt s n)) from rfl, Bool.and_eq_true, Bool.or_eq_true, Bool.and_eq_true, nx_lang x s f n]
   constructor
   ·rintro ⟨h | ⟨hm, i, h1, h2, h3, h4⟩, hp⟩
    ·refine ⟨n, by omega, h, fun b hb => ?_, .inl (by omega)⟩
     rw [seg_snoc s n n (Nat.le_refl _), seg_self] at hb
     simp at hb
     rw [hb]
     exact hp
    ·refine ⟨i, by omega, h2, fun b hb => ?_, .inr hm⟩
     rw [seg_snoc s i n (by omega)] at hb
     rcases List.mem_append.1 hb with hb | hb
     ·exact h3 b hb
     ·simp at hb
      rw [hb]
      exact hp
   ·rintro ⟨i, h1, h2, h3, h4⟩
    have hp : x.p (bt s n) = true := h3 _ (by rw [seg_snoc s i n (by omega)]; exact List.mem_append_right _ (by simp))
    refine ⟨?_, hp⟩
    by_cases hi : i = n
    ·subst hi
     exact .inl h2
    ·have hm : x.many = true := by
      rcases h4 with h4 | h4
      ·omega
      ·exact h4
     exact .inr ⟨hm, i, by omega, h2, fun b hb => h3 b (by rw [seg_snoc s i n (by omega)]; exact List.mem_append_left _ hb), .inr hm⟩
theorem adv_lang (x : At) (s : ByteArray) (f : Nat → Bool) (n : Nat) : advF x s f n = true ↔ ∃ i, i ≤ n ∧ f i = true ∧ inA x (seg s i n) := by
 unfold advF
 rw [Bool.or_eq_true, Bool.and_eq_true, decide_eq_true_iff, nx_lang x s f n]
 constructor
 ·rintro (⟨i, h1, h2, h3, h4⟩ | ⟨h1, h2⟩)
  ·refine ⟨i, by omega, h2, .inr ⟨?_, h3, ?_⟩⟩
   ·intro e
    have := seg_len s i n
    rw [e] at this
    simp at this
    omega
   ·rw [seg_len]
    exact h4
  ·exact ⟨n, Nat.le_refl _, h2, .inl ⟨seg_self s n, h1⟩⟩
 ·rintro ⟨i, h1, h2, h3 | ⟨h3, h4, h5⟩⟩
  ·have hi : i = n := by
    have := seg_len s i n
    rw [h3.1] at this
    simp at this
    omega
   subst hi
   exact .inr ⟨h3.2, h2⟩
  ·rw [seg_len] at h5
   refine .inl ⟨i, ?_, h2, h4, h5⟩
   refine Nat.lt_of_le_of_ne h1 fun e => h3 ?_
   subst e
   exact seg_self s i
theorem seg_cut (s : ByteArray) (i n : Nat) (hin : i ≤ n) (a b : List Nat) (h : seg s i n = a ++ b) : ∃ j, i ≤ j ∧ j ≤ n ∧ seg s i j = a ∧ seg s j n = b := by
 have hl : a.length + b.length = n - i := by rw [← List.length_append, ← h, seg_len]
 refine ⟨i + a.length, by omega, by omega, ?_⟩
 have h2 := seg_split s i (i + a.length) n (by omega) (by omega)
 rw [h] at h2
 have h3 : a.length = (seg s i (i + a.length)).length := by rw [seg_len]; omega
 obtain ⟨e1, e2⟩ := List.append_inj h2 h3
 exact ⟨e1.symm, e2.symm⟩
theorem reach_lang (s : ByteArray) : ∀ (p : List At) (f : Nat → Bool) (n : Nat), reachF s p f n = true ↔ ∃ i, i ≤ n ∧ f i = true ∧ Lang p (seg s i n)
 | [], f, n => ⟨fun h => ⟨n, Nat.le_refl _, h, seg_self s n⟩, fun ⟨i, h1, h2, h3⟩ => by
    have h3' : seg s i n = [] := h3
    have : i = n := by
     have := seg_len s i n
     rw [h3'] at this
     simp at this
     omega
    subst this
    exact h2⟩
 | x :: p, f, n => by
   rw [show reachF s (x :: p) f n = reachF s p (advF x s f) n from rfl, reach_lang s p]
   constructor
   ·rintro ⟨j, h1, h2, h3⟩
    obtain ⟨i, h4, h5, h6⟩ := (adv_lang x s f j).1 h2
    exact ⟨i, by omega, h5, _, _, seg_split s i j n h4 h1, h6, h3⟩
   ·rintro ⟨i, h1, h2, a, b, h3, h4, h5⟩
    obtain ⟨j, h6, h7, h8, h9⟩ := seg_cut s i n h1 a b h3
    exact ⟨j, h7, (adv_lang x s f j).2 ⟨i, h6, h2, by rw [h8]; exact h4⟩, by rw [h9]; exact h5⟩
theorem suffix_lang (p : List At) (s : ByteArray) : suffixF p s = true ↔ ∃ i, i ≤ s.size ∧ Lang p (seg s i s.size) := by
 unfold suffixF
 rw [reach_lang]
 exact ⟨fun ⟨i, h1, _, h3⟩ => ⟨i, h1, h3⟩, fun ⟨i, h1, h3⟩ => ⟨i, h1, rfl, h3⟩⟩
theorem start_lang (p : List At) (s : ByteArray) (n : Nat) : reachF s p startF n = true ↔ Lang p (seg s 0 n) := by
 rw [reach_lang]
 constructor
 ·rintro ⟨i, _, h2, h3⟩
  have : i = 0 := by unfold startF at h2; simpa using h2
  subst this
  exact h3
 ·exact fun h => ⟨0, Nat.zero_le _, rfl, h⟩
theorem long_nonneg (f : Nat → Bool) : ∀ n, 0 ≤ longF f n ↔ ∃ i, i < n ∧ f i = true
 | 0 => ⟨fun h => absurd h (by unfold longF; decide), fun ⟨i, h, _⟩ => absurd h (Nat.not_lt_zero i)⟩
 | n + 1 => by
   unfold longF
   by_cases h : f n = true
   ·rw [if_pos h]
    exact ⟨fun _ => ⟨n, by omega, h⟩, fun _ => by omega⟩
   ·rw [if_neg h, long_nonneg f n]
    exact ⟨fun ⟨i, h1, h2⟩ => ⟨i, by omega, h2⟩, fun ⟨i, h1, h2⟩ => ⟨i, by
     refine Nat.lt_of_le_of_ne (by omega) fun e => h ?_
     rw [← e]
     exact h2, h2⟩⟩
theorem prefix_lang (p : List At) (s : ByteArray) : prefixF p s = true ↔ ∃ n, n ≤ s.size ∧ Lang p (seg s 0 n) := by
 unfold prefixF longestF
 rw [decide_eq_true_iff, long_nonneg]
 exact ⟨fun ⟨i, h1, h2⟩ => ⟨i, by omega, (start_lang p s i).1 h2⟩, fun ⟨i, h1, h2⟩ => ⟨i, by omega, (start_lang p s i).2 h2⟩⟩
theorem seg_same {s t : ByteArray} {i n d : Nat} (h : ∀ k, i ≤ k → k < n → bt s k = bt t (k + d)) (hin : i ≤ n) : seg s i n = seg t (i + d) (n + d) := by
 induction n with
 | zero =>
   obtain rfl : i = 0 := by omega
   rw [Nat.zero_add, seg_self, seg_self]
 | succ n ih =>
   by_cases hi : i = n + 1
   ·subst hi
    rw [seg_self, seg_self]
   ·rw [seg_snoc s i n (by omega), show n + 1 + d = (n + d) + 1 by omega, seg_snoc t (i + d) (n + d) (by omega), ih (fun k h1 h2 => h k h1 (by omega)) (by omega), h n (by omega) (by omega)]
theorem bt_extract (s : ByteArray) (a b k : Nat) (hk : a + k < b) (hb : b ≤ s.size) : bt (s.extract a b) k = bt s (a + k) := by
 have h1 : k < (s.extract a b).size := by rw [ByteArray.size_extract]; omega
 rw [bt_get _ _ h1, bt_get s (a + k) (by omega)]
 rw [ByteArray.getElem_extract h1]
/-! ### What the statements reckon -/
theorem seg_rev {s t : ByteArray} (hst : t.size = s.size) (h : ∀ k, k < s.size → bt t k = bt s (s.size - 1 - k)) : ∀ i n, i ≤ n → n ≤ s.size → seg t (s.size - n) (s.size - i) = (seg s i n).reverse := by
 intro i n hin hn
 refine List.ext_getElem? fun k => ?_
 by_cases hk : k < n - i
 ·unfold seg
  rw [List.getElem?_reverse (by simp; omega)]
  simp only [List.getElem?_map, List.getElem?_drop, List.length_map, List.length_drop, List.length_range]
  rw [List.getElem?_range (by omega), List.getElem?_range (by omega)]
  simp only [Option.map_some]
  rw [h _ (by omega)]
  congr 2
  omega
 ·rw [List.getElem?_eq_none (by rw [seg_len]; omega), List.getElem?_eq_none (by rw [List.length_reverse, seg_len]; omega)]
end Go.Proofs.YtfkojnofbpdjdaaGreatDoor

namespace Go.Proofs.YtfkojnofbpdjdaaGreatDoor
set_option maxRecDepth 100000
open Go.Lib
theorem index_one_miss (c : UInt8) : ∀ l : List UInt8, (∀ b ∈ l, b ≠ c) → index l [c] = -1
 | [], _ => rfl
 | b :: l, h => by
   have hb : b ≠ c := h b (by simp)
   have ih := index_one_miss c l (fun x hx => h x (by simp [hx]))
   unfold index
   simp [List.isPrefixOf, hb.symm, ih]
theorem index_one_hit (c : UInt8) : ∀ p l : List UInt8, (∀ b ∈ p, b ≠ c) → index (p ++ c :: l) [c] = p.length
 | [], l, _ => by
   unfold index
   simp [List.isPrefixOf]
 | b :: p, l, h => by
   have hb : b ≠ c := h b (by simp)
   have ih := index_one_hit c p l (fun x hx => h x (by simp [hx]))
   rw [List.cons_append]
   unfold index
   simp [List.isPrefixOf, hb.symm, ih]
theorem parted (c : UInt8) : ∀ l : List UInt8, (∀ b ∈ l, b ≠ c) ∨ ∃ p r, l = p ++ c :: r ∧ ∀ b ∈ p, b ≠ c
 | [] => .inl (by simp)
 | b :: l => by
   by_cases hb : b = c
   ·exact .inr ⟨[], l, by rw [hb]; rfl, by simp⟩
   ·rcases parted c l with h | ⟨p, r, rfl, h⟩
    ·refine .inl fun x hx => ?_
     rcases List.mem_cons.1 hx with rfl | hx
     ·exact hb
     ·exact h x hx
    ·refine .inr ⟨b :: p, r, rfl, fun x hx => ?_⟩
     rcases List.mem_cons.1 hx with rfl | hx
     ·exact hb
     ·exact h x hx
end Go.Proofs.YtfkojnofbpdjdaaGreatDoor

namespace Go.Proofs.YtfkojnofbpdjdaaGreatDoor
set_option maxRecDepth 100000
open Go.RowKit
structure Ru where
 br : Bool
 bf : List At
 af : List At
def ofL (l : List UInt8) : ByteArray := ⟨l.toArray⟩
theorem ofL_list (l : List UInt8) : (ofL l).data.toList = l := by simp [ofL]
theorem ofL_of (s : ByteArray) : ofL s.data.toList = s := by cases s; simp [ofL]
def decideF : List Ru → ByteArray → Nat → Bool
 | [], _, _ => false
 | r :: rs, s, k => if (suffixF r.bf (s.extract 0 k) && prefixF r.af (s.extract k s.size)) = true then r.br else decideF rs s k
def breaksF (rs : List Ru) (s : ByteArray) : List Int := if 1024 < s.size then [] else ((List.range s.size).filter fun k => decide (0 < k) && decideF rs s k).map fun (k : Nat) => (k : Int)
end Go.Proofs.YtfkojnofbpdjdaaGreatDoor

namespace Go.Proofs.YtfkojnofbpdjdaaGreatDoor
set_option maxRecDepth 100000
open Go.RowKit
theorem extract_size (s : ByteArray) (a b : Nat) (hab : a ≤ b) (hb : b ≤ s.size) : (s.extract a b).size = b - a := by
 rw [ByteArray.size_extract]
 omega
theorem ends_suf (p : List At) (s : ByteArray) (i : Nat) (h : i ≤ s.size) : reachF s p allF i = suffixF p (s.extract 0 i) := by
 have hz := extract_size s 0 i (Nat.zero_le _) h
 rw [Nat.sub_zero] at hz
 rw [Bool.eq_iff_iff, reach_lang, suffix_lang, hz]
 have e : ∀ j, j ≤ i → seg (s.extract 0 i) j i = seg s j i := fun j hj => by
  have := seg_same (s := s.extract 0 i) (t := s) (i := j) (n := i) (d := 0) (fun k h1 h2 => by rw [bt_extract s 0 i k (by omega) h, Nat.zero_add, Nat.add_zero]) hj
  simpa using this
 constructor
 ·rintro ⟨j, hj, _, hl⟩
  exact ⟨j, hj, by rw [e j hj]; exact hl⟩
 ·rintro ⟨j, hj, hl⟩
  exact ⟨j, hj, rfl, by rw [← e j hj]; exact hl⟩
theorem ends_pre (p : List At) {s t : ByteArray} (hst : t.size = s.size) (h : ∀ k, k < s.size → bt t k = bt s (s.size - 1 - k)) (k : Nat) (hk : k ≤ s.size) : reachF t p.reverse allF (s.size - k) = prefixF p (s.extract k s.size) := by
 have hz := extract_size s k s.size hk (Nat.le_refl _)
 rw [Bool.eq_iff_iff, reach_lang, prefix_lang, hz]
 have e : ∀ n, n ≤ s.size - k → seg (s.extract k s.size) 0 n = seg s k (k + n) := fun n hn => by
  have := seg_same (s := s.extract k s.size) (t := s) (i := 0) (n := n) (d := k) (fun j _ h2 => by rw [bt_extract s k s.size j (by omega) (Nat.le_refl _), Nat.add_comm]) (Nat.zero_le _)
  rw [this, Nat.zero_add, Nat.add_comm n k]
 constructor
 ·rintro ⟨j, hj, _, hl⟩
  refine ⟨s.size - k - j, by omega, ?_⟩
  rw [e _ (by omega), show k + (s.size - k - j) = s.size - j by omega, ← lang_rev, ← seg_rev hst h k (s.size - j) (by omega) (by omega), show s.size - (s.size - j) = j by omega]
  exact hl
 ·rintro ⟨n, hn, hl⟩
  refine ⟨s.size - k - n, by omega, rfl, ?_⟩
  have := seg_rev hst h k (k + n) (by omega) (by omega)
  rw [show s.size - (k + n) = s.size - k - n by omega] at this
  rw [this, lang_rev, ← e n hn]
  exact hl
def applyF (r : Ru) (s : ByteArray) (k : Nat) : Bool := suffixF r.bf (s.extract 0 k) && prefixF r.af (s.extract k s.size)
def foundF (rs : List Ru) (s : ByteArray) (k : Nat) : Bool := rs.any fun r => applyF r s k
theorem decide_cons (r : Ru) (rs : List Ru) (s : ByteArray) (k : Nat) : decideF (r :: rs) s k = if applyF r s k = true then r.br else decideF rs s k := rfl
theorem decide_none : ∀ (rs : List Ru) (s : ByteArray) (k : Nat), foundF rs s k = false → decideF rs s k = false
 | [], _, _, _ => rfl
 | r :: rs, s, k, h => by
   unfold foundF at h
   rw [List.any_cons, Bool.or_eq_false_iff] at h
   rw [decide_cons, if_neg (by rw [h.1]; exact Bool.false_ne_true)]
   exact decide_none rs s k h.2
theorem decide_append : ∀ (rs qs : List Ru) (s : ByteArray) (k : Nat), decideF (rs ++ qs) s k = if foundF rs s k = true then decideF rs s k else decideF qs s k
 | [], qs, s, k => rfl
 | r :: rs, qs, s, k => by
   rw [List.cons_append, decide_cons, decide_cons]
   have e : foundF (r :: rs) s k = (applyF r s k || foundF rs s k) := rfl
   by_cases h : applyF r s k = true
   ·rw [if_pos h, if_pos h, if_pos (by rw [e, h]; rfl)]
   ·rw [if_neg h, if_neg h, decide_append rs qs s k, e, Bool.not_eq_true] at *
    rw [h, Bool.false_or]
theorem decide_snoc (rs : List Ru) (r : Ru) (s : ByteArray) (k : Nat) : decideF (rs ++ [r]) s k = if foundF rs s k = true then decideF rs s k else (applyF r s k && r.br) := by
 rw [decide_append]
 congr 1
 rw [decide_cons]
 cases applyF r s k <;> rfl
theorem found_snoc (rs : List Ru) (r : Ru) (s : ByteArray) (k : Nat) : foundF (rs ++ [r]) s k = (foundF rs s k || applyF r s k) := by
 unfold foundF
 rw [List.any_append]
 simp
def uptoN (f : Nat → Bool) (k : Nat) : List Int := ((List.range k).filter f).map fun (n : Nat) => (n : Int)
theorem uptoN_succ (f : Nat → Bool) (k : Nat) : uptoN f (k + 1) = uptoN f k ++ if f k = true then [(k : Int)] else [] := by
 unfold uptoN
 rw [List.range_succ, List.filter_append, List.map_append]
 congr 1
 by_cases h : f k = true
 ·rw [if_pos h, List.filter_cons_of_pos h]; rfl
 ·rw [if_neg h, List.filter_cons_of_neg h]; rfl
theorem uptoN_congr {f g : Nat → Bool} : ∀ {k : Nat}, (∀ i, i < k → f i = g i) → uptoN f k = uptoN g k
 | 0, _ => rfl
 | k + 1, h => by rw [uptoN_succ, uptoN_succ, uptoN_congr (fun i hi => h i (by omega)), h k (by omega)]
def inB (rs : List Ru) (s : ByteArray) (k : Nat) : Bool := decide (0 < k) && decideF rs s k
theorem breaks_upto (rs : List Ru) (s : ByteArray) (h : s.size ≤ 1024) : breaksF rs s = uptoN (inB rs s) s.size := by
 unfold breaksF
 rw [if_neg (by omega)]
 rfl
def rowB (rs : List Ru) (s : ByteArray) (k : Nat) : Bool := decide (0 < k ∧ k < s.size) && decideF rs s k
theorem breaks_row (rs : List Ru) (s : ByteArray) (h : s.size ≤ 1024) : uptoN (rowB rs s) (s.size + 1) = breaksF rs s := by
 rw [uptoN_succ, if_neg (by unfold rowB; simp), List.append_nil, breaks_upto rs s h]
 refine uptoN_congr fun i hi => ?_
 unfold rowB inB
 congr 1
 rw [decide_eq_decide]
 omega
end Go.Proofs.YtfkojnofbpdjdaaGreatDoor

namespace Go.Proofs.YtfkojnofbpdjdaaGreatDoor
set_option maxRecDepth 100000
theorem cut_app {α : Type} (l1 l2 : List α) (a p q : Nat) : ((l1 ++ l2).take (q - a)).drop (p - a) = (l1.take (q - a)).drop (p - a) ++ (l2.take (q - (a + l1.length))).drop (p - (a + l1.length)) := by
 rw [List.take_append, List.drop_append, List.length_take]
 congr 1
 rw [show q - a - l1.length = q - (a + l1.length) by omega]
 by_cases h : q - a < l1.length
 ·rw [show q - (a + l1.length) = 0 by omega]
  simp
 ·rw [show p - a - min (q - a) l1.length = p - (a + l1.length) by omega]
theorem posI_pc (x : Tk) (a p q : Nat) : posI (pcI x a p q) = ((psI x).take (q - a)).drop (p - a) := by
 unfold pcI
 by_cases hx : x.k = 1
 ·rw [if_neg (by omega)]
  have e : psI x = List.replicate x.t.size (true, false) := by unfold psI; rw [if_pos hx]
  rw [e, List.take_replicate, List.drop_replicate]
  by_cases h : max p a - a < min q (a + x.t.size) - a
  ·rw [if_pos h, posI_one]
   unfold psI
   rw [if_pos rfl]
   show List.replicate (x.t.extract _ _).size _ = _
   rw [extract_size x.t _ _ (by omega) (by omega)]
   congr 1
   omega
  ·rw [if_neg h, show min (q - a) x.t.size - (p - a) = 0 by omega]
   rfl
 ·rw [if_pos hx]
  obtain ⟨c, hc⟩ : ∃ c, psI x = [c] := by
   unfold psI
   rw [if_neg hx]
   split
   ·exact ⟨_, rfl⟩
   ·split <;> exact ⟨_, rfl⟩
  by_cases h : p ≤ a ∧ a < q
  ·rw [if_pos h, posI_one, hc, show q - a = (q - a - 1) + 1 by omega, show p - a = 0 by omega]
   simp
  ·rw [if_neg h, hc]
   by_cases h2 : a < q
   ·rw [show p - a = (p - a - 1) + 1 by omega, show q - a = (q - a - 1) + 1 by omega]
    simp [posI]
   ·rw [show q - a = 0 by omega]
    simp [posI]
theorem posI_sl (p q : Nat) : ∀ (f : List Tk) (a : Nat), posI (slI f a p q) = ((posI f).take (q - a)).drop (p - a)
 | [], a => by simp [slI, posI]
 | x :: f, a => by
   rw [slI, posI_app, posI_pc, posI_sl p q f, show x :: f = [x] ++ f from rfl, posI_app [x] f, posI_one, cut_app, psI_len]
theorem pcI_wd (x : Tk) (a p q : Nat) : ∀ y ∈ pcI x a p q, 1 ≤ wdI y := by
 unfold pcI
 intro y hy
 by_cases hx : x.k = 1
 ·rw [if_neg (by omega)] at hy
  split at hy
  ·rename_i h
   rw [List.mem_singleton.1 hy]
   unfold wdI
   rw [if_pos rfl]
   show 1 ≤ (x.t.extract _ _).size
   rw [extract_size x.t _ _ (by omega) (by omega)]
   omega
  ·simp at hy
 ·rw [if_pos hx] at hy
  split at hy
  ·rw [List.mem_singleton.1 hy]
   unfold wdI
   rw [if_neg hx]
   exact Nat.le_refl _
  ·simp at hy
theorem slI_wd (p q : Nat) : ∀ (f : List Tk) (a : Nat), ∀ y ∈ slI f a p q, 1 ≤ wdI y
 | [], _, y, hy => by simp [slI] at hy
 | x :: f, a, y, hy => by
   rw [slI] at hy
   rcases List.mem_append.1 hy with h | h
   ·exact pcI_wd x a p q y h
   ·exact slI_wd p q f _ y h
theorem len_wd : ∀ (l : List Tk), (∀ y ∈ l, 1 ≤ wdI y) → l.length ≤ lenI l
 | [], _ => Nat.le_refl _
 | x :: l, h => by
   rw [List.length_cons, lenI]
   have h1 := h x (by simp)
   have h2 := len_wd l (fun y hy => h y (by simp [hy]))
   omega
end Go.Proofs.YtfkojnofbpdjdaaGreatDoor

namespace Go.Proofs.YtfkojnofbpdjdaaGreatDoor
set_option maxRecDepth 100000
theorem cntP_cons (x : Bool × Bool) (ps : List (Bool × Bool)) : cntP (x :: ps) = (if x.1 = true then 1 else 0) + cntP ps := by
 unfold cntP
 rw [List.filter_cons]
 split
 ·rw [List.length_cons]; omega
 ·omega
end Go.Proofs.YtfkojnofbpdjdaaGreatDoor

namespace Go.Proofs.YtfkojnofbpdjdaaGreatDoor
set_option maxRecDepth 100000
theorem placeP_text (m o : Nat) (ps : List (Bool × Bool)) (h : m ≤ o) : placeP (List.replicate m (true, false) ++ ps) o = m + placeP ps (o - m) := by
 induction m generalizing o with
 | zero => simp
 | succ m ih =>
   obtain ⟨o', rfl⟩ : ∃ o', o = o' + 1 := ⟨o - 1, by omega⟩
   rw [List.replicate_succ, List.cons_append, placeP, if_pos rfl, ih o' (by omega), Nat.add_sub_add_right]
   omega
theorem placeP_in (m o : Nat) (ps : List (Bool × Bool)) (h : o < m) (h0 : 0 < o) : placeP (List.replicate m (true, false) ++ ps) o = o := by
 obtain ⟨d, rfl⟩ : ∃ d, m = o + (d + 1) := ⟨m - o - 1, by omega⟩
 rw [← List.replicate_append_replicate, List.append_assoc, placeP_text o o _ (Nat.le_refl _), Nat.sub_self, List.replicate_succ, List.cons_append, placeP, clP]
 simp
theorem psI_one (x : Tk) (h : x.k ≠ 1) : psI x = [(decide (x.k = 5), decide (x.k = 3))] := by
 unfold psI
 rw [if_neg h]
 by_cases h5 : x.k = 5
 ·rw [if_pos h5, h5]; rfl
 ·rw [if_neg h5]
  by_cases h3 : x.k = 3
  ·rw [if_pos h3, h3]; rfl
  ·rw [if_neg h3, decide_eq_false h5, decide_eq_false h3]
theorem placeP_slot (x : Tk) (h : x.k = 5) (o : Nat) (ps : List (Bool × Bool)) : placeP (psI x ++ ps) (o + 1) = placeP ps o + 1 := by
 rw [psI_one x (by omega), List.singleton_append, placeP, h]
 rfl
theorem placeP_tag (x : Tk) (h1 : x.k ≠ 1) (h5 : x.k ≠ 5) (o : Nat) (ps : List (Bool × Bool)) : placeP (psI x ++ ps) (o + 1) = placeP ps (o + 1) + 1 := by
 rw [psI_one x h1, List.singleton_append, placeP, decide_eq_false h5]
 rfl
theorem clP_close (x : Tk) (h : x.k = 3) (ps : List (Bool × Bool)) : clP (psI x ++ ps) = clP ps + 1 := by
 rw [psI_one x (by omega), List.singleton_append, clP, h]
 rfl
theorem clP_other (x : Tk) (h3 : x.k ≠ 3) (hw : 1 ≤ wdI x) (ps : List (Bool × Bool)) : clP (psI x ++ ps) = 0 := by
 by_cases h1 : x.k = 1
 ·unfold wdI at hw
  rw [if_pos h1] at hw
  unfold psI
  rw [if_pos h1]
  obtain ⟨d, hd⟩ : ∃ d, x.t.size = d + 1 := ⟨x.t.size - 1, by omega⟩
  rw [hd, List.replicate_succ, List.cons_append, clP]
  simp
 ·rw [psI_one x h1, List.singleton_append, clP, decide_eq_false h3]
  simp
theorem posI_drop (f : List Tk) (k : Nat) (h : k < f.length) : posI (f.drop k) = psI f[k] ++ posI (f.drop (k + 1)) := by
 rw [List.drop_eq_getElem_cons h, show f[k] :: f.drop (k + 1) = [f[k]] ++ f.drop (k + 1) from rfl, posI_app, posI_one]
theorem normal_wd : ∀ (g : List Tk), Normal g → ∀ x ∈ g, 1 ≤ wdI x
 | [], _, x, hx => by simp at hx
 | y :: r, h, x, hx => by
   rcases List.mem_cons.1 hx with rfl | hx
   ·unfold wdI
    split
    ·rename_i h1
     have := (h.1 h1).1
     omega
    ·exact Nat.le_refl _
   ·exact normal_wd r h.2 x hx
end Go.Proofs.YtfkojnofbpdjdaaGreatDoor

namespace Go.Proofs.YtfkojnofbpdjdaaGreatDoor
set_option maxRecDepth 100000
open Go.RowKit
theorem place5_any (f : List Tk) (v : Value) (off : Int) (w : World) (h1 : RdT w v f) (hl : lenI f ≤ 1000000) (hfl : f.length ≤ 100000) :
 Calls Tryz.prog 61 #[v, .int .i64 off] w fun e w' => e = .returned (.int .i64 (placeF f off)) ∧ Below w.heap.size w w' := by
 obtain ⟨A, c, rfl, _, _⟩ := h1.shape
 have HPL := Lib.hid (iplain_any f _ w h1 (by omega) (by omega))
 have HNL := Lib.hid (fun (u : World) (h : Below w.heap.size w u) => norm_anyL f _ u (RdE.below h1 h (Nat.le_refl _)) hfl hl)
 have hps := plS_size f
 have hpl := plI_len f
 obtain ⟨V, HV⟩ : ∃ V, Hid (placeF f off = V) := ⟨_, rfl⟩
 rw [HV.out]
 unfold placeF at HV
 clear h1
 by_cases h0 : off < 0
 ·rw [if_pos (Or.inl h0)] at HV
  go_enter Tryz.func61, Tryz.ntmps61
  go_wp2_with fail
  go_ret
  exact ⟨by rw [← HV.out]; rfl, Below.refl _ _⟩
 obtain ⟨o, rfl⟩ : ∃ o : Nat, off = (o : Int) := ⟨off.toNat, by omega⟩
 by_cases h2 : (plI f).length < o
 ·rw [if_pos (Or.inr (by omega))] at HV
  generalize plS f = s at HPL hps
  have h2i : (s.size : Int) < (o : Int) := by omega
  go_enter Tryz.func61, Tryz.ntmps61
  go_wp2_with (go_at_call 60; refine HPL.out.mono ?_; rintro e w1 ⟨rfl, hb1⟩)
  go_ret
  exact ⟨by rw [← HV.out]; rfl, hb1⟩
 ·rw [if_neg (by omega)] at HV
  rw [Int.toNat_natCast, ← posI_norm] at HV
  have htot : o ≤ cntP (posI (normL f)) := by rw [posI_norm, cntP_pos]; omega
  have hnl := normL_length f
  have hlg : lenI (normL f) ≤ 1000000 := by rw [← posI_len, posI_norm, posI_len]; exact hl
  generalize plS f = s at HPL hps
  have HWD := Lib.hid (normal_wd (normL f) (normL_normal f))
  generalize normL f = g at HNL HV htot hnl hlg HWD
  have hgl : g.length ≤ 100000 := by omega
  have h2i : ¬ (s.size : Int) < (o : Int) := by omega
  have ho0 : ¬ (o : Int) < 0 := by omega
  have ho1 : o ≤ 1000000 := by omega
  go_enter Tryz.func61, Tryz.ntmps61
  go_upto_region 5 with (first
   | (go_at_call 60; refine HPL.out.mono ?_; rintro e w1 ⟨rfl, hb1⟩; have HB1 := Lib.hid hb1)
   | (go_at_call 104; refine (HNL.out _ HB1.out).mono ?_; rintro e w2 ⟨v2, rfl, ho2, hb2⟩; obtain ⟨A2, c2, hv2⟩ := own_shape ho2; subst hv2; have HB2 := Lib.hid (HB1.out.trans (hb2.mono HB1.out.size)); have HR2 := Lib.hid (OwnE.rd tkC_three ho2)))
  clear hb1 ho2 hb2 HNL HPL hps hpl HB1
  obtain ⟨wo, HWO⟩ : ∃ wo, Hid (wo = w2) := ⟨w2, rfl⟩
  go_loopg [1, 5, 6, 7] g.length (fun gk rv av iv xv wr => ∃ i a r : Nat, rv = .int .i64 r ∧ av = .int .i64 a ∧ iv = .int .i64 i ∧ i ≤ g.length ∧ a ≤ 1000000 ∧ Hid (a + lenI (g.drop i) = lenI g) ∧ Hid (r ≤ cntP (posI (g.drop i))) ∧ r ≤ 1000000 ∧ Hid (((a + placeP (posI (g.drop i)) r : Nat) : Int) = V) ∧ Hid (Below w2.heap.size w2 wr) ∧ g.length - i ≤ gk)
  case atStart => exact ⟨0, 0, o, rfl, rfl, rfl, Nat.zero_le _, by omega, by (show _ = _); rw [List.drop_zero]; omega, by (show _ ≤ _); rw [List.drop_zero]; exact htot, ho1, by (show _ = _); rw [List.drop_zero, Nat.zero_add]; exact HV.out, Below.refl _ _, by omega⟩
  case round =>
   clear HWO HV htot
   obtain ⟨i, a, r, rfl, rfl, rfl, hi, ha, HLN, HCN, hr, HVV, HB, hgk⟩ := hrel
   by_cases hr0 : 0 < r
   ·have hr0i : (0 : Int) < (r : Int) := by omega
    have hil : i < g.length := by
     rcases Nat.lt_or_ge i g.length with h | h
     ·exact h
     ·exfalso
      have h2 := HCN.out
      rw [List.drop_eq_nil_of_le h] at h2
      simp [posI, cntP] at h2
      omega
    have hii : (i : Int) < (g.length : Int) := by omega
    have hi0 : (0 : Int) ≤ (i : Int) := by omega
    have hsz := HB.out.size
    obtain ⟨b, ob, rfl, hbl, q1, q2, q3⟩ := RdT.at_ HR2.out i hil
    rw [← HB.out.cell (p := ⟨b, ob + i * 3, none⟩) hbl] at q1
    rw [← HB.out.cell (p := ⟨b, ob + i * 3 + 1, none⟩) hbl] at q2
    rw [← HB.out.cell (p := ⟨b, ob + i * 3 + 2, none⟩) hbl] at q3
    have hbl2 : b < wr.heap.size := by omega
    have HD := Lib.hid (posI_drop g i hil)
    rw [HD.out] at HVV HCN
    rw [List.drop_eq_getElem_cons hil, lenI] at HLN
    rw [cntP_app, cntP_item] at HCN
    clear HD
    generalize g[i] = x at q1 q2 q3 HVV HCN HLN
    obtain ⟨xk, xt, xd⟩ := x
    simp only at q1 q2 q3
    have HX : Hid ((wr.alloc (.cells #[.int .i64 xk, .string xt, .int .i64 xd] 31)).heap[wr.heap.size]? = some (.cells #[.int .i64 xk, .string xt, .int .i64 xd] 31)) := heap_alloc_new wr _
    have HB1 := Lib.hid (HB.out.alloc hsz (.cells #[.int .i64 xk, .string xt, .int .i64 xd] 31))
    go_upto_region 8 with fail
    generalize wr.alloc (.cells #[.int .i64 xk, .string xt, .int .i64 xd] 31) = w3 at HX HB1 ⊢
    obtain ⟨q, hq⟩ : ∃ q, Hid (q = wr.heap.size) := ⟨_, rfl⟩
    rw [← hq.out] at HX ⊢
    have hql : q < w3.heap.size := (Array.getElem?_eq_some_iff.1 HX.out).1
    clear q1 q2 q3
    obtain ⟨x0, x1, x2, _⟩ := bx3 HX.out
    by_cases hx : xk = 1
    ·subst hx
     have hby : byI ⟨1, xt, xd⟩ = xt.data.toList := rfl
     have hps1 : psI ⟨1, xt, xd⟩ = List.replicate xt.size (true, false) := rfl
     have hw1 : wdI ⟨1, xt, xd⟩ = xt.size := rfl
     rw [hw1] at HLN
     rw [hby] at HCN
     rw [hps1] at HVV
     have hxs : xt.size ≤ 1000000 := by have := HLN.out; omega
     by_cases hrs : r < xt.size
     ·have hrsi : (r : Int) < (xt.size : Int) := by omega
      have HVQ : Hid (((a + r : Nat) : Int) = V) := by
       show _ = _
       rw [← HVV.out, placeP_in _ _ _ hrs hr0]
      go_wp2_with fail
      go_ret
      refine ⟨?_, HB2.out.trans (HB1.out.mono HB2.out.size)⟩
      rw [← HVQ.out]
      rfl
     ·have hrsi : ¬ (r : Int) < (xt.size : Int) := by omega
      have HL2 : Hid (a + xt.size + lenI (g.drop (i + 1)) = lenI g) := by show _ = _; rw [← HLN.out]; omega
      have hax : a + xt.size ≤ 1000000 := by have := HL2.out; omega
      have HC2 : Hid (r - xt.size ≤ cntP (posI (g.drop (i + 1)))) := by
       have h := HCN.out
       have e : xt.data.toList.length = xt.size := by simp
       rw [e] at h
       show _ ≤ _
       omega
      have HV2 : Hid (((a + xt.size + placeP (posI (g.drop (i + 1))) (r - xt.size) : Nat) : Int) = V) := by
       show _ = _
       rw [← HVV.out, placeP_text _ _ _ (by omega)]
       congr 1
       omega
      have e1 : ((r - xt.size : Nat) : Int) = (r : Int) - (xt.size : Int) := by omega
      go_upto_region 11 with fail
      go_region
      have HB3 : Hid (Below w2.heap.size w2 w3.drew) := below_drewN HB1.out 1
      go_wp2_with fail
      go_roundg (g.length - (i + 1))
      case measure => omega
      case rel => exact ⟨i + 1, a + xt.size, r - xt.size, by rw [e1], rfl, rfl, by omega, hax, HL2.out, HC2.out, by omega, HV2.out, HB3.out, by omega⟩
    ·have t1 : (xk == 1) = false := by simpa using hx
     have hw1 : wdI ⟨xk, xt, xd⟩ = 1 := by
      unfold wdI
      exact if_neg hx
     rw [hw1] at HLN
     have HL2 : Hid (a + 1 + lenI (g.drop (i + 1)) = lenI g) := by show _ = _; rw [← HLN.out]; omega
     have hax : a + 1 ≤ 1000000 := by have := HL2.out; omega
     obtain ⟨r', rfl⟩ : ∃ r', r = r' + 1 := ⟨r - 1, by omega⟩
     by_cases h5 : xk = 5
     ·subst h5
      have HC2 : Hid (r' ≤ cntP (posI (g.drop (i + 1)))) := by
       have h := HCN.out
       have e : (byI ⟨5, xt, xd⟩).length = 1 := rfl
       rw [e] at h
       show _ ≤ _
       omega
      have HV2 : Hid (((a + 1 + placeP (posI (g.drop (i + 1))) r' : Nat) : Int) = V) := by
       show _ = _
       rw [← HVV.out, placeP_slot _ rfl]
       congr 1
       omega
      go_wp2_with fail
      go_roundg (g.length - (i + 1))
      case measure => omega
      case rel => exact ⟨i + 1, a + 1, r', rfl, rfl, rfl, by omega, hax, HL2.out, HC2.out, by omega, HV2.out, HB1.out, by omega⟩
     ·have t5 : (xk == 5) = false := by simpa using h5
      have HC2 : Hid (r' + 1 ≤ cntP (posI (g.drop (i + 1)))) := by
       have h := HCN.out
       have e : (byI ⟨xk, xt, xd⟩).length = 0 := by unfold byI; simp [hx, h5]
       rw [e] at h
       show _ ≤ _
       omega
      have HV2 : Hid (((a + 1 + placeP (posI (g.drop (i + 1))) (r' + 1) : Nat) : Int) = V) := by
       show _ = _
       rw [← HVV.out, placeP_tag _ hx h5]
       congr 1
       omega
      go_wp2_with fail
      go_roundg (g.length - (i + 1))
      case measure => omega
      case rel => exact ⟨i + 1, a + 1, r' + 1, rfl, rfl, rfl, by omega, hax, HL2.out, HC2.out, by omega, HV2.out, HB1.out, by omega⟩
   ·obtain rfl : r = 0 := by omega
    have HBL := Lib.hid (HB2.out.trans (HB.out.mono HB2.out.size))
    have hsz := HB.out.size
    have HVC : Hid (((a + clP (posI (g.drop i)) : Nat) : Int) = V) := by
     have h := HVV.out
     rw [placeP] at h
     exact h
    clear HCN HVV hgk
    go_wp2_with fail
    go_loopg [5, 6] (g.length - i) (fun gk av iv wx => ∃ i a : Nat, av = .int .i64 a ∧ iv = .int .i64 i ∧ i ≤ g.length ∧ a ≤ 1000000 ∧ Hid (a + lenI (g.drop i) = lenI g) ∧ Hid (((a + clP (posI (g.drop i)) : Nat) : Int) = V) ∧ wx = wr ∧ g.length - i ≤ gk)
    case atStart => exact ⟨i, a, rfl, rfl, hi, ha, HLN.out, HVC.out, rfl, Nat.le_refl _⟩
    case round =>
     clear HLN HVC
     obtain ⟨j, e, rfl, rfl, hj, he, HLN, HVC, rfl, hgk⟩ := hrel
     by_cases hjl : j < g.length
     ·have hji : (j : Int) < (g.length : Int) := by omega
      have hj0 : (0 : Int) ≤ (j : Int) := by omega
      obtain ⟨b, ob, rfl, hbl, q1, _, _⟩ := RdT.at_ HR2.out j hjl
      rw [← HB.out.cell (p := ⟨b, ob + j * 3, none⟩) hbl] at q1
      rw [posI_drop g j hjl] at HVC
      rw [List.drop_eq_getElem_cons hjl, lenI] at HLN
      have hwd := HWD.out _ (List.getElem_mem hjl)
      generalize g[j] = x at q1 HVC HLN hwd
      have hw1 : x.k = 3 → wdI x = 1 := fun h => by unfold wdI; rw [if_neg (by omega)]
      by_cases h3 : x.k = 3
      ·rw [clP_close x h3] at HVC
       rw [hw1 h3] at HLN
       have hL2 : e + 1 + lenI (g.drop (j + 1)) = lenI g := by rw [← HLN.out]; omega
       have he1 : e + 1 ≤ 1000000 := by omega
       have HL3 := Lib.hid hL2
       clear hL2 hw1
       rw [h3] at q1
       go_wp2_with fail
       go_roundg (g.length - (j + 1))
       case measure => omega
       case rel => exact ⟨j + 1, e + 1, rfl, rfl, by omega, he1, HL3.out, by (show _ = _); rw [← HVC.out]; congr 1; omega, rfl, by omega⟩
      ·rw [clP_other x h3 hwd] at HVC
       have t3 : (x.k == 3) = false := by simpa using h3
       clear hw1
       go_wp2_with fail
       go_ret
       refine ⟨?_, HBL.out⟩
       rw [← HVC.out]
       rfl
     ·obtain rfl : j = g.length := by omega
      have e9 : clP (posI (g.drop g.length)) = 0 := by rw [List.drop_length]; rfl
      rw [e9] at HVC
      go_wp2_with fail
      go_ret
      refine ⟨?_, HBL.out⟩
      rw [← HVC.out]
      rfl
end Go.Proofs.YtfkojnofbpdjdaaGreatDoor

namespace Go.Proofs.YtfkojnofbpdjdaaGreatDoor
set_option maxRecDepth 100000
open Go.RowKit
theorem slice_str (s : ByteArray) (a b : Nat) (hab : a ≤ b) (hb : b ≤ s.size) (W : World) : (Instr.sliceAt 9 (.string s) (some (.int .i64 (a : Int))) (some (.int .i64 (b : Int))) none).run Tryz.prog W = .ok (.string (s.extract a b)) W := by
 have h1 : (a : Int) ≤ (b : Int) := by omega
 have h2 : (b : Int) ≤ (s.size : Int) := by omega
 have h3 : (0 : Int) ≤ (a : Int) := by omega
 have h4 : (0 : Int) ≤ (b : Int) := by omega
 go_simp
theorem own_stay {w w' : World} {B : Nat} {e : TypeId} {size : Nat} {v : Value} {n : Nat} {xs : List Value} (h : w.ownsRow B e size v n xs) (hk : ∀ k, v.ownBlock = some k → w'.heap[k]? = w.heap[k]?) : w'.ownsRow B e size v n xs := by
 refine ⟨h.1, ?_⟩
 rcases h.2 with h0 | ⟨g, cap, cur, hv, hbg, hg, rest⟩
 ·exact .inl h0
 ·refine .inr ⟨g, cap, cur, hv, hbg, ?_, rest⟩
  rw [hk g (by rw [hv]; rfl)]
  exact hg
theorem iwidth_any (k : Int) (t : ByteArray) (d : Int) (w : World) (ht : k = 1 → t.size ≤ 1000000000000000000) :
 Calls Tryz.prog 87 #[.agg #[.int .i64 k, .string t, .int .i64 d]] w fun e w' => e = .returned (.int .i64 (wdI ⟨k, t, d⟩ : Nat)) ∧ Below w.heap.size w w' := by
 obtain ⟨V, HV⟩ : ∃ V, Hid (wdI ⟨k, t, d⟩ = V) := ⟨_, rfl⟩
 rw [HV.out]
 unfold wdI at HV
 have hb := Lib.hid ((Below.refl w.heap.size w).alloc (Nat.le_refl _) (.cells #[.int .i64 k, .string t, .int .i64 d] 31))
 by_cases hk : k = 1
 ·subst hk
  rw [if_pos rfl] at HV
  have ht2 := ht rfl
  clear ht
  go_enter Tryz.func87, Tryz.ntmps87
  go_wp2_with fail
  go_ret
  exact ⟨by rw [← HV.out]; rfl, hb.out⟩
 ·rw [if_neg hk] at HV
  have t1 : (k == 1) = false := by simpa using hk
  go_enter Tryz.func87, Tryz.ntmps87
  go_wp2_with fail
  go_ret
  exact ⟨by rw [← HV.out]; rfl, hb.out⟩
theorem ilength_any (f : List Tk) (v : Value) (w : World) (h1 : RdT w v f) (hl : lenI f ≤ 1000000000000000000) (hfl : f.length ≤ 1000000) :
 Calls Tryz.prog 62 #[v] w fun e w' => e = .returned (.int .i64 (lenI f : Nat)) ∧ Below w.heap.size w w' := by
 obtain ⟨A, c, rfl, _, _⟩ := h1.shape
 have H1 := Lib.hid h1
 clear h1
 go_enter Tryz.func62, Tryz.ntmps62
 go_wp2_with fail
 obtain ⟨wo, HWO⟩ : ∃ wo, Hid (wo = w) := ⟨w, rfl⟩
 go_loopg [3, 5, 8] f.length (fun gk nv xv jv wr => ∃ k n : Nat, nv = .int .i64 n ∧ jv = .int .i64 k ∧ k ≤ f.length ∧ Hid (n = lenI (f.take k)) ∧ Hid (Below w.heap.size w wr) ∧ f.length - k ≤ gk)
 case atStart => exact ⟨0, 0, rfl, rfl, Nat.zero_le _, by show _ = _; rw [List.take_zero]; rfl, Below.refl _ _, by omega⟩
 case round =>
  clear HWO
  obtain ⟨k, n, rfl, rfl, hk, HN, HB, hgk⟩ := hrel
  by_cases hkl : k < f.length
  ·have hki : (k : Int) < (f.length : Int) := by omega
   have hk0 : (0 : Int) ≤ (k : Int) := by omega
   obtain ⟨b, o, rfl, hbl, q1, q2, q3⟩ := RdT.at_ H1.out k hkl
   rw [← HB.out.cell (p := ⟨b, o + k * 3, none⟩) hbl] at q1
   rw [← HB.out.cell (p := ⟨b, o + k * 3 + 1, none⟩) hbl] at q2
   rw [← HB.out.cell (p := ⟨b, o + k * 3 + 2, none⟩) hbl] at q3
   have hsz := HB.out.size
   have hbl2 : b < wr.heap.size := by omega
   have hle := lenI_le f (k + 1)
   have hst := lenI_take f k hkl
   rw [hst, ← HN.out] at hle
   have HN2 : Hid (n + wdI f[k] = lenI (f.take (k + 1))) := by
    show _ = _
    rw [hst, ← HN.out]
   clear hst
   generalize f[k] = x at q1 q2 q3 HN2 hle
   obtain ⟨xk, xt, xd⟩ := x
   simp only at q1 q2 q3
   have hxs : xk = 1 → xt.size ≤ 1000000000000000000 := fun e => by
    have : wdI ⟨xk, xt, xd⟩ = xt.size := by unfold wdI; rw [if_pos e]
    omega
   have HWD := Lib.hid (fun u => iwidth_any xk xt xd u hxs)
   generalize wdI ⟨xk, xt, xd⟩ = z at HWD HN2 hle
   have hz1 : n + z ≤ 1000000000000000000 := by omega
   have HX : Hid ((wr.alloc (.cells #[.int .i64 xk, .string xt, .int .i64 xd] 31)).heap[wr.heap.size]? = some (.cells #[.int .i64 xk, .string xt, .int .i64 xd] 31)) := heap_alloc_new wr _
   have HB1 := Lib.hid (HB.out.alloc hsz (.cells #[.int .i64 xk, .string xt, .int .i64 xd] 31))
   clear hxs hle
   go_upto_region 5 with fail
   generalize wr.alloc (.cells #[.int .i64 xk, .string xt, .int .i64 xd] 31) = w3 at HX HB1 ⊢
   obtain ⟨q, hq⟩ : ∃ q, Hid (q = wr.heap.size) := ⟨_, rfl⟩
   rw [← hq.out] at HX ⊢
   have hql : q < w3.heap.size := (Array.getElem?_eq_some_iff.1 HX.out).1
   clear q1 q2 q3
   obtain ⟨x0, x1, x2, _⟩ := bx3 HX.out
   go_wp2_with (go_at_call 87; refine (HWD.out _).mono ?_; rintro e w4 ⟨rfl, hb4⟩; have HB4 := Lib.hid (HB1.out.trans (hb4.mono HB1.out.size)))
   go_roundg (f.length - (k + 1))
   case measure => omega
   case rel => exact ⟨k + 1, n + z, rfl, rfl, by omega, HN2.out, HB4.out, by omega⟩
  ·obtain rfl : k = f.length := by omega
   have e : n = lenI f := by rw [HN.out, List.take_length]
   go_wp2_with fail
   go_ret
   exact ⟨by rw [← e]; rfl, HB.out⟩
theorem pcI_own (x : Tk) (a p q : Nat) : pcI x a p q = if max p a < min q (a + wdI x) then [⟨x.k, if x.k = 1 then x.t.extract (max p a - a) (min q (a + wdI x) - a) else x.t, x.d⟩] else [] := by
 unfold pcI wdI
 by_cases hx : x.k = 1
 ·rw [if_neg (by omega), if_pos hx, if_pos hx]
  by_cases h : max p a < min q (a + x.t.size)
  ·rw [if_pos h, if_pos (by omega), hx]
  ·rw [if_neg h, if_neg (by omega)]
 ·rw [if_pos hx, if_neg hx, if_neg hx]
  by_cases h : max p a < min q (a + 1)
  ·rw [if_pos h, if_pos (by omega)]
  ·rw [if_neg h, if_neg (by omega)]
theorem islice_any (f : List Tk) (v : Value) (p q : Nat) (w : World) (h1 : RdT w v f) (hl : lenI f ≤ 1000000000000000000) (hfl : f.length ≤ 1000000) (hpq : p ≤ q) (hq : q ≤ lenI f) :
 Calls Tryz.prog 47 #[v, .int .i64 (p : Int), .int .i64 (q : Int)] w (SlRet w (slI f 0 p q)) := by
 obtain ⟨R, HRR⟩ : ∃ R, Hid (R = SlRet w (slI f 0 p q)) := ⟨_, rfl⟩
 rw [← HRR.out]
 obtain ⟨A, c, rfl, _, _⟩ := h1.shape
 have HL := Lib.hid (ilength_any f _ w h1 hl hfl)
 have H1 := Lib.hid h1
 clear h1
 have hpi : ¬ (p : Int) < 0 := by omega
 have hqi : ¬ (q : Int) < (p : Int) := by omega
 have hqp : (p : Int) ≤ (q : Int) := by omega
 obtain ⟨n, hn⟩ : ∃ n, Hid (n = lenI f) := ⟨_, rfl⟩
 rw [← hn.out] at hl hq HL
 have hnq : ¬ (n : Int) < (q : Int) := by omega
 have hnqd : decide (n < q) = false := decide_eq_false (by omega)
 go_enter Tryz.func47, Tryz.ntmps47
 go_upto_region 6 with (go_at_call 62; refine HL.out.mono ?_; rintro e w1 ⟨rfl, hb1⟩; have HB1 := Lib.hid hb1)
 clear hb1
 obtain ⟨wo, HWO⟩ : ∃ wo, Hid (wo = w1) := ⟨w1, rfl⟩
 go_loopg [8, 9, 11, 12, 13, 14, 30] f.length (fun gk ov av xv nv lv hv jv wr => ∃ k at_ : Nat, av = .int .i64 at_ ∧ jv = .int .i64 k ∧ k ≤ f.length ∧ Hid (at_ = lenI (f.take k)) ∧ Hid (OwnE 31 tkC 3 wr w.heap.size ov (slI (f.take k) 0 p q)) ∧ Hid (Below w.heap.size w wr) ∧ f.length - k ≤ gk)
 case atStart => exact ⟨0, 0, rfl, rfl, Nat.zero_le _, by (show _ = _); rw [List.take_zero]; rfl, OwnE.nil, HB1.out, by omega⟩
 case round =>
  clear HWO HB1
  obtain ⟨k, a0, rfl, rfl, hk, HA, HO, HB, hgk⟩ := hrel
  by_cases hkl : k < f.length
  ·have hki : (k : Int) < (f.length : Int) := by omega
   have hk0 : (0 : Int) ≤ (k : Int) := by omega
   obtain ⟨b, o, rfl, hbl, q1, q2, q3⟩ := RdT.at_ H1.out k hkl
   have hsz := HB.out.size
   rw [← HB.out.cell (p := ⟨b, o + k * 3, none⟩) hbl] at q1
   rw [← HB.out.cell (p := ⟨b, o + k * 3 + 1, none⟩) hbl] at q2
   rw [← HB.out.cell (p := ⟨b, o + k * 3 + 2, none⟩) hbl] at q3
   have hbl2 : b < wr.heap.size := by omega
   have hle := lenI_le f (k + 1)
   have HTK := Lib.hid (slI_take f p q k hkl)
   have HTL := Lib.hid (lenI_take f k hkl)
   rw [HTL.out, ← HA.out] at hle
   rw [← HA.out] at HTK HTL
   rw [pcI_own] at HTK
   have hol := slI_len (f.take k) 0 p q
   rw [List.length_take] at hol
   obtain ⟨Ao, co, hov⟩ := own_shape HO.out
   generalize hol0 : (slI (f.take k) 0 p q).length = no at hov hol
   subst hov
   have hol1 := Lib.hid hol0
   clear hol0
   have hol2 : no ≤ 1000000 := by omega
   clear hol
   generalize f[k] = x at q1 q2 q3 HTK HTL hle
   obtain ⟨xk, xt, xd⟩ := x
   simp only at q1 q2 q3
   rw [← hn.out] at hle
   have hw1 : xk = 1 → wdI ⟨xk, xt, xd⟩ = xt.size := fun e => by unfold wdI; rw [if_pos e]
   have hxs : xk = 1 → xt.size ≤ 1000000000000000000 := fun e => by have := hw1 e; omega
   have HWD := Lib.hid (fun u => iwidth_any xk xt xd u hxs)
   generalize wdI ⟨xk, xt, xd⟩ = z at HWD HTK HTL hle hw1
   have HW1 := Lib.hid hw1
   have hz1 : a0 + z ≤ 1000000000000000000 := by omega
   have HX : Hid ((wr.alloc (.cells #[.int .i64 xk, .string xt, .int .i64 xd] 31)).heap[wr.heap.size]? = some (.cells #[.int .i64 xk, .string xt, .int .i64 xd] 31)) := heap_alloc_new wr _
   have HB1 := Lib.hid (HB.out.alloc hsz (.cells #[.int .i64 xk, .string xt, .int .i64 xd] 31))
   have HO1 := Lib.hid (World.ownsRow.alloc HO.out (.cells #[.int .i64 xk, .string xt, .int .i64 xd] 31))
   clear hxs hle hw1
   go_upto_region 8 with fail
   generalize wr.alloc (.cells #[.int .i64 xk, .string xt, .int .i64 xd] 31) = w3 at HX HB1 HO1 ⊢
   obtain ⟨g, hg⟩ : ∃ g, Hid (g = wr.heap.size) := ⟨_, rfl⟩
   rw [← hg.out] at HX ⊢
   have hgl : g < w3.heap.size := (Array.getElem?_eq_some_iff.1 HX.out).1
   clear q1 q2 q3
   obtain ⟨x0, x1, x2, _⟩ := bx3 HX.out
   go_upto_region 9 with (go_at_call 87; refine (HWD.out _).mono ?_; rintro e w4 ⟨rfl, hb4⟩)
   have HB4 := Lib.hid (HB1.out.trans (hb4.mono HB1.out.size))
   have HX4 := Lib.hid ((hb4.block g hgl).trans HX.out)
   have HO4 := Lib.hid (own_below HO1.out hb4 (Nat.le_refl _))
   have HAN : Hid (a0 + z = lenI (f.take (k + 1))) := HTL.out.symm
   have hgl4 : g < w4.heap.size := (Array.getElem?_eq_some_iff.1 HX4.out).1
   have HLT : Hid (∀ j, (Value.slice Ao no co).ownBlock = some j → j < g) := fun j hj => by have := (HO.out.lt j hj).2; rw [hg.out]; exact this
   clear hb4 HX HB1 HO1 x0 x1 x2 HWD hgl HO HB HTL
   go_upto_region 10 with fail
   rw [show max (p : Int) (a0 : Int) = ((max p a0 : Nat) : Int) by omega, show min (q : Int) ((a0 : Int) + (z : Int)) = ((min q (a0 + z) : Nat) : Int) by omega]
   have hlo : a0 ≤ max p a0 := by omega
   have hhi : min q (a0 + z) ≤ a0 + z := by omega
   generalize max p a0 = lo at HTK hlo ⊢
   generalize min q (a0 + z) = hi at HTK hhi ⊢
   obtain ⟨x0, x1, x2, y0, y1, y2⟩ := bx3 HX4.out
   by_cases hlh : lo < hi
   ·have hlhi : (lo : Int) < (hi : Int) := by omega
    rw [if_pos hlh] at HTK
    by_cases hx : xk = 1
    ·subst hx
     rw [if_pos rfl] at HTK
     have hzs : xt.size = z := (HW1.out rfl).symm
     obtain ⟨y, hy⟩ : ∃ y : ByteArray, Hid (y = xt.extract (lo - a0) (hi - a0)) := ⟨_, rfl⟩
     rw [← hy.out] at HTK
     have hsl : (Instr.sliceAt 9 (.string xt) (some (.int .i64 ((lo : Int) - (a0 : Int)))) (some (.int .i64 ((hi : Int) - (a0 : Int)))) none).run Tryz.prog w4 = .ok (.string y) w4 := by
      have h1 : (lo : Int) - (a0 : Int) = ((lo - a0 : Nat) : Int) := by omega
      have h2 : (hi : Int) - (a0 : Int) = ((hi - a0 : Nat) : Int) := by omega
      rw [h1, h2, hy.out]
      exact slice_str xt _ _ (by omega) (by omega) w4
     have HZS := Lib.hid hzs
     clear hzs
     have h3 : (hi : Int) - (a0 : Int) ≤ (xt.size : Int) := by have := HZS.out; omega
     go_upto_region 13 with fail
     have HXa : Hid ((w4.setCell ⟨g, 1, none⟩ (.string y)).heap[g]? = some (.cells #[.int .i64 1, .string y, .int .i64 xd] 31)) := set_rw1 HX4.out 1 _
     have HBa := Lib.hid (HB4.out.setCell (p := ⟨g, 1, none⟩) (by show _ ≤ g; have := hg.out; omega) (.string y))
     have HOa : Hid (OwnE 31 tkC 3 (w4.setCell ⟨g, 1, none⟩ (.string y)) w.heap.size (.slice Ao no co) (slI (f.take k) 0 p q)) := own_stay HO4.out (fun j hj => heap_setCell_other _ _ _ _ (fun e => by have := HLT.out j hj; have e2 : j = g := e; omega))
     clear x0 x1 x2 y0 y1 y2 hsl h3
     generalize w4.setCell ⟨g, 1, none⟩ (.string y) = w5 at HXa HBa HOa ⊢
     obtain ⟨x0, x1, x2, y0, y1, y2⟩ := bx3 HXa.out
     have hgl5 : g < w5.heap.size := (Array.getElem?_eq_some_iff.1 HXa.out).1
     have hzc := HBa.out.size
     have HOn := Lib.hid (World.ownsRow.alloc HOa.out (.cells (tkC ⟨1, y, xd⟩).toArray 31))
     go_wp2_with (at_builtin; go_must (refine wpList_app1 rfl (.tmp 60) (.tmp 62) 24 31 rfl Tryz.underlying24 _ 3 32 item_info rfl (by decide) w.heap.size (.slice Ao no co) no ((slI (f.take k) 0 p q).flatMap tkC) rfl (by have h := HOn.out; simp only [hol1.out] at h; exact h) ⟨w5.heap.size, 0, none⟩ 1 (tkC ⟨1, y, xd⟩) rfl rfl (by exact cells_new _ _ _) (tkC_one _) (by omega) (by decide) (by simp; omega) ?_); intro g9 cap9 w9 hown9 hg9 hbel9 hgr9)
     have HO9 : Hid (OwnE 31 tkC 3 w9 w.heap.size (.slice (some ⟨g9, 0, none⟩) (no + 1) cap9) (slI (f.take (k + 1)) 0 p q)) := by
      show OwnE _ _ _ _ _ _ _
      rw [HTK.out]
      refine OwnE.snoc (f := tkC) ?_
      rw [hol1.out]
      exact hown9
     have HB9 := Lib.hid (hbel9 _ _ (Nat.le_refl _) (HBa.out.alloc hzc (.cells (tkC ⟨1, y, xd⟩).toArray 31)))
     clear hown9 hbel9 hgr9 HOn
     go_wp2_with fail
     go_roundg (f.length - (k + 1))
     case measure => omega
     case rel => exact ⟨k + 1, a0 + z, rfl, rfl, by omega, HAN.out, HO9.out, HB9.out, by omega⟩
    ·have t1 : (xk == 1) = false := by simpa using hx
     rw [if_neg hx] at HTK
     have HOa := HO4
     have HBa := HB4
     have hzc := HBa.out.size
     have HOn := Lib.hid (World.ownsRow.alloc HOa.out (.cells (tkC ⟨xk, xt, xd⟩).toArray 31))
     go_wp2_with (at_builtin; go_must (refine wpList_app1 rfl (.tmp 60) (.tmp 62) 24 31 rfl Tryz.underlying24 _ 3 32 item_info rfl (by decide) w.heap.size (.slice Ao no co) no ((slI (f.take k) 0 p q).flatMap tkC) rfl (by have h := HOn.out; simp only [hol1.out] at h; exact h) ⟨w4.heap.size, 0, none⟩ 1 (tkC ⟨xk, xt, xd⟩) rfl rfl (by exact cells_new _ _ _) (tkC_one _) (by omega) (by decide) (by simp; omega) ?_); intro g9 cap9 w9 hown9 hg9 hbel9 hgr9)
     have HO9 : Hid (OwnE 31 tkC 3 w9 w.heap.size (.slice (some ⟨g9, 0, none⟩) (no + 1) cap9) (slI (f.take (k + 1)) 0 p q)) := by
      show OwnE _ _ _ _ _ _ _
      rw [HTK.out]
      refine OwnE.snoc (f := tkC) ?_
      rw [hol1.out]
      exact hown9
     have HB9 := Lib.hid (hbel9 _ _ (Nat.le_refl _) (HBa.out.alloc hzc (.cells (tkC ⟨xk, xt, xd⟩).toArray 31)))
     clear hown9 hbel9 hgr9 HOn
     go_wp2_with fail
     go_roundg (f.length - (k + 1))
     case measure => omega
     case rel => exact ⟨k + 1, a0 + z, rfl, rfl, by omega, HAN.out, HO9.out, HB9.out, by omega⟩
   ·have hlhi : ¬ (lo : Int) < (hi : Int) := by omega
    rw [if_neg hlh, List.append_nil] at HTK
    go_wp2_with fail
    go_roundg (f.length - (k + 1))
    case measure => omega
    case rel => exact ⟨k + 1, a0 + z, rfl, rfl, by omega, HAN.out, by (show OwnE _ _ _ _ _ _ _); rw [HTK.out]; exact HO4.out, HB4.out, by omega⟩
  ·obtain rfl : k = f.length := by omega
   rw [List.take_length] at HO
   obtain ⟨Ao, co, hov⟩ := own_shape HO.out
   go_wp2_with fail
   rw [HRR.out]
   exact ⟨_, rfl, HO.out, HB.out⟩
end Go.Proofs.YtfkojnofbpdjdaaGreatDoor

namespace Go.Proofs.YtfkojnofbpdjdaaGreatDoor
set_option maxRecDepth 100000
def spcB (c : UInt8) : Bool := decide (clsN (c.toNat : Int) = 2)
def sqI (x : Tk) : List (Bool × Bool) := if x.k = 1 then x.t.data.toList.map (fun c => (!spcB c, spcB c)) else if x.k = 5 then [(true, false)] else [(false, false)]
def sqF (f : List Tk) : List (Bool × Bool) := f.flatMap sqI
def frI (R : List (Bool × Bool)) (x : Nat) : Nat := x + ((R.drop x).takeWhile (·.2)).length
def bkI (R : List (Bool × Bool)) (y : Nat) : Nat := y - ((R.take y).reverse.takeWhile (·.2)).length
def sgF (R : List (Bool × Bool)) (p q : Nat) : List (Nat × Nat) := if ((R.take q).drop p).any (·.1) = true then [(frI R p, bkI R q)] else []
def rngF (R : List (Bool × Bool)) : Nat → List Nat → List (Nat × Nat)
 | _, [] => []
 | p, q :: cs => sgF R p q ++ rngF R q cs
theorem sqF_app (f g : List Tk) : sqF (f ++ g) = sqF f ++ sqF g := by simp [sqF]
theorem sqF_one (x : Tk) : sqF [x] = sqI x := by simp [sqF]
theorem sqI_len (x : Tk) : (sqI x).length = wdI x := by
 unfold sqI wdI
 split
 ·rw [List.length_map]
  simp
 ·split <;> rfl
theorem sqF_len : ∀ f : List Tk, (sqF f).length = lenI f
 | [] => rfl
 | x :: f => by
   rw [show x :: f = [x] ++ f from rfl, sqF_app, sqF_one, List.length_append, sqI_len, sqF_len f, lenI_app]
   simp [lenI]
theorem sqI_pc (x : Tk) (a p q : Nat) : sqF (pcI x a p q) = ((sqI x).take (q - a)).drop (p - a) := by
 unfold pcI
 by_cases hx : x.k = 1
 ·rw [if_neg (by omega)]
  have e : sqI x = x.t.data.toList.map (fun c => (!spcB c, spcB c)) := by unfold sqI; rw [if_pos hx]
  have hl : x.t.data.toList.length = x.t.size := by simp
  rw [e]
  by_cases h : max p a - a < min q (a + x.t.size) - a
  ·rw [if_pos h, sqF_one]
   unfold sqI
   rw [if_pos rfl]
   show (x.t.extract (max p a - a) (min q (a + x.t.size) - a)).data.toList.map _ = _
   rw [ByteArray.data_extract, Array.toList_extract, ← List.map_take, ← List.map_drop]
   congr 1
   rw [List.extract_eq_take_drop, List.drop_take]
   rw [show p - a = max p a - a by omega]
   by_cases h2 : q ≤ a + x.t.size
   ·rw [show min q (a + x.t.size) - a = q - a by omega]
   ·rw [show min q (a + x.t.size) - a = x.t.size by omega]
    rw [List.take_of_length_le (by rw [List.length_drop, hl]; omega), List.take_of_length_le (by rw [List.length_drop, hl]; omega)]
  ·rw [if_neg h]
   rw [List.drop_eq_nil_of_le (by rw [List.length_take, List.length_map, hl]; omega)]
   rfl
 ·rw [if_pos hx]
  obtain ⟨c, hc⟩ : ∃ c, sqI x = [c] := by
   unfold sqI
   rw [if_neg hx]
   split <;> exact ⟨_, rfl⟩
  by_cases h : p ≤ a ∧ a < q
  ·rw [if_pos h, sqF_one, hc, show q - a = (q - a - 1) + 1 by omega, show p - a = 0 by omega]
   simp
  ·rw [if_neg h, hc]
   by_cases h2 : a < q
   ·rw [show p - a = (p - a - 1) + 1 by omega, show q - a = (q - a - 1) + 1 by omega]
    simp [sqF]
   ·rw [show q - a = 0 by omega]
    simp [sqF]
theorem sqF_sl (p q : Nat) : ∀ (f : List Tk) (a : Nat), sqF (slI f a p q) = ((sqF f).take (q - a)).drop (p - a)
 | [], a => by simp [slI, sqF]
 | x :: f, a => by
   rw [slI, sqF_app, sqI_pc, sqF_sl p q f, show x :: f = [x] ++ f from rfl, sqF_app [x] f, sqF_one, cut_app, sqI_len]
theorem byI_any (x : Tk) : (byI x).any (fun c => !spcB c) = (sqI x).any (·.1) := by
 unfold byI sqI
 split
 ·rw [List.any_map]
  rfl
 ·split
  ·rfl
  ·rfl
theorem plI_any : ∀ f : List Tk, (plI f).any (fun c => !spcB c) = (sqF f).any (·.1)
 | [] => rfl
 | x :: f => by
   rw [show x :: f = [x] ++ f from rfl, plI_app, sqF_app, List.any_append, List.any_append, plI_any f, sqF_one, ← byI_any]
   congr 2
   simp [plI]
theorem trim_any_iff {l : List UInt8} {x y : Nat} (h : IsTrim l x y) : x < y ↔ l.any (fun c => !spcB c) = true := by
 constructor
 ·intro hxy
  rcases h with ⟨rfl, rfl, _⟩ | ⟨h1, h2, h3, _⟩
  ·omega
  ·have hx : x < l.length := by omega
   have h9 := h3 _ (List.getElem?_eq_getElem hx)
   rw [List.any_eq_true]
   refine ⟨l[x], List.getElem_mem hx, ?_⟩
   unfold spcB
   simp [h9]
 ·intro ha
  rw [List.any_eq_true] at ha
  obtain ⟨c, hc, h9⟩ := ha
  unfold spcB at h9
  rcases h with ⟨rfl, rfl, h3⟩ | ⟨h1, _⟩
  ·exfalso
   obtain ⟨j, hj⟩ := List.mem_iff_getElem?.1 hc
   have := h3 j c hj
   simp [this] at h9
  ·exact h1
theorem sqI_ex (x : Tk) : ∀ c ∈ sqI x, c.1 = true → c.2 = false := by
 unfold sqI
 intro c hc h
 split at hc
 ·obtain ⟨b, _, rfl⟩ := List.mem_map.1 hc
  simpa using h
 ·split at hc
  ·rw [List.mem_singleton.1 hc]
  ·rw [List.mem_singleton.1 hc]
theorem sqF_ex (f : List Tk) : ∀ c ∈ sqF f, c.1 = true → c.2 = false := by
 intro c hc
 obtain ⟨x, _, hx⟩ := List.mem_flatMap.1 hc
 exact sqI_ex x c hx
/-! ### The ends of a segment -/
theorem frI_step (R : List (Bool × Bool)) (x : Nat) (h : x < R.length) (hs : R[x].2 = true) : frI R x = frI R (x + 1) := by
 unfold frI
 rw [List.drop_eq_getElem_cons h, List.takeWhile_cons, if_pos hs, List.length_cons]
 omega
theorem frI_stop (R : List (Bool × Bool)) (x : Nat) (h : x < R.length) (hs : R[x].2 = false) : frI R x = x := by
 unfold frI
 rw [List.drop_eq_getElem_cons h, List.takeWhile_cons, if_neg (by simp [hs])]
 rfl
theorem bkI_step (R : List (Bool × Bool)) (y : Nat) (h : y < R.length) (hs : R[y].2 = true) : bkI R (y + 1) = bkI R y := by
 unfold bkI
 rw [List.take_succ_eq_append_getElem h, List.reverse_append, List.reverse_singleton, List.singleton_append, List.takeWhile_cons, if_pos hs, List.length_cons]
 omega
theorem bkI_stop (R : List (Bool × Bool)) (y : Nat) (h : y < R.length) (hs : R[y].2 = false) : bkI R (y + 1) = y + 1 := by
 unfold bkI
 rw [List.take_succ_eq_append_getElem h, List.reverse_append, List.reverse_singleton, List.singleton_append, List.takeWhile_cons, if_neg (by simp [hs])]
 rfl
theorem frI_ge (R : List (Bool × Bool)) (x : Nat) : x ≤ frI R x := by unfold frI; omega
theorem bkI_le (R : List (Bool × Bool)) (y : Nat) : bkI R y ≤ y := by unfold bkI; omega
theorem frI_le (R : List (Bool × Bool)) (x j : Nat) (hx : x ≤ j) (hj : j < R.length) (hs : R[j].2 = false) : frI R x ≤ j := by
 obtain ⟨d, rfl⟩ : ∃ d, j = x + d := ⟨j - x, by omega⟩
 induction d generalizing x with
 | zero => rw [Nat.add_zero] at *; rw [frI_stop R x hj (by simpa using hs)]; exact Nat.le_refl _
 | succ d ih =>
   have hxl : x < R.length := by omega
   by_cases h2 : R[x].2 = true
   ·rw [frI_step R x hxl h2]
    have e : x + 1 + d = x + (d + 1) := by omega
    have := ih (x + 1) (by omega) (by omega) (by simp only [e]; exact hs)
    omega
   ·rw [frI_stop R x hxl (by simpa using h2)]
    omega
theorem bkI_gt (R : List (Bool × Bool)) (y j : Nat) (hy : j < y) (hyl : y ≤ R.length) (hs : (R[j]'(by omega)).2 = false) : j < bkI R y := by
 obtain ⟨d, rfl⟩ : ∃ d, y = j + 1 + d := ⟨y - j - 1, by omega⟩
 induction d with
 | zero => rw [Nat.add_zero, bkI_stop R j (by omega) hs]; omega
 | succ d ih =>
   have hxl : j + 1 + d < R.length := by omega
   by_cases h2 : R[j + 1 + d].2 = true
   ·rw [show j + 1 + (d + 1) = j + 1 + d + 1 by omega, bkI_step R _ hxl h2]
    exact ih (by omega) (by omega) hs
   ·rw [show j + 1 + (d + 1) = j + 1 + d + 1 by omega, bkI_stop R _ hxl (by simpa using h2)]
    omega
theorem frI_none (R : List (Bool × Bool)) (x j : Nat) (h1 : x ≤ j) (h2 : j < frI R x) : ∃ h : j < R.length, R[j].2 = true := by
 by_cases hj : j < R.length
 ·refine ⟨hj, ?_⟩
  cases h : R[j].2 with
  | true => rfl
  | false => have := frI_le R x j h1 hj h; omega
 ·exfalso
  unfold frI at h2
  have := (List.takeWhile_sublist (fun c : Bool × Bool => c.2) (l := R.drop x)).length_le
  rw [List.length_drop] at this
  omega
theorem bkI_none (R : List (Bool × Bool)) (y j : Nat) (hyl : y ≤ R.length) (h1 : bkI R y ≤ j) (h2 : j < y) : (R[j]'(by omega)).2 = true := by
 cases h : (R[j]'(by omega)).2 with
 | true => rfl
 | false => have := bkI_gt R y j h2 hyl h; omega
theorem any_pos (R : List (Bool × Bool)) (p q : Nat) (hR : ∀ c ∈ R, c.1 = true → c.2 = false) (ha : ((R.take q).drop p).any (·.1) = true) : ∃ j, ∃ h : j < R.length, p ≤ j ∧ j < q ∧ R[j].1 = true ∧ R[j].2 = false := by
 rw [List.any_eq_true] at ha
 obtain ⟨c, hc, h1⟩ := ha
 obtain ⟨i, hi⟩ := List.mem_iff_getElem?.1 hc
 rw [List.getElem?_drop, List.getElem?_take] at hi
 split at hi
 ·obtain ⟨hl, hx⟩ := List.getElem?_eq_some_iff.1 hi
  refine ⟨p + i, hl, by omega, by assumption, by rw [hx]; exact h1, ?_⟩
  exact hR _ (List.getElem_mem hl) (by rw [hx]; exact h1)
 ·cases hi
theorem pos_any (R : List (Bool × Bool)) (p q j : Nat) (hj : j < R.length) (h1 : p ≤ j) (h2 : j < q) (h3 : R[j].1 = true) : ((R.take q).drop p).any (·.1) = true := by
 rw [List.any_eq_true]
 refine ⟨R[j], ?_, h3⟩
 refine List.mem_iff_getElem?.2 ⟨j - p, ?_⟩
 rw [List.getElem?_drop, List.getElem?_take, if_pos (by omega), show p + (j - p) = j by omega]
 exact List.getElem?_eq_getElem hj
theorem frI_at (R : List (Bool × Bool)) (x j : Nat) (hx : x ≤ j) (hj : j < R.length) (hs : R[j].2 = false) : ∃ k, frI R x = k ∧ ∃ h : k < R.length, R[k].2 = false := by
 obtain ⟨d, rfl⟩ : ∃ d, j = x + d := ⟨j - x, by omega⟩
 induction d generalizing x with
 | zero => exact ⟨x, frI_stop R x (by omega) (by simpa using hs), by omega, by simpa using hs⟩
 | succ d ih =>
   have hxl : x < R.length := by omega
   by_cases h2 : R[x].2 = true
   ·rw [frI_step R x hxl h2]
    have e : x + 1 + d = x + (d + 1) := by omega
    exact ih (x + 1) (by omega) (by omega) (by simp only [e]; exact hs)
   ·exact ⟨x, frI_stop R x hxl (by simpa using h2), hxl, by simpa using h2⟩
theorem bkI_at (R : List (Bool × Bool)) (y j : Nat) (hy : j < y) (hyl : y ≤ R.length) (hs : (R[j]'(by omega)).2 = false) : ∃ k, bkI R y = k + 1 ∧ ∃ h : k < R.length, R[k].2 = false := by
 obtain ⟨d, rfl⟩ : ∃ d, y = j + 1 + d := ⟨y - j - 1, by omega⟩
 induction d with
 | zero => exact ⟨j, by rw [Nat.add_zero]; exact bkI_stop R j (by omega) hs, by omega, hs⟩
 | succ d ih =>
   have hxl : j + 1 + d < R.length := by omega
   by_cases h2 : R[j + 1 + d].2 = true
   ·rw [show j + 1 + (d + 1) = j + 1 + d + 1 by omega, bkI_step R _ hxl h2]
    exact ih (by omega) (by omega) hs
   ·exact ⟨j + 1 + d, by rw [show j + 1 + (d + 1) = j + 1 + d + 1 by omega]; exact bkI_stop R _ hxl (by simpa using h2), hxl, by simpa using h2⟩
/-! ### The cuts -/
def AscF : Nat → List Nat → Nat → Prop
 | p, [], n => p = n
 | p, c :: cs, n => p ≤ c ∧ AscF c cs n
theorem AscF.le : ∀ {cs : List Nat} {p n : Nat}, AscF p cs n → p ≤ n
 | [], _, _, h => Nat.le_of_eq h
 | c :: cs, p, n, h => Nat.le_trans h.1 (AscF.le h.2)
theorem AscF.at_ : ∀ {cs : List Nat} {p n : Nat} (k : Nat) (hk : k < cs.length), AscF p cs n → (p :: cs).getD k 0 ≤ cs[k] ∧ cs[k] ≤ n
 | c :: cs, p, n, 0, _, h => ⟨by simpa using h.1, by simpa using AscF.le h.2⟩
 | c :: cs, p, n, k + 1, hk, h => by
   have := AscF.at_ (cs := cs) (p := c) k (by simpa using hk) h.2
   simpa using this
theorem rngF_take (R : List (Bool × Bool)) : ∀ (cs : List Nat) (p k : Nat) (hk : k < cs.length), rngF R p (cs.take (k + 1)) = rngF R p (cs.take k) ++ sgF R ((p :: cs).getD k 0) cs[k]
 | c :: cs, p, 0, _ => by simp [rngF]
 | c :: cs, p, k + 1, hk => by
   have h := rngF_take R cs c k (by simpa using hk)
   rw [List.take_succ_cons, rngF, h, List.take_succ_cons, rngF, List.append_assoc]
   simp
theorem clP_le : ∀ ps : List (Bool × Bool), clP ps ≤ ps.length
 | [] => Nat.le_refl _
 | x :: ps => by
   rw [clP, List.length_cons]
   have := clP_le ps
   split <;> omega
theorem placeP_le : ∀ (ps : List (Bool × Bool)) (o : Nat), placeP ps o ≤ ps.length
 | ps, 0 => by cases ps <;> exact clP_le _
 | [], _ + 1 => Nat.le_refl _
 | x :: ps, o + 1 => by
   rw [placeP, List.length_cons]
   have := placeP_le ps (if x.1 = true then o else o + 1)
   omega
theorem placeP_zero (ps : List (Bool × Bool)) : placeP ps 0 = clP ps := by cases ps <;> rfl
theorem clP_place : ∀ (ps : List (Bool × Bool)) (o : Nat), o ≤ cntP ps → clP ps ≤ placeP ps o
 | [], o, _ => by simp [clP]
 | x :: ps, 0, _ => by rw [placeP_zero]; exact Nat.le_refl _
 | x :: ps, o + 1, h => by
   rw [cntP_cons] at h
   rw [placeP, clP]
   split
   ·by_cases hx : x.1 = true
    ·rw [if_pos hx] at h ⊢
     have := clP_place ps o (by omega)
     omega
    ·rw [if_neg hx] at h ⊢
     have := clP_place ps (o + 1) (by omega)
     omega
   ·omega
theorem placeP_mono : ∀ (ps : List (Bool × Bool)) (a b : Nat), a ≤ b → b ≤ cntP ps → placeP ps a ≤ placeP ps b
 | ps, 0, b, _, hb => by rw [placeP_zero]; exact clP_place ps b hb
 | [], a + 1, b, h, hb => by simp [cntP] at hb; omega
 | x :: ps, a + 1, 0, h, _ => by omega
 | x :: ps, a + 1, b + 1, h, hb => by
   rw [cntP_cons] at hb
   rw [placeP, placeP]
   by_cases hx : x.1 = true
   ·rw [if_pos hx] at hb
    rw [if_pos hx, if_pos hx]
    have := placeP_mono ps a b (by omega) (by omega)
    omega
   ·rw [if_neg hx] at hb
    rw [if_neg hx, if_neg hx]
    have := placeP_mono ps (a + 1) (b + 1) (by omega) (by omega)
    omega
def cutsF (f : List Tk) (bl : List Nat) : List Nat := bl.map (placeP (posI f)) ++ [lenI f]
theorem cuts_asc (f : List Tk) : ∀ (bl : List Nat) (a : Nat), (a :: bl).Pairwise (· ≤ ·) → (∀ b ∈ a :: bl, b ≤ (plI f).length) → AscF (placeP (posI f) a) (cutsF f bl) (lenI f)
 | [], a, _, _ => ⟨by have := placeP_le (posI f) a; rw [posI_len] at this; exact this, rfl⟩
 | b :: bl, a, h, hb => by
   refine ⟨?_, ?_⟩
   ·refine placeP_mono _ _ _ ?_ ?_
    ·exact (List.pairwise_cons.1 h).1 b (by simp)
    ·rw [cntP_pos]; exact hb b (by simp)
   ·exact cuts_asc f bl b (List.pairwise_cons.1 h).2 (fun c hc => hb c (by simp [hc]))
theorem AscF.zero {cs : List Nat} {p n : Nat} (h : AscF p cs n) (hc : cs ≠ []) : AscF 0 cs n := by
 cases cs with
 | nil => exact absurd rfl hc
 | cons c cs => exact ⟨Nat.zero_le _, h.2⟩
/-! ### What the segments cover -/
def CovF (R : List (Bool × Bool)) : Nat → List (Nat × Nat) → Prop
 | a0, [] => ∀ j, ∀ h : j < R.length, a0 ≤ j → R[j].1 = false
 | a0, r :: l => a0 ≤ r.1 ∧ r.1 < r.2 ∧ r.2 ≤ R.length ∧ (∀ j, ∀ h : j < R.length, a0 ≤ j → j < r.1 → R[j].1 = false) ∧ (∃ h : r.1 < R.length, R[r.1].2 = false) ∧ (∃ h : r.2 - 1 < R.length, R[r.2 - 1].2 = false) ∧ (∃ j, ∃ h : j < R.length, r.1 ≤ j ∧ j < r.2 ∧ R[j].1 = true) ∧ CovF R r.2 l
theorem rng_cov (R : List (Bool × Bool)) (hR : ∀ c ∈ R, c.1 = true → c.2 = false) : ∀ (cs : List Nat) (a0 p : Nat), AscF p cs R.length → a0 ≤ p → (∀ j, ∀ h : j < R.length, a0 ≤ j → j < p → R[j].1 = false) → CovF R a0 (rngF R p cs)
 | [], a0, p, hA, h0, hg => fun j h hj => hg j h hj (by have : p = R.length := hA; omega)
 | q :: cs, a0, p, hA, h0, hg => by
   have hq := hA.2.le
   have hpq := hA.1
   rw [rngF]
   unfold sgF
   by_cases ha : ((R.take q).drop p).any (·.1) = true
   ·rw [if_pos ha, List.singleton_append]
    obtain ⟨j, hj, h1, h2, h3, h4⟩ := any_pos R p q hR ha
    have e1 := frI_ge R p
    have e2 := frI_le R p j h1 hj h4
    have e3 := bkI_gt R q j h2 hq h4
    have e4 := bkI_le R q
    refine ⟨by show a0 ≤ frI R p; omega, by show frI R p < bkI R q; omega, by show bkI R q ≤ _; omega, fun i hi i1 i2 => ?_, ?_, ?_, ⟨j, hj, e2, e3, h3⟩, ?_⟩
    ·by_cases hip : i < p
     ·exact hg i hi i1 hip
     ·obtain ⟨_, hs⟩ := frI_none R p i (by omega) i2
      cases h9 : R[i].1 with
      | false => rfl
      | true => rw [hR _ (List.getElem_mem hi) h9] at hs; cases hs
    ·obtain ⟨k, hk, hkl, hks⟩ := frI_at R p j h1 hj h4
     show ∃ h : frI R p < R.length, R[frI R p].2 = false
     rw [hk]
     exact ⟨hkl, hks⟩
    ·obtain ⟨k, hk, hkl, hks⟩ := bkI_at R q j h2 hq h4
     show ∃ h : bkI R q - 1 < R.length, R[bkI R q - 1].2 = false
     rw [hk]
     exact ⟨hkl, hks⟩
    ·refine rng_cov R hR cs (bkI R q) q hA.2 e4 (fun i hi i1 i2 => ?_)
     have hs := bkI_none R q i hq i1 i2
     cases h9 : R[i].1 with
     | false => rfl
     | true => rw [hR _ (List.getElem_mem hi) h9] at hs; cases hs
   ·rw [if_neg ha, List.nil_append]
    refine rng_cov R hR cs a0 q hA.2 (by omega) (fun i hi i1 i2 => ?_)
    by_cases hip : i < p
    ·exact hg i hi i1 hip
    ·cases h9 : R[i].1 with
     | false => rfl
     | true => exact absurd (pos_any R p q i hi (by omega) i2 h9) ha
end Go.Proofs.YtfkojnofbpdjdaaGreatDoor

namespace Go.Proofs.YtfkojnofbpdjdaaGreatDoor
set_option maxRecDepth 100000
open Go.RowKit
theorem fill_atom (x : At) : Instr.fill (fun i => some (i * 34, 34)) ((Array.range (1 * 34)).map ((Value.agg (atC ⟨noP, 0, false⟩).toArray).cells[· % (Value.agg (atC ⟨noP, 0, false⟩).toArray).cells.size]!)) [(0, .agg (atC x).toArray)] = some (atC x).toArray := by kernel_rfl
theorem atom_info : (Tryz.prog.info? 107).map (fun i => (i.zero, i.size, i.bytes)) = some (some (.agg (atC ⟨noP, 0, false⟩).toArray), 34, 48) := by kernel_rfl
def AtIn (w : World) (g : Nat) (x : At) : Prop := w.heap[g]? = some (.cells (atC x).toArray 107)
theorem AtIn.setMn {w : World} {g : Nat} {p : Nat → Bool} {mn : Int} {many : Bool} (h : AtIn w g ⟨p, mn, many⟩) (k : Int) : AtIn (w.setCell ⟨g, 32, none⟩ (.int .i64 k)) g ⟨p, k, many⟩ := by
 unfold AtIn at *
 rw [heap_setCell_same w g 32 _ _ _ h]
 rfl
theorem at_zero (w : World) : AtIn (w.alloc (.cells #[.int .u8 0, .int .u8 0, .int .u8 0, .int .u8 0, .int .u8 0, .int .u8 0, .int .u8 0, .int .u8 0, .int .u8 0, .int .u8 0, .int .u8 0, .int .u8 0, .int .u8 0, .int .u8 0, .int .u8 0, .int .u8 0, .int .u8 0, .int .u8 0, .int .u8 0, .int .u8 0, .int .u8 0, .int .u8 0, .int .u8 0, .int .u8 0, .int .u8 0, .int .u8 0, .int .u8 0, .int .u8 0, .int .u8 0, .int .u8 0, .int .u8 0, .int .u8 0, .int .i64 0, .bool false] 107)) w.heap.size ⟨noP, 0, false⟩ := by
 have e : (#[.int .u8 0, .int .u8 0, .int .u8 0, .int .u8 0, .int .u8 0, .int .u8 0, .int .u8 0, .int .u8 0, .int .u8 0, .int .u8 0, .int .u8 0, .int .u8 0, .int .u8 0, .int .u8 0, .int .u8 0, .int .u8 0, .int .u8 0, .int .u8 0, .int .u8 0, .int .u8 0, .int .u8 0, .int .u8 0, .int .u8 0, .int .u8 0, .int .u8 0, .int .u8 0, .int .u8 0, .int .u8 0, .int .u8 0, .int .u8 0, .int .u8 0, .int .u8 0, .int .i64 0, .bool false] : Array Value) = (atC ⟨noP, 0, false⟩).toArray := by kernel_rfl
 rw [e]
 exact heap_alloc_new w _
theorem AtIn.row {w : World} {g : Nat} {x : At} (h : AtIn w g x) (y : At) : AtIn (w.setRow g (atC y).toArray) g y := setRow_heap w g _ _ _ _ h
theorem atom_size : (Tryz.prog.info? 107).map (·.size) = some 34 := by kernel_rfl
theorem atC_size (x : At) : (atC x).toArray.size = 34 := by rw [List.size_toArray, atC_len]
theorem atC_oneA (x : At) : (atC x).toArray.all (·.oneCell') = true := by
 rw [Array.all_eq_true_iff_forall_mem]
 intro v hv
 have h := List.mem_toArray.1 hv
 unfold atC at h
 rcases List.mem_append.1 h with h | h
 ·have := (Array.all_eq_true_iff_forall_mem.1 (setC_one x.p)) v (List.mem_toArray.2 h)
  exact this
 ·simp at h
  rcases h with rfl | rfl <;> rfl
theorem AtIn.mn {w : World} {g : Nat} {x : At} (h : AtIn w g x) : w.cell? ⟨g, 32, none⟩ = some (.int .i64 x.mn) := by
 rw [cell_of_row _ _ _ _ _ _ h]
 simpa using atC_mn x
theorem AtIn.many {w : World} {g : Nat} {x : At} (h : AtIn w g x) : w.cell? ⟨g, 33, none⟩ = some (.bool x.many) := by
 rw [cell_of_row _ _ _ _ _ _ h]
 simpa using atC_many x
theorem AtIn.free {w : World} {g : Nat} {x : At} (h : AtIn w g x) (k : Nat) : w.frozen? ⟨g, k, none⟩ = false := frozen_of_row w g k _ _ h
theorem AtIn.keep {w w' : World} {g : Nat} {x : At} (h : AtIn w g x) (e : w'.heap[g]? = w.heap[g]?) : AtIn w' g x := e.trans h
theorem atC_one (x : At) : ∀ u ∈ atC x, u.oneCell' = true := fun u hu => (Array.all_eq_true_iff_forall_mem.1 (atC_oneA x)) u (List.mem_toArray.2 hu)
theorem wpList_buildOne {ops : Array Oper} {rest : List Oper} {o : Oper} {a : Act} {w : World} {Q : Exit → Act → World → Prop} (hg : o.guard = none) (x : Operand) (ho : o.op = .buildSlice 108 1 #[(0, x)]) (y : At) (hx : a.eval x = .agg (atC y).toArray)
 (h : wpList Tryz.prog ops Q rest (a.put o.dst (.slice (some ⟨w.heap.size, 0, none⟩) 1 1)) (w.alloc (.cells (atC y).toArray 107))) : wpList Tryz.prog ops Q (o :: rest) a w := by
 obtain ⟨i, hi, hz, hsize, hby⟩ := info_parts atom_info
 refine wpList_buildSlice hg 108 107 1 #[(0, x)] ho (atC y).toArray i _ Tryz.underlying108 hi hz (by rw [hsize]; decide) (by rw [hsize]; decide) ?_ h
 rw [hsize]
 simp only [List.map_toArray, List.map_cons, List.map_nil, hx]
 exact fill_atom y
end Go.Proofs.YtfkojnofbpdjdaaGreatDoor

namespace Go.Proofs.YtfkojnofbpdjdaaGreatDoor
set_option maxRecDepth 100000
open Go.RowKit
theorem AtIn.range {w : World} {g : Nat} {x : At} (h : AtIn w g x) : w.rangeAt g 0 (atC x) := fun j v hj => by
 rw [Nat.zero_add, cell_of_row _ _ _ _ _ _ h]
 simpa using hj
theorem bool_info : (Tryz.prog.info? 4).map (fun i => (i.zero, i.size, i.bytes)) = some (some (.bool false), 1, 1) := by kernel_rfl
def RetPl (w : World) (n : Nat) (f : Nat → Bool) (e : Ending) (w' : World) : Prop :=
 ∃ g, e = .returned (.slice (some ⟨g, 0, none⟩) n n) ∧ w.heap.size ≤ g ∧ w'.rowIs g 4 n (fun j => .bool (f j)) ∧ Below w.heap.size w w'
end Go.Proofs.YtfkojnofbpdjdaaGreatDoor

namespace Go.Proofs.YtfkojnofbpdjdaaGreatDoor
set_option maxRecDepth 100000
open Go.RowKit
def boolC (b : Bool) : List Value := [.bool b]
theorem boolC_len (b : Bool) : (boolC b).length = 1 := rfl
theorem boolC_one (b : Bool) : ∀ u ∈ boolC b, u.oneCell' = true := by
 intro u hu
 simp [boolC] at hu
 subst hu
 rfl
def spF (f : List Tk) : List Bool := (sqF f).map (·.2)
theorem spF_take (f : List Tk) (k : Nat) (h : k < f.length) : spF (f.take (k + 1)) = spF (f.take k) ++ (sqI f[k]).map (·.2) := by
 unfold spF
 rw [List.take_succ_eq_append_getElem h, sqF_app, List.map_append, sqF_one]
theorem spF_len (f : List Tk) : (spF f).length = lenI f := by unfold spF; rw [List.length_map, sqF_len]
theorem sqI_text (t : ByteArray) (d : Int) : (sqI ⟨1, t, d⟩).map (·.2) = t.data.toList.map spcB := by
 unfold sqI
 rw [if_pos rfl, List.map_map]
 rfl
theorem sqI_other (k : Int) (t : ByteArray) (d : Int) (h : k ≠ 1) : (sqI ⟨k, t, d⟩).map (·.2) = [false] := by
 unfold sqI
 rw [if_neg h]
 split <;> rfl
theorem take_map_snoc (s : ByteArray) (i : Nat) (h : i < s.size) : (s.data.toList.map spcB).take (i + 1) = (s.data.toList.map spcB).take i ++ [spcB s[i]] := by
 rw [List.take_succ_eq_append_getElem (by simpa using h)]
 congr 1
 simp only [List.getElem_map]
 rfl
theorem own_apart {w : World} {B : Nat} {e : TypeId} {size : Nat} {v : Value} {n : Nat} {xs : List Value} (h : w.ownsRow B e size v n xs) {q : Nat} {cs : Array Value} {t : TypeId} (hq : w.heap[q]? = some (.cells cs t)) (ht : t ≠ e) : ∀ g, v.ownBlock = some g → g ≠ q := by
 rintro g hg rfl
 rcases h.2 with ⟨rfl, _⟩ | ⟨g', cap, cur, rfl, _, hh, _⟩
 ·cases hg
 ·injection hg with hg
  subst hg
  rw [hq] at hh
  injection hh with hh
  injection hh with _ h2 _
  exact ht h2
theorem blanks_any (f : List Tk) (v : Value) (w : World) (h1 : RdT w v f) (hl : lenI f ≤ 1000000000) (hfl : f.length ≤ 1000000) :
 Calls Tryz.prog 63 #[v] w (RetOwn 4 boolC 1 w (spF f)) := by
 obtain ⟨R, HRR⟩ : ∃ R, Hid (R = RetOwn 4 boolC 1 w (spF f)) := ⟨_, rfl⟩
 rw [← HRR.out]
 obtain ⟨A, c, rfl, _, _⟩ := h1.shape
 have H1 := Lib.hid h1
 clear h1
 go_enter Tryz.func63, Tryz.ntmps63
 go_wp2_with fail
 obtain ⟨wo, HWO⟩ : ∃ wo, Hid (wo = w) := ⟨w, rfl⟩
 go_loopg [3, 5, 6, 9] f.length (fun gk ov xv iv jv wr => ∃ k : Nat, jv = .int .i64 k ∧ k ≤ f.length ∧ Hid (OwnE 4 boolC 1 wr w.heap.size ov (spF (f.take k))) ∧ Hid (Below w.heap.size w wr) ∧ f.length - k ≤ gk)
 case atStart => exact ⟨0, rfl, Nat.zero_le _, by (show OwnE _ _ _ _ _ _ _); rw [List.take_zero]; exact OwnE.nil, Below.refl _ _, by omega⟩
 case round =>
  clear HWO
  obtain ⟨k, rfl, hk, HO, HB, hgk⟩ := hrel
  by_cases hkl : k < f.length
  ·have hki : (k : Int) < (f.length : Int) := by omega
   have hk0 : (0 : Int) ≤ (k : Int) := by omega
   obtain ⟨b, o, rfl, hbl, q1, q2, q3⟩ := RdT.at_ H1.out k hkl
   have hsz := HB.out.size
   rw [← HB.out.cell (p := ⟨b, o + k * 3, none⟩) hbl] at q1
   rw [← HB.out.cell (p := ⟨b, o + k * 3 + 1, none⟩) hbl] at q2
   rw [← HB.out.cell (p := ⟨b, o + k * 3 + 2, none⟩) hbl] at q3
   have hbl2 : b < wr.heap.size := by omega
   have hle := lenI_le f (k + 1)
   have hle2 := lenI_take f k hkl
   have HTK := Lib.hid (spF_take f k hkl)
   have hol := spF_len (f.take k)
   have hol3 := spF_len (f.take (k + 1))
   obtain ⟨Ao, co, hov⟩ := own_shape HO.out
   generalize hl0 : spF (f.take k) = l0 at HO hov HTK hol
   generalize hl1 : spF (f.take (k + 1)) = l1 at HTK hol3
   subst hov
   have hln : l0.length ≤ 1000000000 := by omega
   have hln1 : l1.length ≤ 1000000000 := by omega
   have HL1 := Lib.hid hl1
   clear hl0 hl1 hol hol3
   generalize f[k] = x at q1 q2 q3 HTK hle2
   obtain ⟨xk, xt, xd⟩ := x
   simp only at q1 q2 q3
   have hxs : xk = 1 → xt.size ≤ 1000000000 := fun e => by
    have : wdI ⟨xk, xt, xd⟩ = xt.size := by unfold wdI; rw [if_pos e]
    omega
   have HX : Hid ((wr.alloc (.cells #[.int .i64 xk, .string xt, .int .i64 xd] 31)).heap[wr.heap.size]? = some (.cells #[.int .i64 xk, .string xt, .int .i64 xd] 31)) := heap_alloc_new wr _
   have HB1 := Lib.hid (HB.out.alloc hsz (.cells #[.int .i64 xk, .string xt, .int .i64 xd] 31))
   have HO1 := Lib.hid (World.ownsRow.alloc HO.out (.cells #[.int .i64 xk, .string xt, .int .i64 xd] 31))
   clear hle hle2
   go_upto_region 5 with fail
   generalize wr.alloc (.cells #[.int .i64 xk, .string xt, .int .i64 xd] 31) = w3 at HX HB1 HO1 ⊢
   obtain ⟨q, hq⟩ : ∃ q, Hid (q = wr.heap.size) := ⟨_, rfl⟩
   rw [← hq.out] at HX ⊢
   have hql : q < w3.heap.size := (Array.getElem?_eq_some_iff.1 HX.out).1
   clear q1 q2 q3
   obtain ⟨x0, x1, x2, _⟩ := bx3 HX.out
   have HLT : Hid (∀ g, (Value.slice Ao l0.length co).ownBlock = some g → g < q) := fun g hg => by have := (HO.out.lt g hg).2; rw [hq.out]; exact this
   have hzw := HB1.out.size
   by_cases hx : xk = 1
   ·subst hx
    have hxs2 := hxs rfl
    rw [sqI_text] at HTK
    have t1 : ((1 : Int) != 1) = false := rfl
    clear hxs
    go_upto_region 8 with fail
    obtain ⟨wo, HWO⟩ : ∃ wo, Hid (wo = w3) := ⟨w3, rfl⟩
    go_loopg [3, 6] xt.size (fun gk ov iv wx => ∃ i : Nat, iv = .int .i64 i ∧ i ≤ xt.size ∧ Hid (OwnE 4 boolC 1 wx w.heap.size ov (l0 ++ (xt.data.toList.map spcB).take i)) ∧ Hid (Below w.heap.size w wx) ∧ Hid (wx.heap[q]? = some (.cells #[.int .i64 1, .string xt, .int .i64 xd] 31)) ∧ Hid (∀ g, ov.ownBlock = some g → g ≠ q) ∧ xt.size - i ≤ gk)
    case atStart => exact ⟨0, rfl, Nat.zero_le _, by (show OwnE _ _ _ _ _ _ _); rw [List.take_zero, List.append_nil]; exact HO1.out, HB1.out, HX.out, fun g hg => by have := HLT.out g hg; omega, by omega⟩
    case round =>
     clear HWO HO1 HB1 HX HLT hql x0 x1 x2 hzw
     obtain ⟨i, rfl, hi, HOX, HBX, HX, HLT, hgi⟩ := hrel
     obtain ⟨x0, x1, x2, _⟩ := bx3 HX.out
     have hql : q < wr.heap.size := (Array.getElem?_eq_some_iff.1 HX.out).1
     have hzx := HBX.out.size
     by_cases hil : i < xt.size
     ·have hii : (i : Int) < (xt.size : Int) := by omega
      have hi0 : (0 : Int) ≤ (i : Int) := by omega
      have HSN := Lib.hid (take_map_snoc xt i hil)
      have h255 : xt[i].toNat < 256 := xt[i].toNat_lt
      have HOF := Lib.hid (fun w' => of_any (xt[i].toNat : Int) w' (by omega) (by omega))
      obtain ⟨bb, hbb⟩ : ∃ bb : Bool, Hid (spcB xt[i] = bb) := ⟨spcB xt[i], rfl⟩
      have t5 : (clsN (xt[i].toNat : Int) == 2) = bb := by rw [← hbb.out]; rfl
      rw [hbb.out] at HSN
      generalize hzz : clsN (xt[i].toNat : Int) = zz at HOF t5
      obtain ⟨Ax, cx, hvx⟩ := own_shape HOX.out
      have hlx : (l0 ++ (xt.data.toList.map spcB).take i).length ≤ 1000000000 := by
       have := congrArg List.length HTK.out
       rw [List.length_append] at this ⊢
       rw [List.length_take]
       simp only [List.length_map] at this ⊢
       omega
      generalize hlq : l0 ++ (xt.data.toList.map spcB).take i = lq at HOX hvx hlx
      subst hvx
      have HLQ := Lib.hid hlq
      clear hlq hzz
      have HSN2 : Hid (lq ++ [bb] = l0 ++ (xt.data.toList.map spcB).take (i + 1)) := by
       show _ = _
       rw [HSN.out, ← HLQ.out, List.append_assoc]
      go_wp2_with (first
       | (go_at_call 97; refine (HOF.out _).mono ?_; rintro e w4 ⟨rfl, rfl⟩)
       | (at_builtin; go_must (refine wpList_app1 rfl (.tmp 26) (.tmp 33) 134 4 rfl Tryz.underlying134 _ 1 1 bool_info rfl (by decide) w.heap.size _ lq.length (lq.flatMap boolC) rfl (by exact World.ownsRow.alloc HOX.out _) ⟨wr.heap.size, 0, none⟩ 1 (boolC bb) rfl rfl (by exact cells_new _ _ _) (boolC_one _) (by omega) (by decide) (by simp; omega) ?_); intro g9 cap9 w9 hown9 hg9 hbel9 hgr9))
      have HO9 := Lib.hid (OwnE.snoc (f := boolC) (l := lq) (x := bb) hown9)
      have HB9 := Lib.hid (hbel9 _ _ (Nat.le_refl _) (HBX.out.alloc hzx (.cells (boolC bb).toArray 4)))
      have HX9 : Hid (w9.heap[q]? = some (.cells #[.int .i64 1, .string xt, .int .i64 xd] 31)) := (hgr9.block q (by simp; omega) (fun e => HLT.out q e.symm rfl)).trans ((Below.heap_alloc wr _ q hql).trans HX.out)
      have HN9 : Hid (∀ g, (Value.slice (some ⟨g9, 0, none⟩) (lq.length + 1) cap9).ownBlock = some g → g ≠ q) := own_apart hown9 HX9.out (by decide)
      rw [HSN2.out] at HO9
      clear hown9 hbel9 hgr9
      go_wp2_with fail
      go_roundg (xt.size - (i + 1))
      case measure => omega
      case rel => exact ⟨i + 1, rfl, by omega, HO9.out, HB9.out, HX9.out, HN9.out, by omega⟩
     ·obtain rfl : i = xt.size := by omega
      rw [List.take_of_length_le (by simp), ← HTK.out] at HOX
      go_wp2_with fail
      go_roundg (f.length - (k + 1))
      case measure => omega
      case rel => exact ⟨k + 1, rfl, by omega, by (show OwnE _ _ _ _ _ _ _); rw [HL1.out]; exact HOX.out, HBX.out, by omega⟩
   ·have t1 : (xk != 1) = true := by simpa using hx
    rw [sqI_other _ _ _ hx] at HTK
    clear hxs
    go_wp2_with (at_builtin; refine wpList_app1 rfl (.tmp 16) (.tmp 17) 134 4 rfl Tryz.underlying134 _ 1 1 bool_info rfl (by decide) w.heap.size _ _ _ rfl (by exact World.ownsRow.alloc HO1.out _) ⟨w3.heap.size, 0, none⟩ 1 (boolC false) rfl rfl (by exact cells_new _ _ _) (boolC_one _) (by omega) (by decide) (by simp; omega) ?_; intro g9 cap9 w9 hown9 hg9 hbel9 hgr9)
    have HO9 := Lib.hid (OwnE.snoc (f := boolC) (l := l0) (x := false) hown9)
    have HB9 := Lib.hid (hbel9 _ _ (Nat.le_refl _) (HB1.out.alloc hzw (.cells (boolC false).toArray 4)))
    rw [← HTK.out] at HO9
    clear hown9 hbel9 hgr9
    go_roundg (f.length - (k + 1))
    case measure => omega
    case rel => exact ⟨k + 1, rfl, by omega, by (show OwnE _ _ _ _ _ _ _); rw [HL1.out]; exact HO9.out, HB9.out, by omega⟩
  ·obtain rfl : k = f.length := by omega
   rw [List.take_length] at HO
   obtain ⟨Ao, co, hov⟩ := own_shape HO.out
   go_wp2_with fail
   rw [HRR.out]
   exact ⟨_, rfl, HO.out, HB.out⟩
end Go.Proofs.YtfkojnofbpdjdaaGreatDoor

namespace Go.Proofs.YtfkojnofbpdjdaaGreatDoor
set_option maxRecDepth 100000
open Go.RowKit
def rvS (s : ByteArray) (k : Nat) : ByteArray := ⟨((s.data.toList.drop (s.size - k)).reverse).toArray⟩
theorem rv_size (s : ByteArray) : (rvS s s.size).size = s.size := by
 show ((s.data.toList.drop (s.size - s.size)).reverse).length = _
 rw [Nat.sub_self, List.drop_zero, List.length_reverse, ← Lib.size_eq]
theorem rv_bt (s : ByteArray) (k : Nat) (hk : k < s.size) : bt (rvS s s.size) k = bt s (s.size - 1 - k) := by
 have hl : s.data.toList.length = s.size := (Lib.size_eq s).symm
 unfold bt rvS
 simp only
 rw [Nat.sub_self, List.drop_zero, List.getD_eq_getElem?_getD, List.getD_eq_getElem?_getD, List.getElem?_reverse (by omega), hl]
end Go.Proofs.YtfkojnofbpdjdaaGreatDoor

namespace Go.Proofs.YtfkojnofbpdjdaaGreatDoor
set_option maxRecDepth 100000
open Go.RowKit
theorem u8_info6 : (Tryz.prog.info? 5).map (fun i => (i.zero, i.size, i.bytes)) = some (some (.int .u8 0), 1, 1) := by kernel_rfl
theorem run_rev (s : ByteArray) (src dst : TypeId) {e : TypeId} (hs : Tryz.prog.underlying src = some (.slice e)) (he : Tryz.prog.underlying e = some (.int .u8)) (hd : Tryz.prog.underlying dst = some .string) (w : World) (g : Nat)
 (h : w.rowIs g e s.size (fun j => .int .u8 (bt s (s.size - 1 - j) : Int))) : (convert src dst (.slice (some ⟨g, 0, none⟩) s.size s.size)).run Tryz.prog w = .ok (.string (rvS s s.size)) w := by
 have hl : s.data.toList.length = s.size := (Lib.size_eq s).symm
 have := run_convert_bytes_back (P := Tryz.prog) w src dst e ⟨g, 0, none⟩ s.size s.data.toList.reverse hs he hd (fun j hj => by
  have hj2 : j < s.size := by simpa [hl] using hj
  rw [Addr.add_lit, Nat.zero_add, h.cell hj2]
  congr 2
  rw [List.getElem_reverse]
  unfold bt
  rw [List.getD_eq_getElem?_getD, List.getElem?_eq_getElem (by omega)]
  simp [hl])
 rw [List.length_reverse, hl] at this
 rw [this]
 congr 2
 unfold rvS
 rw [Nat.sub_self, List.drop_zero]
theorem reversed_any (s : ByteArray) (w : World) (hs : s.size ≤ 1048576) : Calls Tryz.prog 101 #[.string s] w fun e w' => e = .returned (.string (rvS s s.size)) ∧ Below w.heap.size w w' := by
 have hmk := fun w => run_make_row' (P := Tryz.prog) 89 5 (.int .u8 0) 1 Tryz.underlying89 u8_info6 rfl .i64 .i64 s.size (by omega) (by omega) w
 have HCV := Lib.hid (run_rev s 89 9 Tryz.underlying89 Tryz.underlying5 Tryz.underlying9)
 go_enter Tryz.func101, Tryz.ntmps101
 have HR0 : Hid ((w.alloc (.cells (madeCells #[.int .u8 0] s.size) 5)).rowIs w.heap.size 5 s.size (fun j => .int .u8 (if j < 0 then (bt s (s.size - 1 - j) : Int) else 0))) := (World.rowIs_made w (.int .u8 0) s.size 5).congr fun j _ => by rw [if_neg (Nat.not_lt_zero j)]
 have HB0 := Lib.hid ((Below.refl w.heap.size w).alloc (Nat.le_refl _) (.cells (madeCells #[.int .u8 0] s.size) 5))
 go_upto_region 2 with fail
 generalize hg : w.heap.size = g at HR0 ⊢
 generalize w.alloc (.cells (madeCells #[.int .u8 0] s.size) 5) = w1 at HR0 HB0 ⊢
 go_wp2_with fail
 go_loopg [10] s.size (fun gk kv wr => ∃ k : Nat, k ≤ s.size ∧ kv = .int .i64 k ∧ Hid (wr.rowIs g 5 s.size (fun j => .int .u8 (if j < k then (bt s (s.size - 1 - j) : Int) else 0))) ∧ Hid (Below w.heap.size w wr) ∧ s.size - k ≤ gk)
 case atStart => exact ⟨0, by omega, rfl, HR0.out, HB0.out, by omega⟩
 case round =>
  clear HR0 HB0
  obtain ⟨k, hk, rfl, HR, HB, hgk⟩ := hrel
  by_cases hkl : k < s.size
  ·have hki : (k : Int) < (s.size : Int) := by omega
   obtain ⟨j, hj⟩ : ∃ j, j + k + 1 = s.size := ⟨s.size - 1 - k, by omega⟩
   have r0 := HR.out.cell (i := k) hkl
   have rf := HR.out.frozen k
   rw [if_neg (Nat.lt_irrefl k)] at r0
   have hjs : (j : Int) < (s.size : Int) := by omega
   have hjl : j < s.size := by omega
   have hj0 : (0 : Int) ≤ (j : Int) := by omega
   have HR1 : Hid ((wr.setCell ⟨g, k, none⟩ (.int .u8 (s[j].toNat : Int))).rowIs g 5 s.size (fun j => .int .u8 (if j < k + 1 then (bt s (s.size - 1 - j) : Int) else 0))) := (HR.out.set k (.int .u8 (s[j].toNat : Int))).congr fun i hi => by
    by_cases h : i = k
    ·rw [if_pos h, if_pos (by omega), h, show s.size - 1 - k = j by omega, bt_get s j hjl]
    ·rw [if_neg h]
     by_cases h2 : i < k
     ·rw [if_pos h2, if_pos (by omega)]
     ·rw [if_neg h2, if_neg (by omega)]
   obtain ⟨z, hz⟩ : ∃ z : Int, z = (s.size : Int) - 1 - (k : Int) := ⟨_, rfl⟩
   have hzj : z = (j : Int) := by omega
   subst hzj
   have hz2 : (s.size : Int) - 1 - (k : Int) = (j : Int) := hz.symm
   clear hz
   go_wp2_with fail
   go_roundg (s.size - (k + 1))
   case measure => omega
   case rel => exact ⟨k + 1, by omega, by go_num, HR1.out, HB.out.setCell (p := ⟨g, k, none⟩) (show w.heap.size ≤ g by omega) _, Nat.le_refl _⟩
  ·obtain rfl : k = s.size := by omega
   have hki : ¬ (s.size : Int) < (s.size : Int) := by omega
   have hcv := HCV.out wr g (HR.out.congr fun j hj => by rw [if_pos hj])
   go_wp2_with fail
   go_ret
   exact ⟨rfl, hg ▸ HB.out⟩
end Go.Proofs.YtfkojnofbpdjdaaGreatDoor
