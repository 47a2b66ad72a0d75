
/-
  Words for memory that all walks of this claim use: a row of bytes of the call's own, equations of results.
-/
import Derived.WalkKit
import Derived.WalkLawsBesides
import Derived.Lib.Hide
import Derived.Lib.Strings
import Derived.Laws.IdiomStrings
import Derived.Deep.Draws
import Derived.Deep.QuietTactic
import Derived.BigQuiet
import Derived.Deep.OwnRows
namespace Go.Proofs.YtpboaadjbkaidaaDoor
set_option maxRecDepth 100000
open Go.RowKit

theorem ret_int {k : IntKind} {a b : Int} (h : a = b) : Ending.returned (.int k a) = .returned (.int k b) := by rw [h]
theorem ret_bool {a b : Bool} (h : a = b) : Ending.returned (.bool a) = .returned (.bool b) := by rw [h]
theorem ret_val {a b : Value} (h : a = b) : Ending.returned a = .returned b := by rw [h]

/-- A byte as a value. -/
def byteV (c : UInt8) : Value := .int .u8 (c.toNat : Int)

/-- Block g holds the cells xs at its head; none is frozen. -/
def RowV (w : World) (g : Nat) (xs : List Value) : Prop :=
  g < w.heap.size ∧ ∀ j v, xs[j]? = some v → w.cell? ⟨g, j, none⟩ = some v ∧ w.frozen? ⟨g, j, none⟩ = false

theorem RowV.cell {w : World} {g : Nat} {xs : List Value} (h : RowV w g xs) {j : Nat} {v : Value} (hj : xs[j]? = some v) : w.cell? ⟨g, j, none⟩ = some v := (h.2 j v hj).1
theorem RowV.free {w : World} {g : Nat} {xs : List Value} (h : RowV w g xs) {j : Nat} (hj : j < xs.length) : w.frozen? ⟨g, j, none⟩ = false := (h.2 j _ (List.getElem?_eq_getElem hj)).2
theorem RowV.drew {w : World} {g : Nat} {xs : List Value} (h : RowV w g xs) : RowV w.drew g xs := h
theorem RowV.keep {w w' : World} {g : Nat} {xs : List Value} (h : RowV w g xs) (hs : w.heap.size ≤ w'.heap.size) (hb : w'.heap[g]? = w.heap[g]?) : RowV w' g xs :=
  ⟨Nat.lt_of_lt_of_le h.1 hs, fun j v hj => ⟨(World.cell?_of_block (w := w) hb).trans (h.2 j v hj).1, (World.frozen?_of_block (w := w) hb).trans (h.2 j v hj).2⟩⟩
theorem RowV.alloc {w : World} {g : Nat} {xs : List Value} (h : RowV w g xs) (o : Obj) : RowV (w.alloc o) g xs :=
  h.keep (by simp) (Below.heap_alloc w o g h.1)
theorem RowV.set {w : World} {g : Nat} {xs : List Value} (h : RowV w g xs) (k : Nat) (u : Value) : RowV (w.setCell ⟨g, k, none⟩ u) g (xs.set k u) := by
  refine ⟨by simpa [World.setCell] using h.1, fun j v hj => ?_⟩
  by_cases hjk : j = k
  · subst hjk
    have hl : j < xs.length := by
      have := (List.getElem?_eq_some_iff.1 hj).1
      simpa using this
    have hv : v = u := by
      rw [List.getElem?_set_self hl] at hj
      exact (Option.some.inj hj).symm
    subst hv
    have h2 := h.2 j _ (List.getElem?_eq_getElem hl)
    exact ⟨World.cell?_setCell_same _ _ _ h2.1, by rw [World.frozen?_setCell]; exact h2.2⟩
  · rw [List.getElem?_set_ne (fun e => hjk e.symm)] at hj
    have h2 := h.2 j v hj
    exact ⟨(World.cell?_setCell_other w ⟨g, k, none⟩ ⟨g, j, none⟩ u (fun e => hjk (by injection e with _ e; exact e.symm))).trans h2.1, by rw [World.frozen?_setCell]; exact h2.2⟩

theorem RowV.bytes_new (w : World) (s : ByteArray) (cap : Nat) (e : TypeId) :
    RowV (w.alloc (.cells (bytesRow s cap) e ((bytesRow s cap).size, (bytesRow s cap).size + 1))) w.heap.size (s.data.toList.map byteV) := by
  refine ⟨by simp, fun j v hj => ?_⟩
  have hl : j < s.data.size := by
    have := (List.getElem?_eq_some_iff.1 hj).1
    simpa using this
  have hv : v = byteV s.data[j] := by
    rw [List.getElem?_map, List.getElem?_eq_getElem (by simpa using hl)] at hj
    simp at hj
    exact hj.symm
  subst hv
  have hrow := bytesRow_at s cap j hl
  refine ⟨?_, ?_⟩
  · rw [World.cell?_alloc_mark, hrow]; rfl
  · rw [World.frozen?_alloc_mark]
    have := (Array.getElem?_eq_some_iff.1 hrow).1
    simp; omega

/-- The cells of a block that has just been laid. -/
theorem cells_new (w : World) (xs : List Value) (t : TypeId) : ∀ j u, xs[j]? = some u → (w.alloc (.cells xs.toArray t)).cell? ((⟨w.heap.size, 0, none⟩ : Addr).add j) = some u := by
  intro j u hj
  rw [Addr.add_lit, Nat.zero_add]
  have : (w.alloc (.cells xs.toArray t)).heap[w.heap.size]? = some (.cells xs.toArray t) := by
    show (w.heap.push (.cells xs.toArray t))[w.heap.size]? = _
    simp
  rw [cell_of_row _ _ j _ _ _ this]
  simpa using hj

/-- One element appended to a row of the call's own; what is below stays. -/
theorem wpList_app1 {P : Program} {ops : Array Oper} {rest : List Oper} {o : Oper} {a : Act} {Q : Exit → Act → World → Prop} {w : World} (hgd : o.guard = none) (s x : Operand) (t e : TypeId)
    (ho : o.op = .call { callee := .builtin .append, args := #[s, x], argTypes := #[t, t] })
    (ht : P.underlying t = some (.slice e)) (z : Value) (size bytes : Nat) (hinfo : (P.info? e).map (fun i => (i.zero, i.size, i.bytes)) = some (some z, size, bytes)) (hzs : z.cells.size = size) (hsz : 0 < size)
    (base : Nat) (v : Value) (n : Nat) (xs : List Value) (hs : a.eval s = v) (hown : w.ownsRow base e size v n xs)
    (ad : Addr) (c : Nat) (news : List Value) (hx : a.eval x = .slice (some ad) 1 c) (hl : news.length = size) (hnews : ∀ j u, news[j]? = some u → w.cell? (ad.add j) = some u) (h1 : ∀ u ∈ news, u.oneCell' = true)
    (hbytes : (n + 1) * bytes ≤ 140737488355328) (hb1 : 1 ≤ bytes) (hbase : base ≤ w.heap.size)
    (h : ∀ g cap w', w'.ownsRow base e size (.slice (some ⟨g, 0, none⟩) (n + 1) cap) (n + 1) (xs ++ news) → base ≤ g → (∀ B W, B ≤ base → Below B W w → Below B W w') → w.grownBy w' v.ownBlock →
      wpList P ops Q rest (a.put o.dst (.slice (some ⟨g, 0, none⟩) (n + 1) cap)) w') : wpList P ops Q (o :: rest) a w := by
  obtain ⟨i, hi, hz, hsize, hby⟩ := info_parts hinfo
  have h2 : n + 1 ≤ 140737488355328 := Nat.le_trans (Nat.le_mul_of_pos_right _ hb1) hbytes
  refine wpList_append_own w hgd s x t ho base e i z size bytes ht hi hz hsize hby hzs hsz v n xs hs hown ad 1 c news hx (by rw [hl, Nat.one_mul]) hnews h1 (by unfold maxLen; omega) hbytes hbase ?_
  intro v' w' hown' hg _
  have hsh : ∃ g cap, v' = .slice (some ⟨g, 0, none⟩) (n + 1) cap ∧ base ≤ g := by
    rcases hown'.2 with ⟨_, h0⟩ | ⟨g, cap, _, h, hb, _⟩
    · omega
    · exact ⟨g, cap, h, hb⟩
  obtain ⟨g, cap, hv, hb⟩ := hsh
  rw [hv] at hown' ⊢
  exact h g cap w' hown' hb (fun B W hB hW => hW.grown hg (Nat.le_trans hB hbase) (fun k hk => Nat.le_trans hB (hown.lt k hk).1)) hg

/-- The shape of a row of the call's own. -/
theorem own_shape {w : World} {base : Nat} {e : TypeId} {size : Nat} {v : Value} {n : Nat} {xs : List Value} (h : w.ownsRow base e size v n xs) : ∃ A c, v = .slice A n c := by
  rcases h.2 with ⟨rfl, rfl⟩ | ⟨g, cap, _, h, _⟩
  · exact ⟨none, 0, rfl⟩
  · exact ⟨_, _, h⟩
theorem own_some {w : World} {base : Nat} {e : TypeId} {size : Nat} {v : Value} {n : Nat} {xs : List Value} (h : w.ownsRow base e size v n xs) (hn : 0 < n) : ∃ g c, v = .slice (some ⟨g, 0, none⟩) n c ∧ base ≤ g := by
  rcases h.2 with ⟨_, h0⟩ | ⟨g, cap, _, h, hb, _⟩
  · omega
  · exact ⟨_, _, h, hb⟩

/-- Element i, cell j of a list of elements of one size. -/
theorem flat_get {α : Type} (f : α → List Value) (m : Nat) (hm : ∀ x, (f x).length = m) : ∀ (l : List α) (i j : Nat) (x : α), l[i]? = some x → j < m → (l.flatMap f)[i * m + j]? = (f x)[j]?
  | [], i, j, x, h, _ => by simp at h
  | y :: l, 0, j, x, h, hj => by
    simp at h
    subst h
    simp [List.getElem?_append_left (show j < (f y).length by rw [hm]; exact hj)]
  | y :: l, i + 1, j, x, h, hj => by
    have ih := flat_get f m hm l i j x (by simpa using h) hj
    rw [List.flatMap_cons, List.getElem?_append_right (by rw [hm, Nat.add_mul]; omega), hm, ← ih]
    congr 1
    rw [Nat.add_mul]
    omega
theorem flat_length {α : Type} (f : α → List Value) (m : Nat) (hm : ∀ x, (f x).length = m) (l : List α) : (l.flatMap f).length = l.length * m := by
  induction l with
  | nil => simp
  | cons x l ih => rw [List.flatMap_cons, List.length_append, hm, ih, List.length_cons, Nat.add_mul]; omega

/-! ### Quiet calls in a region that draws its order -/
theorem quiet_left {P : Program} {f : FuncId} {args : Array Value} {w : World} {n : Nat} {v : Value}
    (h : Calls P f args (w.drewN n) fun e w' => e = .returned v ∧ w.drewN n = w') : Calls P f args (w.drewN n) fun e w'' => e = .returned v ∧ ∃ m, w'' = w.drewN m :=
  h.mono fun _ _ ⟨he, hw⟩ => ⟨he, n, hw.symm⟩
theorem quiet_add_left {P : Program} {f : FuncId} {args : Array Value} {w : World} {a n : Nat} {v : Value}
    (h : Calls P f args (w.drewN (a + n)) fun e w' => e = .returned v ∧ w.drewN (a + n) = w') :
    Calls P f args (w.drewN (a + n)) fun e w'' => e = .returned v ∧ ∃ m, w'' = w.drewN (a + m) :=
  h.mono fun _ _ ⟨he, hm⟩ => ⟨he, n, hm.symm⟩

theorem below_drewN {B : Nat} {a w : World} (h : Below B a w) (n : Nat) : Below B a (w.drewN n) := ⟨h.os, h.tape, h.output, h.size, h.block⟩

/-- string([]byte{x}), the slice new. -/
theorem run_string_of_byte {P : Program} (src dst e : TypeId) (hs : P.underlying src = some (.slice e)) (he : P.underlying e = some (.int .u8)) (hd : P.underlying dst = some .string) (x : Int) (h0 : 0 ≤ x) (h1 : x < 256) (w : World) :
    (convert src dst (.slice (some ⟨w.heap.size, 0, none⟩) 1 1)).run P (w.alloc (.cells #[.int .u8 x] e)) = .ok (.string ⟨#[UInt8.ofNat x.toNat]⟩) (w.alloc (.cells #[.int .u8 x] e)) := by
  refine run_convert_bytes_back (w.alloc (.cells #[.int .u8 x] e)) src dst e ⟨w.heap.size, 0, none⟩ 1 [UInt8.ofNat x.toNat] hs he hd (fun j hj => ?_)
  have hj0 : j = 0 := by simpa using hj
  subst hj0
  rw [cells_new w [.int .u8 x] e 0 (.int .u8 x) rfl]
  congr 2
  simp only [List.getElem_cons_zero, UInt8.toNat_ofNat']
  omega

theorem data_append (a b : ByteArray) : (a ++ b).data.toList = a.data.toList ++ b.data.toList := by
  simp
theorem size_append (a b : ByteArray) : (a ++ b).size = a.size + b.size := by simp
theorem toList_eq_data (a : ByteArray) : a.toList = a.data.toList := ByteArray.toList_eq a

/-- 'int(uint(n) % m)' for a small m. -/
theorem uint_rem (n : Int) (m : Nat) (hm : 0 < m) (hm2 : m ≤ 1000000) : ∃ k : Nat, k < m ∧ wrap64 ((IntKind.u64.wrap n).tmod (m : Int)) = (k : Int) := by
  obtain ⟨q, hq⟩ : ∃ q : Nat, IntKind.u64.wrap n = (q : Int) := by
    rw [IntKind.wrap_u64]
    exact ⟨(n % 18446744073709551616).toNat, by omega⟩
  rw [hq]
  refine ⟨q % m, Nat.mod_lt _ hm, ?_⟩
  rw [show ((q : Int).tmod (m : Int)) = ((q % m : Nat) : Int) from by rw [Int.ofNat_tmod]]
  have := Nat.mod_lt q hm
  exact IntWalk.wrap64_in _ ⟨by omega, by omega⟩

/-- A row that has just been made, all zero. -/
theorem RowV.made (w : World) (z : Value) (n : Nat) (e : TypeId) : RowV (w.alloc (.cells (madeCells #[z] n) e)) w.heap.size (List.replicate n z) := by
  refine ⟨by simp, fun j v hj => ?_⟩
  have hb : (w.alloc (.cells (madeCells #[z] n) e)).heap[w.heap.size]? = some (.cells (madeCells #[z] n) e) := by
    show (w.heap.push _)[w.heap.size]? = _
    simp
  refine ⟨?_, frozen_of_row _ _ _ _ _ hb⟩
  rw [cell_of_row _ _ j _ _ _ hb, ← hj, ← toList_madeCells_one]
  simp

/-- A call that only draws and returns v. -/
def QuietRet (w : World) (v : Value) (e : Ending) (w' : World) : Prop := e = .returned v ∧ ∃ n, w' = w.drewN n

end Go.Proofs.YtpboaadjbkaidaaDoor
