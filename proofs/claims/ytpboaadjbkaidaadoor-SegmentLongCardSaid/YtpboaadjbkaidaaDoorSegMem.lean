
/-
  Rules and tables in memory.
-/
import Derived.Test.YtpboaadjbkaidaaDoorMathTab
import Derived.Test.YtpboaadjbkaidaaDoorMemB
import Derived.Test.YtpboaadjbkaidaaDoorScanH
namespace Go.Proofs.YtpboaadjbkaidaaDoor
set_option maxRecDepth 100000
open Go.RowKit

/-- A slice value by its parts. -/
structure Sl where
  A : Option Addr
  n : Nat
  c : Nat
def Sl.v (x : Sl) : Value := .slice x.A x.n x.c
structure RuV where
  b : Bool
  u : Sl
  t : Sl
def ruC (x : RuV) : List Value := [.bool x.b, x.u.v, x.t.v]
theorem ruC_len (x : RuV) : (ruC x).length = 3 := rfl
theorem ruC_one (x : RuV) : ∀ v ∈ ruC x, v.oneCell' = true := by
  intro v hv
  simp [ruC, Sl.v] at hv
  rcases hv with rfl | rfl | rfl <;> rfl
structure TbV where
  nm : ByteArray
  pa : ByteArray
  r : Sl
def tbC (x : TbV) : List Value := [.string x.nm, .string x.pa, x.r.v]
theorem tbC_len (x : TbV) : (tbC x).length = 3 := rfl
theorem tbC_one (x : TbV) : ∀ v ∈ tbC x, v.oneCell' = true := by
  intro v hv
  simp [tbC, Sl.v] at hv
  rcases hv with rfl | rfl | rfl <;> rfl

/-- What holds as long as the blocks that are not in X read as they did. -/
def Keep (X : List Nat) (w : World) (φ : World → Prop) : Prop := ∀ w' : World, w.heap.size ≤ w'.heap.size → (∀ b, b < w.heap.size → b ∉ X → w'.heap[b]? = w.heap[b]?) → φ w'
theorem Keep.now {X : List Nat} {w : World} {φ : World → Prop} (h : Keep X w φ) : φ w := h w (Nat.le_refl _) (fun _ _ _ => rfl)
theorem Keep.step {X Y : List Nat} {w w' : World} {φ : World → Prop} (h : Keep X w φ) (hs : w.heap.size ≤ w'.heap.size) (hb : ∀ b, b < w.heap.size → b ∉ X → w'.heap[b]? = w.heap[b]? ∧ b ∉ Y) : Keep Y w' φ :=
  fun u hu hk => h u (Nat.le_trans hs hu) (fun b hlt hX => (hk b (Nat.lt_of_lt_of_le hlt hs) (hb b hlt hX).2).trans (hb b hlt hX).1)
theorem Keep.imp {X : List Nat} {w : World} {φ ψ : World → Prop} (h : Keep X w φ) (e : ∀ u, φ u → ψ u) : Keep X w ψ := fun u hu hk => e u (h u hu hk)
theorem Keep.and {X : List Nat} {w : World} {φ ψ : World → Prop} (h : Keep X w φ) (g : Keep X w ψ) : Keep X w fun u => φ u ∧ ψ u := fun u hu hk => ⟨h u hu hk, g u hu hk⟩

section
variable {α : Type} {e : TypeId} {f : α → List Value} {m : Nat} {w w' : World} {B : Nat} {v : Value} {l : List α}
/-- A slice whose block is not in X. -/
theorem RdE.keepX {X : List Nat} (h : RdE f m w v l) (hX : ∀ b o s n c, v = .slice (some ⟨b, o, s⟩) n c → b ∉ X) : Keep X w fun u => RdE f m u v l := fun u hu hk => by
  obtain ⟨A, c, hv, hc, hn, h⟩ := h
  refine ⟨A, c, hv, hc, hn, fun h0 => ?_⟩
  obtain ⟨b, o, rfl, hb, hx⟩ := h h0
  refine ⟨b, o, rfl, Nat.lt_of_lt_of_le hb hu, fun i x j y hi hj => ?_⟩
  rw [World.cell?_of_block (w := w) (hk b hb (hX _ _ _ _ _ hv))]
  exact hx i x j y hi hj
theorem OwnE.keepX {X : List Nat} (hm : ∀ x, (f x).length = m) (h : OwnE e f m w B v l) (hX : ∀ b ∈ X, b < B ∨ v.ownBlock ≠ some b) : Keep X w fun u => RdE f m u v l :=
  RdE.keepX (h.rd hm) fun b o s n c hv hb => by
    rcases h.2 with ⟨rfl, _⟩ | ⟨g, cap, cur, rfl, hg, _⟩
    · cases hv
    · injection hv with h1 _ _
      injection h1 with h1
      injection h1 with h1 _ _
      subst h1
      rcases hX _ hb with h2 | h2
      · omega
      · exact h2 rfl
end

/-- A slice that reads as rules. -/
def RdRu (w : World) (v : Value) (l : List Ru) : Prop := ∃ xs : List RuV, RdE ruC 3 w v xs ∧ xs.length = l.length ∧ ∀ (i : Nat) (x : RuV) (r : Ru), xs[i]? = some x → l[i]? = some r → x.b = r.br ∧ RdE atC 34 w x.u.v r.bf ∧ RdE atC 34 w x.t.v r.af
def RdTb (w : World) (v : Value) (l : List Tb) : Prop := ∃ xs : List TbV, RdE tbC 3 w v xs ∧ xs.length = l.length ∧ ∀ (i : Nat) (x : TbV) (t : Tb), xs[i]? = some x → l[i]? = some t → x.nm = t.nm ∧ x.pa = t.pa ∧ RdRu w x.r.v t.rs
theorem RdRu.below {w w' : World} {B : Nat} {v : Value} {l : List Ru} (h : RdRu w v l) (hb : Below B w w') (hB : w.heap.size ≤ B) : RdRu w' v l := by
  obtain ⟨xs, h1, h2, h3⟩ := h
  exact ⟨xs, h1.below hb hB, h2, fun i x r hx hr => ⟨(h3 i x r hx hr).1, (h3 i x r hx hr).2.1.below hb hB, (h3 i x r hx hr).2.2.below hb hB⟩⟩
theorem RdTb.below {w w' : World} {B : Nat} {v : Value} {l : List Tb} (h : RdTb w v l) (hb : Below B w w') (hB : w.heap.size ≤ B) : RdTb w' v l := by
  obtain ⟨xs, h1, h2, h3⟩ := h
  exact ⟨xs, h1.below hb hB, h2, fun i x r hx hr => ⟨(h3 i x r hx hr).1, (h3 i x r hx hr).2.1, (h3 i x r hx hr).2.2.below hb hB⟩⟩
theorem RdRu.shape {w : World} {v : Value} {l : List Ru} (h : RdRu w v l) : ∃ A c, v = .slice A l.length c := by
  obtain ⟨xs, h1, h2, _⟩ := h
  obtain ⟨A, c, hv, _⟩ := h1.shape
  exact ⟨A, c, by rw [← h2]; exact hv⟩
theorem RdTb.shape {w : World} {v : Value} {l : List Tb} (h : RdTb w v l) : ∃ A c, v = .slice A l.length c := by
  obtain ⟨xs, h1, h2, _⟩ := h
  obtain ⟨A, c, hv, _⟩ := h1.shape
  exact ⟨A, c, by rw [← h2]; exact hv⟩
theorem RdRu.nil {w : World} : RdRu w (.slice none 0 0) [] := ⟨[], RdE.nil, rfl, fun _ _ _ h => by simp at h⟩
theorem RdTb.nil {w : World} : RdTb w (.slice none 0 0) [] := ⟨[], RdE.nil, rfl, fun _ _ _ h => by simp at h⟩

end Go.Proofs.YtpboaadjbkaidaaDoor
