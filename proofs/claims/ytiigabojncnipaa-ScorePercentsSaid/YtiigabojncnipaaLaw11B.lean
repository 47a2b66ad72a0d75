
/-
  Chapter 11: helpers of the statements: few, made.
-/
import Derived.Test.YtiigabojncnipaaLaw11A
import Derived.Test.YtiigabojncnipaaFragA
import Derived.Test.YtiigabojncnipaaOpenTokS
namespace Go.Proofs.Ytiigabojncnipaa
open Go.RowKit

/-- What the opening of an argument that is a list of tokens or items tells, with the form's reach. -/
abbrev ArgTS (w : World) (A : Option Addr) (n c : Nat) (l : List Tk) : Prop := n = l.length ∧ l.length ≤ maxLen ∧ RdT w (.slice A n c) l ∧ ∀ x ∈ l, TkInS x

theorem toks_len1 (s : ByteArray) : (tokensL [⟨1, s, 0⟩]).length ≤ s.size + 1 := by
  have := tokensL_length [⟨1, s, 0⟩]
  rw [show bytesOf [⟨1, s, 0⟩] = s.size + 0 from rfl] at this
  simp only [List.length_cons, List.length_nil] at this
  omega

/-- What a made fragment keeps to. -/
theorem made_ok (l : List Int) : (fragL l 0 8).f.length ≤ 8 ∧ bytesOf (fragL l 0 8).f ≤ 144 ∧ Kinds (fragL l 0 8).f ∧ Normal (fragL l 0 8).f := by
  have hb := nextN_bd l 0 (8 + 1) (by decide)
  have h := fragGo_ok l (nextN l 0 (8 + 1)).toNat ⟨[], [], 0, 0 + 1⟩ 0 (fok_start 1 (Nat.le_refl _))
  have h' : FOK (fragL l 0 8) (0 + (nextN l 0 (8 + 1)).toNat) := h
  have h1 := h'.len
  have h2 := h'.bytes
  exact ⟨by omega, by omega, h'.kinds, h'.normal⟩

theorem sum_few (f : List Tk) (k : Nat) (hk : k ≤ f.length) (hin : ∀ x ∈ f, TkInS x) : bytesOf (f.take k) ≤ k * 140737488351232 := by
  induction k with
  | zero => simp [bytesOf]
  | succ k ih =>
    have hlt : k < f.length := by omega
    have h1 := ih (by omega)
    have h2 := (hin f[k] (List.getElem_mem hlt)).2
    rw [List.take_succ_eq_append_getElem hlt]
    have : bytesOf (f.take k ++ [f[k]]) = bytesOf (f.take k) + f[k].t.size := by
      unfold bytesOf
      rw [List.map_append, List.sum_append]
      simp only [List.map_cons, List.map_nil, List.sum_cons, List.sum_nil, Nat.add_zero]
    omega
theorem bytesOf_step (f : List Tk) (k : Nat) (h : k < f.length) : bytesOf (f.take (k + 1)) = bytesOf (f.take k) + f[k].t.size := by
  rw [List.take_succ_eq_append_getElem h]
  unfold bytesOf
  rw [List.map_append, List.sum_append]
  simp only [List.map_cons, List.map_nil, List.sum_cons, List.sum_nil, Nat.add_zero]

end Go.Proofs.Ytiigabojncnipaa
