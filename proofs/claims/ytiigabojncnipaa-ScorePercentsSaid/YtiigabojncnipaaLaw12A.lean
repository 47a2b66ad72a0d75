
/-
  Chapter 12: helpers of the statements: the made lists, the fixed example.
-/
import Derived.Test.YtiigabojncnipaaMathKnown12
import Derived.Test.YtiigabojncnipaaDistB
import Derived.Test.YtiigabojncnipaaFragA
import Derived.Test.YtiigabojncnipaaTokG
namespace Go.Proofs.Ytiigabojncnipaa
open Go.RowKit

/-- The head of a row of the call's own. -/
theorem own_take {α : Type} {e : TypeId} {f : α → List Value} {m : Nat} (hm : ∀ x, (f x).length = m) {w : World} {B : Nat} {A : Option Addr} {n c : Nat} {l : List α} (h : w.ownsRow B e m (.slice A n c) l.length (l.flatMap f)) (k : Nat) (hk : k ≤ l.length) :
    w.ownsRow B e m (.slice A k c) (l.take k).length ((l.take k).flatMap f) := by
  have hlen : (l.take k).length = k := by rw [List.length_take]; omega
  have hfl : ((l.take k).flatMap f).length = k * m := by rw [flat_length f m hm, hlen]
  have hpre : (l.flatMap f).take (k * m) = (l.take k).flatMap f := by
    have e1 : l.flatMap f = (l.take k).flatMap f ++ (l.drop k).flatMap f := by rw [← List.flatMap_append, List.take_append_drop]
    rw [e1, ← hfl, List.take_left]
  rw [hlen]
  refine ⟨hfl, ?_⟩
  rcases h.2 with ⟨hv, h0⟩ | ⟨g, cap, cur, hv, hb, hh, hc, hm', hs, ht⟩
  · injection hv with e1 e2 e3
    subst e1 e2 e3
    have : k = 0 := by omega
    subst this
    exact .inl ⟨rfl, rfl⟩
  · injection hv with e1 e2 e3
    subst e1 e2 e3
    refine .inr ⟨g, c, cur, rfl, hb, hh, by omega, hm', hs, ?_⟩
    rw [← hpre, ← ht, List.take_take, Nat.min_eq_left (Nat.mul_le_mul_right _ hk)]

theorem made_ok' (l : List Int) : (fragL l 0 8).f.length ≤ 8 ∧ bytesOf (fragL l 0 8).f ≤ 144 ∧ Kinds (fragL l 0 8).f := by
  have hb := nextN_bd l 0 (8 + 1) (by decide)
  have h := fragGo_ok l (nextN l 0 (8 + 1)).toNat ⟨[], [], 0, 0 + 1⟩ 0 (fok_start 1 (Nat.le_refl _))
  have h' : FOK (fragL l 0 8) (0 + (nextN l 0 (8 + 1)).toNat) := h
  have h1 := h'.len
  have h2 := h'.bytes
  exact ⟨by omega, by omega, h'.kinds⟩

/-- The tokens of a made fragment. -/
def mkT (l : List Int) (n : Nat) : List Tk := (tokensL (fragL l 0 8).f).take n
/-- What a made list of tokens keeps to. -/
structure Made (n : Nat) (m : List Tk) : Prop where
  len : m.length ≤ n
  wt : Weighty m
  sz : ∀ x ∈ m, x.t.size ≤ 144
theorem mk_made (l : List Int) (n : Nat) : Made n (mkT l n) := by
  obtain ⟨h1, h2, h3⟩ := made_ok' l
  have h := tokens_ok _ h3
  refine ⟨by unfold mkT; rw [List.length_take]; omega, fun x hx => (h x (List.mem_of_mem_take hx)).1, fun x hx => ?_⟩
  have := (h x (List.mem_of_mem_take hx)).2
  omega
theorem Made.toD {n : Nat} {m : List Tk} (h : Made n m) : ∀ x ∈ m, TkD x := fun x hx => by
  have h1 := h.wt x hx
  have h2 := h.sz x hx
  exact ⟨by unfold maxLen; omega, by omega, by omega⟩

end Go.Proofs.Ytiigabojncnipaa
