
/-
  How the statements' atoms are opened.
-/
import Derived.Test.YtanpiidhcijfaaaOpenTok
import Derived.Test.YtanpiidhcijfaaaSetA
namespace Go.Proofs.Ytanpiidhcijfaaa
open Go.ChangeShapes Go.WideShapes Go.ChangeAt Go.RowKit Go.Deep Go.Joins

/-- What an argument's atom keeps to. -/
def AtOk (x : At) : Prop := -9223372036854775808 ≤ x.mn ∧ x.mn ≤ 9223372036854775807

/-- The set that 32 bytes hold. -/
def bitsOf (g : Nat → Nat) (n : Nat) : Bool := g (n / 8) / 2 ^ (n % 8) % 2 == 1
theorem byteOf_bits (g : Nat → Nat) (hg : ∀ k, g k < 256) (k : Nat) : byteOf (bitsOf g) k = g k := by
  refine byte_ext (byteOf_lt _ k) (hg k) fun j hj => ?_
  rw [byteOf_bit _ k j hj]
  unfold b2n bitsOf
  rw [show (8 * k + j) / 8 = k by omega, show (8 * k + j) % 8 = j by omega]
  have : g k / 2 ^ j % 2 < 2 := Nat.mod_lt _ (by decide)
  by_cases h : g k / 2 ^ j % 2 = 1
  · rw [h]; rfl
  · rw [if_neg (by simpa using h)]
    omega

section
variable {H : Type} {enc : TypeId × Value → H} {w : World} {base : Nat} {spare : Nat → Bool} {held : Bool}
theorem trod_atom {n : Nat} {cs : List Value} {x : DataW H × List MemPlace} (h : DataW.trod enc Try.prog w base spare held n 37 cs = some x) : ∃ y : At, cs = atC y ∧ AtOk y := by
  obtain ⟨xs, m, _, _, hcl, hxl, hf⟩ := DataW.trod_struct Try.underlying37 h
  have hC : Try.prog.cellsOf 37 = 34 := by kernel_rfl
  rw [hC] at hcl
  have hl3 : xs.length = 3 := hxl
  obtain ⟨x0, x1, x2, rfl⟩ : ∃ x0 x1 x2, xs = [x0, x1, x2] := by
    match xs, hl3 with
    | [a, b, c], _ => exact ⟨a, b, c, rfl⟩
  have g0 : DataW.trod enc Try.prog w base spare held m 35 ((cs.drop 0).take (Try.prog.cellsOf 35)) = some x0 := hf 0 _ rfl
  have g1 : DataW.trod enc Try.prog w base spare held m 3 ((cs.drop 32).take (Try.prog.cellsOf 3)) = some x1 := hf 1 _ rfl
  have g2 : DataW.trod enc Try.prog w base spare held m 4 ((cs.drop 33).take (Try.prog.cellsOf 4)) = some x2 := hf 2 _ rfl
  rw [show Try.prog.cellsOf 35 = 32 by kernel_rfl, List.drop_zero] at g0
  rw [show Try.prog.cellsOf 3 = 1 by kernel_rfl] at g1
  rw [show Try.prog.cellsOf 4 = 1 by kernel_rfl] at g2
  obtain ⟨ys, m2, _, _, _, hyl, hy⟩ := DataW.trod_array Try.underlying35 g0
  obtain ⟨mn, e1, _, w1⟩ := DataW.trod_int Try.underlying3 g1
  obtain ⟨mb, e2, _⟩ := DataW.trod_bool Try.underlying4 g2
  have hb : ∀ i, i < 32 → ∃ z : Nat, z < 256 ∧ (cs.drop i).take 1 = [.int .u8 (z : Int)] := fun i hi => by
    have h1 := hy i hi
    rw [show Try.prog.cellsOf 5 = 1 by kernel_rfl, Nat.mul_one, List.getElem?_eq_getElem (by omega)] at h1
    obtain ⟨z, e3, _, w3⟩ := DataW.trod_int Try.underlying5 h1
    have hz : 0 ≤ z ∧ z < 256 := by
      simp [Lit.wf, IntKind.min, IntKind.max, IntKind.signed, IntKind.bits] at w3
      omega
    refine ⟨z.toNat, by omega, ?_⟩
    rw [show ((z.toNat : Nat) : Int) = z by omega, ← e3, List.drop_take, List.take_take, show min 1 (32 - i) = 1 by omega]
  refine ⟨⟨bitsOf (fun k => if h : k < 32 then Classical.choose (hb k h) else 0), mn, mb⟩, ?_, wf_i64 w1⟩
  refine List.ext_getElem? fun k => ?_
  rcases (show k < 32 ∨ k = 32 ∨ k = 33 ∨ 34 ≤ k by omega) with h | rfl | rfl | h
  · rw [atC_set _ k h, byteOf_bits _ (fun k => by
      by_cases h : k < 32
      · simp only [dif_pos h]; exact (Classical.choose_spec (hb k h)).1
      · simp only [dif_neg h]; decide) k]
    simp only [dif_pos h]
    have := (Classical.choose_spec (hb k h)).2
    have h2 := congrArg (fun l => l[0]?) this
    simpa using h2
  · rw [atC_mn]
    have h2 := congrArg (fun l => l[0]?) e1
    simpa using h2
  · rw [atC_many]
    have h2 := congrArg (fun l => l[0]?) e2
    simpa using h2
  · rw [List.getElem?_eq_none (by omega), List.getElem?_eq_none (by rw [atC_len]; exact h)]
theorem open_atoms {r : Reach} {b0 : Nat} {v : Value} {d : DataW H} {p : List MemPlace} (hv : Value.okWide Try.prog w r b0 26 v) (h : DataW.Trod enc Try.prog w base spare held 26 v d p) :
    ∃ (A : Option Addr) (n c : Nat) (l : List At), v = .slice A n c ∧ n = l.length ∧ l.length ≤ maxLen ∧ RdE atC 34 w (.slice A n c) l ∧ ∀ x ∈ l, AtOk x :=
  open_rows atC 34 AtOk Try.underlying26 (by kernel_rfl) atC_len (by decide) (fun _ _ _ h => trod_atom h) hv h
end

end Go.Proofs.Ytanpiidhcijfaaa
