
/-
  The fixed example of chapter 5.
-/
import Derived.Test.YtanpiidhcijfaaaMatchB
namespace Go.Proofs.Ytanpiidhcijfaaa
open Go.RowKit

def ks1 : ByteArray := ⟨#[91, 46, 33, 63, 93, 43, 92, 115]⟩
def ks2 : ByteArray := ⟨#[91, 122, 45, 97, 93]⟩
theorem k1_at : (parseF ks1).2.1 = 0 := by decide +kernel
theorem k1_e : (parseF ks1).2.2 = 0 := by decide +kernel
theorem k1_len : (parseF ks1).1.length = 2 := by decide +kernel
theorem k1_yes : matchF (parseF ks1).1 (⟨#[63, 33, 32]⟩ : ByteArray) = true := by decide +kernel
theorem k1_no : matchF (parseF ks1).1 (⟨#[63, 33]⟩ : ByteArray) = false := by decide +kernel
theorem k2_at : (parseF ks2).2.1 = 3 := by decide +kernel
theorem k2_e : (parseF ks2).2.2 = 2 := by decide +kernel
theorem RetPar.out {w w' : World} {r : List At × Nat × Int} {e : Ending} (h : RetPar w r e w') {j : Nat} {x : Int} (hj : r.2.1 = j) (hx : r.2.2 = x) : ∃ v, e = .returned (.tuple #[v, .int .i64 (j : Nat), .int .i64 x]) ∧ OwnE 37 atC 34 w' w.heap.size v r.1 ∧ Below w.heap.size w w' := by
  subst hj
  subst hx
  exact h

set_option maxRecDepth 100000 in
set_option maxHeartbeats 2000000 in
theorem known_any (w : World) : Calls Try.prog 12 #[] w fun e w' => e = .returned (.bool true) ∧ Below w.heap.size w w' := by
  have H1 : Hid (∀ w, Calls Try.prog 14 #[.string ⟨#[91, 46, 33, 63, 93, 43, 92, 115]⟩] w fun e w' => ∃ v, e = .returned (.tuple #[v, .int .i64 0, .int .i64 0]) ∧ OwnE 37 atC 34 w' w.heap.size v (parseF ks1).1 ∧ Below w.heap.size w w') :=
    fun w => (parse_any w ks1 (by decide)).mono fun e w' h => h.out k1_at k1_e
  have H2 : Hid (∀ w, Calls Try.prog 14 #[.string ⟨#[91, 122, 45, 97, 93]⟩] w fun e w' => ∃ v, e = .returned (.tuple #[v, .int .i64 3, .int .i64 2]) ∧ OwnE 37 atC 34 w' w.heap.size v (parseF ks2).1 ∧ Below w.heap.size w w') :=
    fun w => (parse_any w ks2 (by decide)).mono fun e w' h => h.out k2_at k2_e
  have hl : (parseF ks1).1.length ≤ 140737488355328 := by rw [k1_len]; decide
  have m1 := k1_yes
  have m2 := k1_no
  generalize (parseF ks1).1 = p1 at H1 hl m1 m2
  generalize (parseF ks2).1 = p2 at H2
  go_enter Try.func12, Try.ntmps12
  go_upto_region 2 with (go_at_call 14; refine (H1.out _).mono ?_; rintro e w1 ⟨v1, rfl, ho1, hb1⟩)
  have HO1 := Lib.hid ho1
  have HB1 := Lib.hid hb1
  clear ho1 hb1
  go_upto_region 3 with (go_at_call 14; refine (H2.out _).mono ?_; rintro e w2 ⟨v2, rfl, ho2, hb2⟩)
  have HR2 := Lib.hid ((OwnE.rd atC_len HO1.out).below hb2 (Nat.le_refl _))
  have HB2 := Lib.hid (HB1.out.trans (hb2.mono HB1.out.size))
  clear HO1 HB1 ho2 hb2 H1 H2
  go_wp2_with (first
    | (go_at_call 19; refine (match_any p1 _ v1 w2 HR2.out (by decide) hl).mono ?_; rintro e w3 ⟨rfl, hb3⟩)
    | (go_at_call 19; refine (match_any p1 _ v1 w3 (HR2.out.below hb3 (Nat.le_refl _)) (by decide) hl).mono ?_; rintro e w4 ⟨rfl, hb4⟩))
  go_ret
  exact ⟨rfl, HB2.out.trans ((hb3.mono HB2.out.size).trans (hb4.mono (Nat.le_trans HB2.out.size hb3.size)))⟩

end Go.Proofs.Ytanpiidhcijfaaa
