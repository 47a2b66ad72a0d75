
/-
  Chapter 13: helpers of the statements: the made lists.
-/
import Derived.Test.YtiigabojncnipaaLaw12A
namespace Go.Proofs.Ytiigabojncnipaa
open Go.RowKit

set_option maxHeartbeats 1000000 in
theorem made13_any (l : List Int) (n : Nat) (v : Value) (w : World) (h : RdE intC 1 w v l) (hin : ∀ x ∈ l, IntIn x) (hn : n ≤ 1000) :
    Calls Try.prog 11 #[v, .int .i64 n] w (RetOwn 44 tkC 3 w (mkT l n)) := by
  obtain ⟨A, c, rfl, _, _⟩ := h.shape
  have hN : Nums (w.alloc (.cells #[.slice A l.length c, .int .i64 0] 50)) w.heap.size l 0 :=
    ⟨_, w, Array.getElem?_push_size, h, Nat.le_refl _, fun k hk => Below.heap_alloc _ _ _ hk, hin⟩
  have HF := Lib.hid (fragment_any' l w.heap.size 8 _ hN (by decide))
  obtain ⟨g1, g2, g3⟩ := made_ok' l
  have HM : Hid (mkT l n = (tokensL (fragL l 0 8).f).take n) := rfl
  have ht := tokensL_length (fragL l 0 8).f
  generalize (fragL l 0 8).f = m at HF g1 g2 HM ht
  generalize mkT l n = r at HM
  clear hN h g3
  go_enter Try.func11, Try.ntmps11
  go_wp2_with fail
  refine (HF.out).mono ?_
  rintro e w1 ⟨v1, rfl, hown, hb⟩
  have hb' := ((Below.refl w.heap.size w).alloc (Nat.le_refl _) (.cells #[.slice A l.length c, .int .i64 0] 50)).trans (hb.below (Nat.le_refl _) (by simp))
  have HR := Lib.hid (OwnE.rd tkC_three hown)
  have HB := Lib.hid hb'
  have hz := hb'.size
  clear hown hb hb'
  go_wp2_with fail
  refine (rtokens_any m _ _ (by exact HR.out) (by omega) (by omega)).mono ?_
  rintro e w2 ⟨v2, rfl, hown, hb⟩
  have HO := Lib.hid (own_base hown hz)
  have HB2 := Lib.hid (HB.out.trans (hb.mono hz))
  generalize tokensL m = tk at HO HM ht
  obtain ⟨A2, c2, hv⟩ := own_shape HO.out
  subst hv
  have hc2 := RdE.cap (OwnE.rd tkC_three HO.out)
  clear hown hb
  by_cases hlt : n < tk.length
  · have e1 : (n : Int) < (tk.length : Int) := by omega
    have e2 : (n : Int) ≤ (c2 : Int) := by omega
    have e3 : n ≤ c2 := by omega
    go_wp2_with fail
    go_ret
    refine ⟨_, rfl, ?_, HB2.out⟩
    rw [HM.out]
    have := own_take tkC_three HO.out n (by omega)
    exact this
  · have e1 : ¬ (n : Int) < (tk.length : Int) := by omega
    go_wp2_with fail
    go_ret
    refine ⟨_, rfl, ?_, HB2.out⟩
    rw [HM.out, List.take_of_length_le (by omega)]
    exact HO.out

end Go.Proofs.Ytiigabojncnipaa
