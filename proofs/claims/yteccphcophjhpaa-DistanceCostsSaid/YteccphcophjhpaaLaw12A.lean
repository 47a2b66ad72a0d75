
/-
  Chapter 12: helpers of the statements: the made lists, the fixed example.
-/
import Derived.Test.YteccphcophjhpaaMathKnown12
import Derived.Test.YteccphcophjhpaaDistB
import Derived.Test.YteccphcophjhpaaFragA
import Derived.Test.YteccphcophjhpaaTokG
namespace Go.Proofs.Yteccphcophjhpaa
open Go.RowKit

/-- The head of a row of the call's own. -/
theorem own_take {α : Type} {e : TypeId} {f : α → List Value} {m : Nat} (hm : ∀ x, (f x).length = m) {w : World} {B : Nat} {A : Option Addr} {n c : Nat} {l : List α} (h : w.ownsRow B e m (.slice A n c) l.length (l.flatMap f)) (k : Nat) (hk : k ≤ l.length) :
    w.ownsRow B e m (.slice A k c) (l.take k).length ((l.take k).flatMap f) := by
  have hlen : (l.take k).length = k := by rw [List.length_take]; omega
  have hfl : ((l.take k).flatMap f).length = k * m := by rw [flat_length f m hm, hlen]
  have hpre : (l.flatMap f).take (k * m) = (l.take k).flatMap f := by
    have e1 : l.flatMap f = (l.take k).flatMap f ++ (l.drop k).flatMap f := by rw [← List.flatMap_append, List.take_append_drop]
    rw [e1, ← hfl, List.take_left]
  rw [hlen]
  refine ⟨hfl, ?_⟩
  rcases h.2 with ⟨hv, h0⟩ | ⟨g, cap, cur, hv, hb, hh, hc, hm', hs, ht⟩
  · injection hv with e1 e2 e3
    subst e1 e2 e3
    have : k = 0 := by omega
    subst this
    exact .inl ⟨rfl, rfl⟩
  · injection hv with e1 e2 e3
    subst e1 e2 e3
    refine .inr ⟨g, c, cur, rfl, hb, hh, by omega, hm', hs, ?_⟩
    rw [← hpre, ← ht, List.take_take, Nat.min_eq_left (Nat.mul_le_mul_right _ hk)]

theorem made_ok' (l : List Int) : (fragL l 0 8).f.length ≤ 8 ∧ bytesOf (fragL l 0 8).f ≤ 144 ∧ Kinds (fragL l 0 8).f := by
  have hb := nextN_bd l 0 (8 + 1) (by decide)
  have h := fragGo_ok l (nextN l 0 (8 + 1)).toNat ⟨[], [], 0, 0 + 1⟩ 0 (fok_start 1 (Nat.le_refl _))
  have h' : FOK (fragL l 0 8) (0 + (nextN l 0 (8 + 1)).toNat) := h
  have h1 := h'.len
  have h2 := h'.bytes
  exact ⟨by omega, by omega, h'.kinds⟩

/-- The tokens of a made fragment. -/
def mkT (l : List Int) (n : Nat) : List Tk := (tokensL (fragL l 0 8).f).take n
/-- What a made list of tokens keeps to. -/
structure Made (n : Nat) (m : List Tk) : Prop where
  len : m.length ≤ n
  wt : Weighty m
  sz : ∀ x ∈ m, x.t.size ≤ 144
theorem mk_made (l : List Int) (n : Nat) : Made n (mkT l n) := by
  obtain ⟨h1, h2, h3⟩ := made_ok' l
  have h := tokens_ok _ h3
  refine ⟨by unfold mkT; rw [List.length_take]; omega, fun x hx => (h x (List.mem_of_mem_take hx)).1, fun x hx => ?_⟩
  have := (h x (List.mem_of_mem_take hx)).2
  omega
theorem Made.toD {n : Nat} {m : List Tk} (h : Made n m) : ∀ x ∈ m, TkD x := fun x hx => by
  have h1 := h.wt x hx
  have h2 := h.sz x hx
  exact ⟨by unfold maxLen; omega, by omega, by omega⟩

set_option maxHeartbeats 1000000 in
theorem made12_any (l : List Int) (n : Nat) (v : Value) (w : World) (h : RdE intC 1 w v l) (hin : ∀ x ∈ l, IntIn x) (hn : n ≤ 1000) :
    Calls Try.prog 13 #[v, .int .i64 n] w (RetOwn 23 tkC 3 w (mkT l n)) := by
  obtain ⟨A, c, rfl, _, _⟩ := h.shape
  have hN : Nums (w.alloc (.cells #[.slice A l.length c, .int .i64 0] 55)) w.heap.size l 0 :=
    ⟨_, w, Array.getElem?_push_size, h, Nat.le_refl _, fun k hk => Below.heap_alloc _ _ _ hk, hin⟩
  have HF := Lib.hid (fragment_any' l w.heap.size 8 _ hN (by decide))
  obtain ⟨g1, g2, g3⟩ := made_ok' l
  have HM : Hid (mkT l n = (tokensL (fragL l 0 8).f).take n) := rfl
  have ht := tokensL_length (fragL l 0 8).f
  generalize (fragL l 0 8).f = m at HF g1 g2 HM ht
  generalize mkT l n = r at HM
  clear hN h g3
  go_enter Try.func13, Try.ntmps13
  go_wp2_with fail
  refine (HF.out).mono ?_
  rintro e w1 ⟨v1, rfl, hown, hb⟩
  have hb' := ((Below.refl w.heap.size w).alloc (Nat.le_refl _) (.cells #[.slice A l.length c, .int .i64 0] 55)).trans (hb.below (Nat.le_refl _) (by simp))
  have HR := Lib.hid (OwnE.rd tkC_three hown)
  have HB := Lib.hid hb'
  have hz := hb'.size
  clear hown hb hb'
  go_wp2_with fail
  refine (rtokens_any m _ _ (by exact HR.out) (by omega) (by omega)).mono ?_
  rintro e w2 ⟨v2, rfl, hown, hb⟩
  have HO := Lib.hid (own_base hown hz)
  have HB2 := Lib.hid (HB.out.trans (hb.mono hz))
  generalize tokensL m = tk at HO HM ht
  obtain ⟨A2, c2, hv⟩ := own_shape HO.out
  subst hv
  have hc2 := RdE.cap (OwnE.rd tkC_three HO.out)
  clear hown hb
  by_cases hlt : n < tk.length
  · have e1 : (n : Int) < (tk.length : Int) := by omega
    have e2 : (n : Int) ≤ (c2 : Int) := by omega
    have e3 : n ≤ c2 := by omega
    go_wp2_with fail
    go_ret
    refine ⟨_, rfl, ?_, HB2.out⟩
    rw [HM.out]
    have := own_take tkC_three HO.out n (by omega)
    exact this
  · have e1 : ¬ (n : Int) < (tk.length : Int) := by omega
    go_wp2_with fail
    go_ret
    refine ⟨_, rfl, ?_, HB2.out⟩
    rw [HM.out, List.take_of_length_le (by omega)]
    exact HO.out

end Go.Proofs.Yteccphcophjhpaa
