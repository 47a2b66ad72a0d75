
/-
  The statement SegmentPlaces: the walk.
-/
import Derived.Test.YtpboaadjbkaidaaDoorPackP2
import Derived.Test.YtpboaadjbkaidaaDoorPackP4
import Derived.Test.YtpboaadjbkaidaaDoorPackP5
import Derived.Test.YtpboaadjbkaidaaDoorPackP1
set_option linter.unusedVariables false
set_option linter.unusedSimpArgs false
namespace Go.Proofs.YtpboaadjbkaidaaDoor
set_option maxRecDepth 100000
open Go.RowKit

theorem lenI_inS : ∀ f : List Tk, (∀ x ∈ f, TkInS x) → lenI f ≤ f.length * 140737488351232
  | [], _ => Nat.le_refl _
  | x :: f, h => by
    have h1 := (h x (by simp)).2
    have h2 := lenI_inS f (fun y hy => h y (by simp [hy]))
    rw [lenI, List.length_cons, Nat.succ_mul]
    have h3 : wdI x ≤ 140737488351232 := by
      unfold wdI
      split
      · exact h1
      · decide
    omega
theorem lenI_bytes : ∀ f : List Tk, lenI f ≤ bytesOf f + f.length
  | [] => Nat.le_refl _
  | x :: f => by
    have h2 := lenI_bytes f
    have e : bytesOf (x :: f) = x.t.size + bytesOf f := by
      have := bytesOf_append [x] f
      rw [bytesOf_one] at this
      exact this
    rw [lenI, List.length_cons, e]
    have h3 : wdI x ≤ x.t.size + 1 := by
      unfold wdI
      split <;> omega
    omega
/-- What a made fragment keeps to. -/
theorem made6_ok (l : List Int) (n : Nat) (hn : n ≤ 8) : (fragL l 0 n).f.length ≤ 8 ∧ lenI (fragL l 0 n).f ≤ 200 := by
  have hb := nextN_bd l 0 ((n : Int) + 1) (by omega)
  have h := fragGo_ok l (nextN l 0 ((n : Int) + 1)).toNat ⟨[], [], 0, 0 + 1⟩ 0 (fok_start 1 (Nat.le_refl _))
  have h' : FOK (fragL l 0 n) (0 + (nextN l 0 ((n : Int) + 1)).toNat) := h
  have h1 := h'.len
  have h2 := h'.bytes
  have h3 := lenI_bytes (fragL l 0 n).f
  exact ⟨by omega, by omega⟩

set_option maxRecDepth 100000 in
set_option maxHeartbeats 16000000 in
theorem walk_SegmentPlaces (A : Option Addr) (n c : Nat) (f : List Tk) (A2 : Option Addr) (n2 c2 : Nat) (l : List Int) (off : Int) (w : World) (hg : Got w) (h0 : n = f.length ∧ f.length ≤ maxLen ∧ RdT w (.slice A n c) f ∧ ∀ x ∈ f, TkInS x)
    (h1 : n2 = l.length ∧ l.length ≤ maxLen ∧ RdE intC 1 w (.slice A2 n2 c2) l ∧ ∀ x ∈ l, IntIn x) (hk : (Lit.int .i64 off).wf = true) :
    Calls Tryd.prog 9 #[.slice A n c, .slice A2 n2 c2, .int .i64 off] w fun e w' => e = .returned (.bool true) ∧ Below w.heap.size w w' := by
  obtain ⟨rfl, hfl, hrf, hfi⟩ := h0
  obtain ⟨rfl, hll, hrl, hli⟩ := h1
  have hoff := wf_i64 hk
  unfold maxLen at hfl hll
  have HK := Lib.hid (fun (w' : World) (h : Below w.heap.size w w') => known6_any w' (got_below hg h))
  by_cases hf20 : 20 < f.length
  · have hf20i : (20 : Int) < (f.length : Int) := by omega
    go_enter Tryd.func9, Tryd.ntmps9
    go_wp2_with (go_at_call 17; refine (HK.out _ (Below.refl _ _)).mono ?_; rintro e w1 ⟨rfl, hb1⟩)
    go_ret
    exact ⟨rfl, hb1⟩
  have hf20i : ¬ (20 : Int) < (f.length : Int) := by omega
  have hlen := lenI_inS f hfi
  have hlb : lenI f ≤ 1000000000000000000 := by
    have : f.length * 140737488351232 ≤ 20 * 140737488351232 := Nat.mul_le_mul_right _ (by omega)
    omega
  have HLN := Lib.hid (rlength_any f _ w hrf hlb (by omega))
  by_cases hf100 : 100 < lenI f
  · have hf100i : (100 : Int) < (lenI f : Int) := by omega
    generalize lenI f = m at HLN hf100i
    go_enter Tryd.func9, Tryd.ntmps9
    go_wp2_with (first
      | (go_at_call 34; refine HLN.out.mono ?_; rintro e w1 ⟨rfl, rfl⟩)
      | (go_at_call 17; refine (HK.out _ (Below.refl _ _)).mono ?_; rintro e w1 ⟨rfl, hb1⟩))
    go_ret
    exact ⟨rfl, hb1⟩
  have hf100i : ¬ (100 : Int) < (lenI f : Int) := by omega
  by_cases hl80 : 80 < l.length
  · have hl80i : (80 : Int) < (l.length : Int) := by omega
    generalize lenI f = m at HLN hf100i
    go_enter Tryd.func9, Tryd.ntmps9
    go_wp2_with (first
      | (go_at_call 34; refine HLN.out.mono ?_; rintro e w1 ⟨rfl, rfl⟩)
      | (go_at_call 17; refine (HK.out _ (Below.refl _ _)).mono ?_; rintro e w1 ⟨rfl, hb1⟩))
    go_ret
    exact ⟨rfl, hb1⟩
  have hl80i : ¬ (80 : Int) < (l.length : Int) := by omega
  have hl80j : ¬ (80 : Int) < (l.length : Int) := hl80i
  obtain ⟨hgl, hgw⟩ := made6_ok l 6 (by decide)
  have HPF := Lib.hid (fun (o : Int) (u : World) (h : Below w.heap.size w u) => place5_any f _ o u (RdE.below hrf h (Nat.le_refl _)) (by omega) (by omega))
  have HQF := Lib.hid (fun (o : Int) (u : World) (h : Below w.heap.size w u) => rplace_any f _ o u (RdE.below hrf h (Nat.le_refl _)) (by omega) (by omega))
  have HP9 := Lib.hid (fun (u : World) => place_any off 9 u hoff (by decide) (by decide))
  have hN : Nums (w.alloc (.cells #[.slice A2 l.length c2, .int .i64 0] 62)) w.heap.size l 0 :=
    ⟨_, w, Array.getElem?_push_size, hrl, Nat.le_refl _, fun k hk => Below.heap_alloc _ _ _ hk, hli⟩
  have HF := Lib.hid (fragment_any' l w.heap.size 6 _ hN (by decide))
  generalize (fragL l 0 6).f = g at HF hgl hgw
  have hps := plS_size g
  have hpl := plI_len g
  generalize lenI f = m at HLN hf100i
  clear hN hrf hrl hli hfi hlen hlb hf100 hf20 hl80
  generalize off % 9 = o9 at HP9
  go_enter Tryd.func9, Tryd.ntmps9
  go_upto_region 4 with (first
    | (go_at_call 34; refine HLN.out.mono ?_; rintro e w1 ⟨rfl, rfl⟩)
    | (go_at_call 35; refine HF.out.mono ?_; rintro e w2 ⟨v2, rfl, ho2, hb2⟩))
  obtain ⟨A3, c3, hv3⟩ := own_shape ho2
  subst hv3
  have HB2 : Hid (Below w.heap.size w w2) := Lib.hid (((Below.refl w.heap.size w).alloc (Nat.le_refl _) (.cells #[.slice A2 l.length c2, .int .i64 0] 62)).trans (hb2.below (Nat.le_refl _) (by simp)))
  have HR2 := Lib.hid (OwnE.rd tkC_three ho2)
  clear ho2 hb2 HF HLN
  have HPG := Lib.hid (fun (o : Int) (u : World) (h : Below w2.heap.size w2 u) => place5_any g _ o u (RdE.below HR2.out h (Nat.le_refl _)) (by omega) (by omega))
  have HQG := Lib.hid (fun (o : Int) (u : World) (h : Below w2.heap.size w2 u) => rplace_any g _ o u (RdE.below HR2.out h (Nat.le_refl _)) (by omega) (by omega))
  have HPL := Lib.hid (rplain_any g _ w2 HR2.out (by omega) (by omega))
  generalize plS g = s at HPL hps
  have hsz : s.size ≤ 200 := by omega
  have HPK := Lib.hid (fun (u : World) => place_any off ((s.size : Int) + 2) u hoff (by omega) (by omega))
  generalize off % ((s.size : Int) + 2) = ok at HPK
  clear hps hpl
  go_upto_region 5 with (first
    | (go_at_call 36; refine HPL.out.mono ?_; rintro e w3 ⟨rfl, rfl⟩)
    | (go_at_call 14; refine (HPK.out _).mono ?_; rintro e w3 ⟨rfl, rfl⟩))
  clear HPL HPK hsz HR2
  have HB0 := Lib.hid (fun (u : World) (h : Below w2.heap.size w2 u) => HB2.out.trans (h.mono HB2.out.size))
  go_wp2_with fail
  refine (HPF.out off w2 HB2.out).mono ?_
  rintro e w3 ⟨rfl, hb3⟩
  have HB3 := Lib.hid (HB2.out.trans (hb3.mono HB2.out.size))
  have HC3 := Lib.hid hb3
  clear hb3
  go_wp2_with fail
  refine (HQF.out off _ HB3.out).mono ?_
  rintro e w4 ⟨rfl, hb4⟩
  have HC4 := Lib.hid (HC3.out.trans (hb4.mono HC3.out.size))
  clear hb4
  have t1 : (placeF f off == placeF f off) = true := beq_self_eq_true _
  generalize placeF f off = x1 at t1 ⊢
  go_wp2_with fail
  refine (HPG.out ok _ HC4.out).mono ?_
  rintro e w5 ⟨rfl, hb5⟩
  have HC5 := Lib.hid (HC4.out.trans (hb5.mono HC4.out.size))
  clear hb5
  go_wp2_with fail
  refine (HQG.out ok _ HC5.out).mono ?_
  rintro e w6 ⟨rfl, hb6⟩
  have HC6 := Lib.hid (HC5.out.trans (hb6.mono HC5.out.size))
  clear hb6
  have t2 : (placeF g ok == placeF g ok) = true := beq_self_eq_true _
  generalize placeF g ok = x2 at t2 ⊢
  go_wp2_with fail
  refine (HP9.out _).mono ?_
  rintro e w7 ⟨rfl, rfl⟩
  go_wp2_with fail
  refine (HPF.out o9 _ (HB0.out _ HC6.out)).mono ?_
  rintro e w7 ⟨rfl, hb7⟩
  have HC7 := Lib.hid (HC6.out.trans (hb7.mono HC6.out.size))
  clear hb7
  go_wp2_with fail
  refine (HP9.out _).mono ?_
  rintro e w8 ⟨rfl, rfl⟩
  go_wp2_with fail
  refine (HQF.out o9 _ (HB0.out _ HC7.out)).mono ?_
  rintro e w8 ⟨rfl, hb8⟩
  have HC8 := Lib.hid (HC7.out.trans (hb8.mono HC7.out.size))
  clear hb8
  have t3 : (placeF f o9 == placeF f o9) = true := beq_self_eq_true _
  generalize placeF f o9 = x3 at t3 ⊢
  go_wp2_with fail
  refine (HK.out _ (HB0.out _ HC8.out)).mono ?_
  rintro e w9 ⟨rfl, hb9⟩
  go_wp2_with fail
  go_ret
  exact ⟨rfl, (HB0.out _ HC8.out).trans (hb9.mono (HB0.out _ HC8.out).size)⟩

end Go.Proofs.YtpboaadjbkaidaaDoor
