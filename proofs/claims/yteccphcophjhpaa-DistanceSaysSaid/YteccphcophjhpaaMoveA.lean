
/-
  Chapter 12: a list with a token put in.
-/
import Derived.Test.YteccphcophjhpaaMathMoves
import Derived.Test.YteccphcophjhpaaMemB
import Derived.Laws.OwnMore
namespace Go.Proofs.Yteccphcophjhpaa
open Go.RowKit

set_option maxHeartbeats 4000000 in
theorem with_any (l : List Tk) (i : Nat) (x : Tk) (v : Value) (w : World) (B : Nat) (ho : OwnE 23 tkC 3 w B v l) (hi : i ≤ l.length) (hl : l.length ≤ 1000) :
    Calls Try.prog 21 #[v, .int .i64 i, .agg #[.int .i64 x.k, .string x.t, .int .i64 x.d]] w (RetOwn 23 tkC 3 w (insL l i x)) := by
  obtain ⟨xk, xt, xd⟩ := x
  have hrd := OwnE.rd tkC_three ho
  have HI : Hid (insL l i ⟨xk, xt, xd⟩ = l.take i ++ ([⟨xk, xt, xd⟩] ++ l.drop i)) := rfl
  generalize insL l i ⟨xk, xt, xd⟩ = r at HI
  have t1 : (l.take i).length = i := by rw [List.length_take]; omega
  have t2 : (l.drop i).length = l.length - i := List.length_drop
  have T1 := Lib.hid t1
  have T2 := Lib.hid t2
  rcases ho.2 with ⟨rfl, h0⟩ | ⟨g, cap, cur, rfl, hbg, hh, hc, hcm, hs, htk⟩
  · obtain rfl : i = 0 := by omega
    obtain rfl : l = [] := List.eq_nil_of_length_eq_zero h0
    have HD : Hid (RdT w (.slice none 0 0) (([] : List Tk).drop 0)) := hrd
    have HTK : Hid (RdT w (.slice none 0 0) (([] : List Tk).take 0)) := hrd
    clear ho hrd t1 t2
    go_enter Try.func21, Try.ntmps21
    go_wp2_with fail
    have HBA : Hid (Below w.heap.size w ((w.alloc (.cells #[.int .i64 xk, .string xt, .int .i64 xd] 23)).alloc (.cells #[.int .i64 xk, .string xt, .int .i64 xd] 23))) := ((Below.refl w.heap.size w).alloc (Nat.le_refl _) _).alloc (by simp) _
    have TZ : Hid (OwnE 23 tkC 3 ((w.alloc (.cells #[.int .i64 xk, .string xt, .int .i64 xd] 23)).alloc (.cells #[.int .i64 xk, .string xt, .int .i64 xd] 23)) w.heap.size (.slice (some ⟨w.heap.size + 1, 0, none⟩) 1 1) [⟨xk, xt, xd⟩]) := by
      have h := World.ownsRow_lit (base := w.heap.size) (e := 23) (size := 3) (w.alloc (.cells #[.int .i64 xk, .string xt, .int .i64 xd] 23)) #[.int .i64 xk, .string xt, .int .i64 xd] 1 (by simp) (by decide) rfl
      rw [show (w.alloc (.cells #[.int .i64 xk, .string xt, .int .i64 xd] 23)).heap.size = w.heap.size + 1 by simp] at h
      exact h
    go_region_law (first
      | (refine step_appE rfl (.tmp 9) (.tmp 12) 26 23 rfl Try.underlying26 _ tkC 3 32 tok_info rfl (by decide) tkC_three tkC_one w.heap.size (.slice (some ⟨w.heap.size + 1, 0, none⟩) 1 1) [⟨xk, xt, xd⟩] (by simp [Act.eval, Act.put]) (by exact TZ.out) (.slice none 0 0) (([] : List Tk).drop 0) (by simp [Act.eval, Act.put]) (by exact RdE.drew (RdE.alloc (RdE.alloc HD.out _) _)) (by rw [T2.out]; show (1 + _) * 32 ≤ _; omega) (by decide) (by simp; omega) ?_
         intro v7 w7 hown7 hbel7 hgr7 _
         have HO7 := Lib.hid hown7
         have HB7 := Lib.hid (hbel7 w.heap.size w (Nat.le_refl _) (below_drewN HBA.out 1))
         have hz7 := HB7.out.size
         clear hown7 hbel7 hgr7))
    go_wp2_with (at_builtin; first
      | (refine wpList_appE rfl (.const (.slice none 0 0)) (.tmp 16) 26 23 rfl Try.underlying26 _ tkC 3 32 tok_info rfl (by decide) tkC_three tkC_one w7.heap.size _ ([] : List Tk) rfl OwnE.nil _ (([] : List Tk).take 0) rfl (by exact RdE.below HTK.out HB7.out (Nat.le_refl _)) (by rw [T1.out]; show (0 + _) * 32 ≤ _; omega) (by decide) (Nat.le_refl _) ?_; intro v8 w8 hown8 hbel8 hgr8; rw [List.nil_append] at hown8; have HO8 := Lib.hid hown8; have HB8 := Lib.hid (hbel8 w7.heap.size w7 (Nat.le_refl _) (Below.refl _ _)); have HX8 := Lib.hid (RdE.below (OwnE.rd tkC_three HO7.out) HB8.out (Nat.le_refl _)); have hz8 := HB8.out.size; clear hown8 hbel8 hgr8)
      | (refine wpList_appE rfl (.tmp 17) (.tmp 18) 26 23 rfl Try.underlying26 _ tkC 3 32 tok_info rfl (by decide) tkC_three tkC_one w7.heap.size _ (([] : List Tk).take 0) rfl (by exact HO8.out) _ ([⟨xk, xt, xd⟩] ++ ([] : List Tk).drop 0) rfl (by exact HX8.out) (by rw [List.length_append, T1.out, T2.out]; show (_ + (1 + _)) * 32 ≤ _; omega) (by decide) hz8 ?_; intro v9 w9 hown9 hbel9 hgr9; have HO9 := Lib.hid hown9; have HB9 := Lib.hid (HB7.out.trans ((hbel9 w7.heap.size w7 (Nat.le_refl _) HB8.out).mono hz7)); clear hown9 hbel9 hgr9))
    go_ret
    refine ⟨v9, rfl, ?_, HB9.out⟩
    rw [HI.out]
    exact own_base HO9.out hz7
  · have hg := (Array.getElem?_eq_some_iff.1 hh).1
    obtain ⟨A, hA, hrd2⟩ : ∃ A : Option Addr, (if cap = i then some (⟨g, 0, none⟩ : Addr) else some ⟨g, i * 3, none⟩) = A ∧ Hid (RdT w (.slice A (l.length - i) (cap - i)) (l.drop i)) := by
      refine ⟨_, rfl, show RdT _ _ _ from hrd.drop i hi _ (fun h => ?_) (fun h => ?_)⟩
      · rw [if_neg (by omega), Nat.zero_add]
      · split at h <;> cases h
    have HD := hrd2
    have HTK : Hid (RdT w (.slice (some ⟨g, 0, none⟩) i cap) (l.take i)) := hrd.take i hi
    have hic : i ≤ cap := by omega
    have hic2 : (i : Int) ≤ (cap : Int) := by omega
    have hil2 : (i : Int) ≤ (l.length : Int) := by omega
    clear ho hrd t1 t2 hh hs htk hrd2
    go_enter Try.func21, Try.ntmps21
    go_wp2_with fail
    have HBA : Hid (Below w.heap.size w ((w.alloc (.cells #[.int .i64 xk, .string xt, .int .i64 xd] 23)).alloc (.cells #[.int .i64 xk, .string xt, .int .i64 xd] 23))) := ((Below.refl w.heap.size w).alloc (Nat.le_refl _) _).alloc (by simp) _
    have TZ : Hid (OwnE 23 tkC 3 ((w.alloc (.cells #[.int .i64 xk, .string xt, .int .i64 xd] 23)).alloc (.cells #[.int .i64 xk, .string xt, .int .i64 xd] 23)) w.heap.size (.slice (some ⟨w.heap.size + 1, 0, none⟩) 1 1) [⟨xk, xt, xd⟩]) := by
      have h := World.ownsRow_lit (base := w.heap.size) (e := 23) (size := 3) (w.alloc (.cells #[.int .i64 xk, .string xt, .int .i64 xd] 23)) #[.int .i64 xk, .string xt, .int .i64 xd] 1 (by simp) (by decide) rfl
      rw [show (w.alloc (.cells #[.int .i64 xk, .string xt, .int .i64 xd] 23)).heap.size = w.heap.size + 1 by simp] at h
      exact h
    go_region_law (first
      | (refine step_appE rfl (.tmp 9) (.tmp 12) 26 23 rfl Try.underlying26 _ tkC 3 32 tok_info rfl (by decide) tkC_three tkC_one w.heap.size (.slice (some ⟨w.heap.size + 1, 0, none⟩) 1 1) [⟨xk, xt, xd⟩] (by simp [Act.eval, Act.put]) (by exact TZ.out) (.slice A (l.length - i) (cap - i)) (l.drop i) (by simp [Act.eval, Act.put]) (by exact RdE.drew (RdE.alloc (RdE.alloc HD.out _) _)) (by rw [T2.out]; show (1 + _) * 32 ≤ _; omega) (by decide) (by simp; omega) ?_
         intro v7 w7 hown7 hbel7 hgr7 _
         have HO7 := Lib.hid hown7
         have HB7 := Lib.hid (hbel7 w.heap.size w (Nat.le_refl _) (below_drewN HBA.out 1))
         have hz7 := HB7.out.size
         clear hown7 hbel7 hgr7))
    go_wp2_with (at_builtin; first
      | (refine wpList_appE rfl (.const (.slice none 0 0)) (.tmp 16) 26 23 rfl Try.underlying26 _ tkC 3 32 tok_info rfl (by decide) tkC_three tkC_one w7.heap.size _ ([] : List Tk) rfl OwnE.nil _ (l.take i) rfl (by exact RdE.below HTK.out HB7.out (Nat.le_refl _)) (by rw [T1.out]; show (0 + _) * 32 ≤ _; omega) (by decide) (Nat.le_refl _) ?_; intro v8 w8 hown8 hbel8 hgr8; rw [List.nil_append] at hown8; have HO8 := Lib.hid hown8; have HB8 := Lib.hid (hbel8 w7.heap.size w7 (Nat.le_refl _) (Below.refl _ _)); have HX8 := Lib.hid (RdE.below (OwnE.rd tkC_three HO7.out) HB8.out (Nat.le_refl _)); have hz8 := HB8.out.size; clear hown8 hbel8 hgr8)
      | (refine wpList_appE rfl (.tmp 17) (.tmp 18) 26 23 rfl Try.underlying26 _ tkC 3 32 tok_info rfl (by decide) tkC_three tkC_one w7.heap.size _ (l.take i) rfl (by exact HO8.out) _ ([⟨xk, xt, xd⟩] ++ l.drop i) rfl (by exact HX8.out) (by rw [List.length_append, T1.out, T2.out]; show (_ + (1 + _)) * 32 ≤ _; omega) (by decide) hz8 ?_; intro v9 w9 hown9 hbel9 hgr9; have HO9 := Lib.hid hown9; have HB9 := Lib.hid (HB7.out.trans ((hbel9 w7.heap.size w7 (Nat.le_refl _) HB8.out).mono hz7)); clear hown9 hbel9 hgr9))
    go_ret
    refine ⟨v9, rfl, ?_, HB9.out⟩
    rw [HI.out]
    exact own_base HO9.out hz7
end Go.Proofs.Yteccphcophjhpaa
