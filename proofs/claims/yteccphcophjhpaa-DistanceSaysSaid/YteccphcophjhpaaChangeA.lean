
/-
  Chapter 12: a list with one token changed, left out, or moved.
-/
import Derived.Test.YteccphcophjhpaaSlice
import Derived.Test.YteccphcophjhpaaSurB
import Derived.Test.YteccphcophjhpaaFragA
import Derived.Test.YteccphcophjhpaaMoveA
import Derived.Laws.OwnMore
namespace Go.Proofs.Yteccphcophjhpaa
open Go.RowKit

def ChgRet (n : Nat) (w : World) (e : Ending) (w' : World) : Prop := ∃ c : List Tk, c.length ≤ n ∧ (∀ x ∈ c, TkD x) ∧ RetOwn 23 tkC 3 w c e w'
theorem own_set {α : Type} {e : TypeId} {f : α → List Value} {m : Nat} {w : World} {B : Nat} {v : Value} {l : List α} (h : OwnE e f m w B v l) (b j : Nat) (u : Value) (hb : b < B) : OwnE e f m (w.setCell ⟨b, j, none⟩ u) B v l :=
  own_same h fun k hk => Below.heap_setCell _ _ _ _ (by have := (h.lt k hk).1; show k ≠ b; omega)
theorem below_set {W w : World} {B : Nat} (h : Below B W w) (b j : Nat) (u : Value) (hb : B ≤ b) : Below B W (w.setCell ⟨b, j, none⟩ u) := h.setCell (p := ⟨b, j, none⟩) hb u
theorem kind_d {k d : Int} {t : ByteArray} (hk : -9223372036854775808 ≤ k ∧ k ≤ 9223372036854775807) (ht : t.size ≤ 200) : TkD ⟨k, t, d⟩ := ⟨by unfold maxLen; show t.size ≤ _; omega, hk⟩

set_option maxRecDepth 100000 in
set_option maxHeartbeats 16000000 in
theorem changed_any (l : List Tk) (at0 to0 how0 : Int) (v : Value) (w : World) (h : RdT w v l) (h2 : IntIn at0) (h3 : IntIn to0) (h4 : IntIn how0) (hl : l.length ≤ 1000) (hsz : ∀ x ∈ l, x.t.size ≤ 144) (hkd : ∀ x ∈ l, -9223372036854775808 ≤ x.k ∧ x.k ≤ 9223372036854775807) :
    Calls Try.prog 25 #[v, .int .i64 at0, .int .i64 to0, .int .i64 how0] w (ChgRet (l.length + 1) w) := by
  obtain ⟨A, c, rfl, _, _⟩ := h.shape
  rcases Nat.eq_zero_or_pos l.length with h0 | h0
  · have hl0 : l = [] := List.eq_nil_of_length_eq_zero h0
    subst hl0
    clear hsz hkd h2 h3 h4 h
    go_enter Try.func25, Try.ntmps25
    go_wp2_with fail
    go_ret
    exact ⟨[], Nat.zero_le _, fun x hx => (by cases hx), _, rfl, OwnE.nil, Below.refl _ _⟩
  · obtain ⟨i, hi⟩ : ∃ i : Nat, at0 % (l.length : Int) = (i : Int) := ⟨(at0 % (l.length : Int)).toNat, by have := Int.emod_nonneg at0 (show (l.length : Int) ≠ 0 by omega); omega⟩
    have hil : i < l.length := by have := Int.emod_lt_of_pos at0 (show 0 < (l.length : Int) by omega); omega
    have PI := fun w => place_any at0 (l.length : Int) w h2 (by omega) (by omega)
    rw [hi] at PI
    have PH := fun w => place_any how0 4 w h4 (by omega) (by omega)
    have hq0 := Int.emod_nonneg how0 (show (4 : Int) ≠ 0 by decide)
    have hq1 := Int.emod_lt_of_pos how0 (show (0 : Int) < 4 by decide)
    obtain ⟨HT1, R1⟩ := sl_to h i (by omega)
    obtain ⟨B1, d1, HF1, R2⟩ := sl_from h (i + 1) (by omega)
    have R1' := R1.out
    have R2' := R2.out
    rw [show ((i + 1 : Nat) : Int) = (i : Int) + 1 by omega] at R2'
    have ei1 : IntKind.i64.wrap ((i : Int) + 1) = (i : Int) + 1 := by rw [IntKind.wrap_i64]; omega
    have hxd := hsz l[i] (List.getElem_mem hil)
    have hxk := hkd l[i] (List.getElem_mem hil)
    obtain ⟨ou, HOU⟩ : ∃ ou, Hid (l.take i ++ l.drop (i + 1) = ou) := ⟨_, rfl⟩
    have hou : ou.length = l.length - 1 := by rw [← HOU.out, List.length_append, List.length_take, List.length_drop]; omega
    have HOUL := Lib.hid hou
    have hou1 : ou.length ≤ l.length - 1 := by omega
    have hou2 : l.length - 1 ≤ ou.length := by omega
    have hod : ∀ x ∈ ou, TkD x := fun x hx => by
      rw [← HOU.out] at hx
      have hm : x ∈ l := (List.mem_append.1 hx).elim List.mem_of_mem_take List.mem_of_mem_drop
      have g1 := hsz x hm
      have g2 := hkd x hm
      exact ⟨by unfold maxLen; omega, g2⟩
    have HOD := Lib.hid hod
    have HMM : Hid (∀ (j : Nat) (y : Tk), TkD y → ∀ x ∈ ou.take j ++ ([y] ++ ou.drop j), TkD x) := fun j y hy x hx => by
      rcases List.mem_append.1 hx with hx | hx
      · exact HOD.out x (List.mem_of_mem_take hx)
      · rcases List.mem_append.1 hx with hx | hx
        · rw [List.mem_singleton] at hx; subst hx; exact hy
        · exact HOD.out x (List.mem_of_mem_drop hx)
    obtain ⟨k, hk⟩ : ∃ k : Nat, to0 % ((ou.length : Int) + 1) = (k : Int) := ⟨(to0 % ((ou.length : Int) + 1)).toNat, by have := Int.emod_nonneg to0 (show ((ou.length : Int) + 1) ≠ 0 by omega); omega⟩
    have hkl : k ≤ ou.length := by have := Int.emod_lt_of_pos to0 (show 0 < ((ou.length : Int) + 1) by omega); omega
    have HPT := fun w => place_any to0 ((ou.length : Int) + 1) w h3 (by omega) (by omega)
    rw [hk] at HPT
    have eo1 : IntKind.i64.wrap ((ou.length : Int) + 1) = (ou.length : Int) + 1 := by rw [IntKind.wrap_i64]; omega
    obtain ⟨bb, ob, rfl, hbl, q1, q2, q3⟩ := RdT.at_ h i hil
    generalize l[i] = x at q1 q2 q3 hxd hxk
    obtain ⟨xk, xt, xd⟩ := x
    simp only at q1 q2 q3 hxd hxk
    have HPT' := Lib.hid HPT
    clear HPT R1 R2 h hi hk h2 h3 h4 hsz hkd hou hod
    have hl0 : w.heap.size < (w.alloc (.cells #[.int .i64 xk, .string xt, .int .i64 xd] 23)).heap.size := by simp
    have HXB : Hid ((w.alloc (.cells #[.int .i64 xk, .string xt, .int .i64 xd] 23)).heap[w.heap.size]? = some (.cells #[.int .i64 xk, .string xt, .int .i64 xd] 23)) := Array.getElem?_push_size
    have HBA := Lib.hid ((Below.refl w.heap.size w).alloc (Nat.le_refl _) (.cells #[.int .i64 xk, .string xt, .int .i64 xd] 23))
    have HT1' := Lib.hid (RdE.alloc HT1.out (.cells #[.int .i64 xk, .string xt, .int .i64 xd] 23))
    have HF1' := Lib.hid (RdE.alloc HF1.out (.cells #[.int .i64 xk, .string xt, .int .i64 xd] 23))
    go_enter Try.func25, Try.ntmps25
    go_wp2_with fail
    refine (PI _).mono ?_
    rintro e w' ⟨rfl, rfl⟩
    go_wp2_with fail
    generalize w.alloc (.cells #[.int .i64 xk, .string xt, .int .i64 xd] 23) = wa at hl0 HXB HBA HT1' HF1'
    clear HT1 HF1 PI q1 q2 q3
    go_region_law (first
      | (refine step_appE rfl (.const (.slice none 0 0)) (.tmp 27) 26 23 rfl Try.underlying26 _ tkC 3 32 tok_info rfl (by decide) tkC_three tkC_one wa.heap.size (.slice none 0 0) ([] : List Tk) (by simp [Act.eval, Act.put]) (by exact OwnE.nil) (.slice (some ⟨bb, ob, none⟩) i c) (l.take i) (by simp [Act.eval, Act.put]) (by exact RdE.drew HT1'.out) (by rw [List.length_take]; show (0 + _) * 32 ≤ _; omega) (by decide) (Nat.le_refl _) ?_
         intro v7 w7 hown7 hbel7 hgr7 _
         rw [List.nil_append] at hown7
         have HO7 := Lib.hid hown7
         have HB7 := Lib.hid (hbel7 wa.heap.size wa (Nat.le_refl _) (below_drewN (Below.refl _ _) 1))
         have hz7 := HB7.out.size
         clear hown7 hbel7 hgr7)
      | (refine step_appE rfl (.tmp 28) (.tmp 32) 26 23 rfl Try.underlying26 _ tkC 3 32 tok_info rfl (by decide) tkC_three tkC_one wa.heap.size v7 (l.take i) (by simp [Act.eval, Act.put]) (by exact HO7.out) (.slice B1 (l.length - (i + 1)) d1) (l.drop (i + 1)) (by simp [Act.eval, Act.put]) (by exact RdE.below HF1'.out HB7.out (Nat.le_refl _)) (by rw [List.length_take, List.length_drop]; show (_ + _) * 32 ≤ _; omega) (by decide) hz7 ?_
         intro v8 w8 hown8 hbel8 hgr8 _
         rw [HOU.out] at hown8
         have HO8 := Lib.hid hown8
         obtain ⟨A8, c8, hv8⟩ := own_shape hown8
         subst hv8
         have HB8 := Lib.hid (hbel8 wa.heap.size wa (Nat.le_refl _) HB7.out)
         have hz8 := HB8.out.size
         clear hown8 hbel8 hgr8))
    clear R1' R2' ei1 HT1' HF1'
    have HX8 := Lib.hid ((HB8.out.block w.heap.size hl0).trans HXB.out)
    have hlx : w.heap.size < w8.heap.size := by omega
    have HB8w := Lib.hid (HBA.out.trans (HB8.out.mono (by omega)))
    have HPT := HPT'.out
    rcases (show how0 % 4 = 0 ∨ how0 % 4 = 1 ∨ how0 % 4 = 2 ∨ how0 % 4 = 3 by omega) with hq | hq | hq | hq
    · rw [hq] at PH
      clear hq hq0 hq1
      go_wp2_with fail
      refine (PH _).mono ?_
      rintro e w' ⟨rfl, rfl⟩
      go_wp2_with fail
      go_ret
      exact ⟨ou, by omega, HOD.out, _, rfl, own_base HO8.out (by omega), HB8w.out⟩
    · rw [hq] at PH
      clear hq hq0 hq1
      obtain ⟨y0, y1, y2, g0, g1, g2⟩ := box_facts HX8.out
      have HB9 : Hid (Below w.heap.size w (w8.setCell ⟨w.heap.size, 1, none⟩ (.string (xt ++ (⟨#[115]⟩ : ByteArray))))) := below_set HB8w.out _ _ _ (Nat.le_refl _)
      have HO9 : Hid (OwnE 23 tkC 3 (w8.setCell ⟨w.heap.size, 1, none⟩ (.string (xt ++ (⟨#[115]⟩ : ByteArray)))) wa.heap.size (.slice A8 ou.length c8) ou) := own_set HO8.out _ _ _ hl0
      have HX9 : Hid ((w8.setCell ⟨w.heap.size, 1, none⟩ (.string (xt ++ (⟨#[115]⟩ : ByteArray)))).heap[w.heap.size]? = some (.cells #[.int .i64 xk, .string (xt ++ (⟨#[115]⟩ : ByteArray)), .int .i64 xd] 23)) := set_row HX8.out 1 _
      have HYD : Hid (TkD ⟨xk, (xt ++ (⟨#[115]⟩ : ByteArray)), xd⟩) := kind_d hxk (by rw [ByteArray.size_append]; show xt.size + 1 ≤ _; omega)
      have hz9 : w.heap.size ≤ (w8.setCell ⟨w.heap.size, 1, none⟩ (.string (xt ++ (⟨#[115]⟩ : ByteArray)))).heap.size := HB9.out.size
      have hzw9 : wa.heap.size ≤ (w8.setCell ⟨w.heap.size, 1, none⟩ (.string (xt ++ (⟨#[115]⟩ : ByteArray)))).heap.size := by simpa [World.setCell] using hz8
      have hlx9 : w.heap.size < (w8.setCell ⟨w.heap.size, 1, none⟩ (.string (xt ++ (⟨#[115]⟩ : ByteArray)))).heap.size := by omega
      clear HB8w HO8 HX8 HB8
      go_wp2_with fail
      refine (PH _).mono ?_
      rintro e w' ⟨rfl, rfl⟩
      go_wp2_with fail
      clear y0 y1 y2 g0 g1 g2
      generalize (w8.setCell ⟨w.heap.size, 1, none⟩ (.string (xt ++ (⟨#[115]⟩ : ByteArray)))) = w9 at HB9 HO9 HX9 hz9 hzw9 hlx9
      go_wp2_with fail
      refine (HPT _).mono ?_
      rintro e w' ⟨rfl, rfl⟩
      obtain ⟨x0, x1, x2⟩ := tbox HX9.out
      have HRD := Lib.hid (OwnE.rd tkC_three HO9.out)
      have TZ : Hid (OwnE 23 tkC 3 (w9.alloc (.cells #[.int .i64 xk, .string (xt ++ (⟨#[115]⟩ : ByteArray)), .int .i64 xd] 23)) w9.heap.size (.slice (some ⟨w9.heap.size, 0, none⟩) 1 1) [⟨xk, (xt ++ (⟨#[115]⟩ : ByteArray)), xd⟩]) :=
        World.ownsRow_lit (base := w9.heap.size) (e := 23) (size := 3) w9 #[.int .i64 xk, .string (xt ++ (⟨#[115]⟩ : ByteArray)), .int .i64 xd] 1 (by simp) (by decide) rfl
      by_cases hbit : (bits BinOp.and IntKind.i64 how0 4 == 0) = true
      · obtain ⟨BJ, dj, HRJ, RJ⟩ := sl_from HRD.out i (by omega)
        obtain ⟨HTJ, RT⟩ := sl_to HRD.out i (by omega)
        have RJ' := RJ.out
        have RT' := RT.out
        clear RJ RT
        go_wp2_with fail
        go_region_law (first
          | (refine step_appE rfl (.tmp 58) (.tmp 61) 26 23 rfl Try.underlying26 _ tkC 3 32 tok_info rfl (by decide) tkC_three tkC_one w9.heap.size (.slice (some ⟨w9.heap.size, 0, none⟩) 1 1) [⟨xk, (xt ++ (⟨#[115]⟩ : ByteArray)), xd⟩] (by simp [Act.eval, Act.put]) (by exact TZ.out) (.slice BJ (ou.length - i) dj) (ou.drop i) (by simp [Act.eval, Act.put]) (by first | exact RdE.drew (RdE.alloc HRJ.out _) | exact RdE.alloc (RdE.drew HRJ.out) _) (by rw [List.length_drop]; show (1 + _) * 32 ≤ _; omega) (by decide) (by simp) ?_
             intro v7 w7 hown7 hbel7 hgr7 _
             have HO7 := Lib.hid hown7
             have HB7 := Lib.hid (hbel7 w9.heap.size w9 (Nat.le_refl _) (below_drewN ((Below.refl w9.heap.size w9).alloc (Nat.le_refl _) _) 1))
             have hz7 := HB7.out.size
             clear hown7 hbel7 hgr7))
        go_wp2_with (at_builtin; first
          | (refine wpList_appE rfl (.const (.slice none 0 0)) (.tmp 65) 26 23 rfl Try.underlying26 _ tkC 3 32 tok_info rfl (by decide) tkC_three tkC_one w7.heap.size _ ([] : List Tk) rfl OwnE.nil _ (ou.take i) rfl (by exact RdE.below HTJ.out HB7.out (Nat.le_refl _)) (by rw [List.length_take]; show (0 + _) * 32 ≤ _; omega) (by decide) (Nat.le_refl _) ?_; intro v8 w8' hown8 hbel8 hgr8; rw [List.nil_append] at hown8; have HO8' := Lib.hid hown8; have HB8' := Lib.hid (hbel8 w7.heap.size w7 (Nat.le_refl _) (Below.refl _ _)); have HX8' := Lib.hid (RdE.below (OwnE.rd tkC_three HO7.out) HB8'.out (Nat.le_refl _)); have hz8' := HB8'.out.size; clear hown8 hbel8 hgr8)
          | (refine wpList_appE rfl (.tmp 66) (.tmp 67) 26 23 rfl Try.underlying26 _ tkC 3 32 tok_info rfl (by decide) tkC_three tkC_one w7.heap.size _ (ou.take i) rfl (by exact HO8'.out) _ ([⟨xk, (xt ++ (⟨#[115]⟩ : ByteArray)), xd⟩] ++ ou.drop i) rfl (by exact HX8'.out) (by rw [List.length_append, List.length_take, List.length_drop]; show (_ + (1 + _)) * 32 ≤ _; omega) (by decide) hz8' ?_; intro v9 w9' hown9 hbel9 hgr9; have HO9' := Lib.hid hown9; have HB9' := Lib.hid (HB9.out.trans ((HB7.out.trans ((hbel9 w7.heap.size w7 (Nat.le_refl _) HB8'.out).mono hz7)).mono hz9)); clear hown9 hbel9 hgr9))
        go_ret
        refine ⟨ou.take i ++ ([⟨xk, (xt ++ (⟨#[115]⟩ : ByteArray)), xd⟩] ++ ou.drop i), ?_, HMM.out i _ HYD.out, v9, rfl, own_base HO9'.out (by omega), HB9'.out⟩
        rw [List.length_append, List.length_append, List.length_take, List.length_drop]
        show _ + (1 + _) ≤ _
        omega
      · have hbit' : (bits BinOp.and IntKind.i64 how0 4 == 0) = false := by simpa using hbit
        clear hbit
        obtain ⟨BJ, dj, HRJ, RJ⟩ := sl_from HRD.out k (by omega)
        obtain ⟨HTJ, RT⟩ := sl_to HRD.out k (by omega)
        have RJ' := RJ.out
        have RT' := RT.out
        clear RJ RT
        go_wp2_with fail
        go_region_law (first
          | (refine step_appE rfl (.tmp 58) (.tmp 61) 26 23 rfl Try.underlying26 _ tkC 3 32 tok_info rfl (by decide) tkC_three tkC_one w9.heap.size (.slice (some ⟨w9.heap.size, 0, none⟩) 1 1) [⟨xk, (xt ++ (⟨#[115]⟩ : ByteArray)), xd⟩] (by simp [Act.eval, Act.put]) (by exact TZ.out) (.slice BJ (ou.length - k) dj) (ou.drop k) (by simp [Act.eval, Act.put]) (by first | exact RdE.drew (RdE.alloc HRJ.out _) | exact RdE.alloc (RdE.drew HRJ.out) _) (by rw [List.length_drop]; show (1 + _) * 32 ≤ _; omega) (by decide) (by simp) ?_
             intro v7 w7 hown7 hbel7 hgr7 _
             have HO7 := Lib.hid hown7
             have HB7 := Lib.hid (hbel7 w9.heap.size w9 (Nat.le_refl _) (below_drewN ((Below.refl w9.heap.size w9).alloc (Nat.le_refl _) _) 1))
             have hz7 := HB7.out.size
             clear hown7 hbel7 hgr7))
        go_wp2_with (at_builtin; first
          | (refine wpList_appE rfl (.const (.slice none 0 0)) (.tmp 65) 26 23 rfl Try.underlying26 _ tkC 3 32 tok_info rfl (by decide) tkC_three tkC_one w7.heap.size _ ([] : List Tk) rfl OwnE.nil _ (ou.take k) rfl (by exact RdE.below HTJ.out HB7.out (Nat.le_refl _)) (by rw [List.length_take]; show (0 + _) * 32 ≤ _; omega) (by decide) (Nat.le_refl _) ?_; intro v8 w8' hown8 hbel8 hgr8; rw [List.nil_append] at hown8; have HO8' := Lib.hid hown8; have HB8' := Lib.hid (hbel8 w7.heap.size w7 (Nat.le_refl _) (Below.refl _ _)); have HX8' := Lib.hid (RdE.below (OwnE.rd tkC_three HO7.out) HB8'.out (Nat.le_refl _)); have hz8' := HB8'.out.size; clear hown8 hbel8 hgr8)
          | (refine wpList_appE rfl (.tmp 66) (.tmp 67) 26 23 rfl Try.underlying26 _ tkC 3 32 tok_info rfl (by decide) tkC_three tkC_one w7.heap.size _ (ou.take k) rfl (by exact HO8'.out) _ ([⟨xk, (xt ++ (⟨#[115]⟩ : ByteArray)), xd⟩] ++ ou.drop k) rfl (by exact HX8'.out) (by rw [List.length_append, List.length_take, List.length_drop]; show (_ + (1 + _)) * 32 ≤ _; omega) (by decide) hz8' ?_; intro v9 w9' hown9 hbel9 hgr9; have HO9' := Lib.hid hown9; have HB9' := Lib.hid (HB9.out.trans ((HB7.out.trans ((hbel9 w7.heap.size w7 (Nat.le_refl _) HB8'.out).mono hz7)).mono hz9)); clear hown9 hbel9 hgr9))
        go_ret
        refine ⟨ou.take k ++ ([⟨xk, (xt ++ (⟨#[115]⟩ : ByteArray)), xd⟩] ++ ou.drop k), ?_, HMM.out k _ HYD.out, v9, rfl, own_base HO9'.out (by omega), HB9'.out⟩
        rw [List.length_append, List.length_append, List.length_take, List.length_drop]
        show _ + (1 + _) ≤ _
        omega

    · rw [hq] at PH
      clear hq hq0 hq1
      obtain ⟨y0, y1, y2, g0, g1, g2⟩ := box_facts HX8.out
      have HB9 : Hid (Below w.heap.size w (((w8.setCell ⟨w.heap.size, 0, none⟩ (.int .i64 6)).setCell ⟨w.heap.size, 1, none⟩ (.string ⟨#[110, 101, 119]⟩)).setCell ⟨w.heap.size, 2, none⟩ (.int .i64 0))) := below_set (below_set (below_set HB8w.out _ _ _ (Nat.le_refl _)) _ _ _ (Nat.le_refl _)) _ _ _ (Nat.le_refl _)
      have HO9 : Hid (OwnE 23 tkC 3 (((w8.setCell ⟨w.heap.size, 0, none⟩ (.int .i64 6)).setCell ⟨w.heap.size, 1, none⟩ (.string ⟨#[110, 101, 119]⟩)).setCell ⟨w.heap.size, 2, none⟩ (.int .i64 0)) wa.heap.size (.slice A8 ou.length c8) ou) := own_set (own_set (own_set HO8.out _ _ _ hl0) _ _ _ hl0) _ _ _ hl0
      have HX9 : Hid ((((w8.setCell ⟨w.heap.size, 0, none⟩ (.int .i64 6)).setCell ⟨w.heap.size, 1, none⟩ (.string ⟨#[110, 101, 119]⟩)).setCell ⟨w.heap.size, 2, none⟩ (.int .i64 0)).heap[w.heap.size]? = some (.cells #[.int .i64 6, .string ⟨#[110, 101, 119]⟩, .int .i64 0] 23)) := box_set3 HX8.out _ _ _
      have HYD : Hid (TkD ⟨6, ⟨#[110, 101, 119]⟩, 0⟩) := kind_d ⟨by decide, by decide⟩ (by decide)
      have hz9 : w.heap.size ≤ (((w8.setCell ⟨w.heap.size, 0, none⟩ (.int .i64 6)).setCell ⟨w.heap.size, 1, none⟩ (.string ⟨#[110, 101, 119]⟩)).setCell ⟨w.heap.size, 2, none⟩ (.int .i64 0)).heap.size := HB9.out.size
      have hzw9 : wa.heap.size ≤ (((w8.setCell ⟨w.heap.size, 0, none⟩ (.int .i64 6)).setCell ⟨w.heap.size, 1, none⟩ (.string ⟨#[110, 101, 119]⟩)).setCell ⟨w.heap.size, 2, none⟩ (.int .i64 0)).heap.size := by simpa [World.setCell] using hz8
      have hlx9 : w.heap.size < (((w8.setCell ⟨w.heap.size, 0, none⟩ (.int .i64 6)).setCell ⟨w.heap.size, 1, none⟩ (.string ⟨#[110, 101, 119]⟩)).setCell ⟨w.heap.size, 2, none⟩ (.int .i64 0)).heap.size := by omega
      clear HB8w HO8 HX8 HB8
      go_wp2_with fail
      refine (PH _).mono ?_
      rintro e w' ⟨rfl, rfl⟩
      go_wp2_with fail
      clear y0 y1 y2 g0 g1 g2
      generalize (((w8.setCell ⟨w.heap.size, 0, none⟩ (.int .i64 6)).setCell ⟨w.heap.size, 1, none⟩ (.string ⟨#[110, 101, 119]⟩)).setCell ⟨w.heap.size, 2, none⟩ (.int .i64 0)) = w9 at HB9 HO9 HX9 hz9 hzw9 hlx9
      go_wp2_with fail
      refine (HPT _).mono ?_
      rintro e w' ⟨rfl, rfl⟩
      obtain ⟨x0, x1, x2⟩ := tbox HX9.out
      have HRD := Lib.hid (OwnE.rd tkC_three HO9.out)
      have TZ : Hid (OwnE 23 tkC 3 (w9.alloc (.cells #[.int .i64 6, .string ⟨#[110, 101, 119]⟩, .int .i64 0] 23)) w9.heap.size (.slice (some ⟨w9.heap.size, 0, none⟩) 1 1) [⟨6, ⟨#[110, 101, 119]⟩, 0⟩]) :=
        World.ownsRow_lit (base := w9.heap.size) (e := 23) (size := 3) w9 #[.int .i64 6, .string ⟨#[110, 101, 119]⟩, .int .i64 0] 1 (by simp) (by decide) rfl
      by_cases hbit : (bits BinOp.and IntKind.i64 how0 4 == 0) = true
      · obtain ⟨BJ, dj, HRJ, RJ⟩ := sl_from HRD.out i (by omega)
        obtain ⟨HTJ, RT⟩ := sl_to HRD.out i (by omega)
        have RJ' := RJ.out
        have RT' := RT.out
        clear RJ RT
        go_wp2_with fail
        go_region_law (first
          | (refine step_appE rfl (.tmp 58) (.tmp 61) 26 23 rfl Try.underlying26 _ tkC 3 32 tok_info rfl (by decide) tkC_three tkC_one w9.heap.size (.slice (some ⟨w9.heap.size, 0, none⟩) 1 1) [⟨6, ⟨#[110, 101, 119]⟩, 0⟩] (by simp [Act.eval, Act.put]) (by exact TZ.out) (.slice BJ (ou.length - i) dj) (ou.drop i) (by simp [Act.eval, Act.put]) (by first | exact RdE.drew (RdE.alloc HRJ.out _) | exact RdE.alloc (RdE.drew HRJ.out) _) (by rw [List.length_drop]; show (1 + _) * 32 ≤ _; omega) (by decide) (by simp) ?_
             intro v7 w7 hown7 hbel7 hgr7 _
             have HO7 := Lib.hid hown7
             have HB7 := Lib.hid (hbel7 w9.heap.size w9 (Nat.le_refl _) (below_drewN ((Below.refl w9.heap.size w9).alloc (Nat.le_refl _) _) 1))
             have hz7 := HB7.out.size
             clear hown7 hbel7 hgr7))
        go_wp2_with (at_builtin; first
          | (refine wpList_appE rfl (.const (.slice none 0 0)) (.tmp 65) 26 23 rfl Try.underlying26 _ tkC 3 32 tok_info rfl (by decide) tkC_three tkC_one w7.heap.size _ ([] : List Tk) rfl OwnE.nil _ (ou.take i) rfl (by exact RdE.below HTJ.out HB7.out (Nat.le_refl _)) (by rw [List.length_take]; show (0 + _) * 32 ≤ _; omega) (by decide) (Nat.le_refl _) ?_; intro v8 w8' hown8 hbel8 hgr8; rw [List.nil_append] at hown8; have HO8' := Lib.hid hown8; have HB8' := Lib.hid (hbel8 w7.heap.size w7 (Nat.le_refl _) (Below.refl _ _)); have HX8' := Lib.hid (RdE.below (OwnE.rd tkC_three HO7.out) HB8'.out (Nat.le_refl _)); have hz8' := HB8'.out.size; clear hown8 hbel8 hgr8)
          | (refine wpList_appE rfl (.tmp 66) (.tmp 67) 26 23 rfl Try.underlying26 _ tkC 3 32 tok_info rfl (by decide) tkC_three tkC_one w7.heap.size _ (ou.take i) rfl (by exact HO8'.out) _ ([⟨6, ⟨#[110, 101, 119]⟩, 0⟩] ++ ou.drop i) rfl (by exact HX8'.out) (by rw [List.length_append, List.length_take, List.length_drop]; show (_ + (1 + _)) * 32 ≤ _; omega) (by decide) hz8' ?_; intro v9 w9' hown9 hbel9 hgr9; have HO9' := Lib.hid hown9; have HB9' := Lib.hid (HB9.out.trans ((HB7.out.trans ((hbel9 w7.heap.size w7 (Nat.le_refl _) HB8'.out).mono hz7)).mono hz9)); clear hown9 hbel9 hgr9))
        go_ret
        refine ⟨ou.take i ++ ([⟨6, ⟨#[110, 101, 119]⟩, 0⟩] ++ ou.drop i), ?_, HMM.out i _ HYD.out, v9, rfl, own_base HO9'.out (by omega), HB9'.out⟩
        rw [List.length_append, List.length_append, List.length_take, List.length_drop]
        show _ + (1 + _) ≤ _
        omega
      · have hbit' : (bits BinOp.and IntKind.i64 how0 4 == 0) = false := by simpa using hbit
        clear hbit
        obtain ⟨BJ, dj, HRJ, RJ⟩ := sl_from HRD.out k (by omega)
        obtain ⟨HTJ, RT⟩ := sl_to HRD.out k (by omega)
        have RJ' := RJ.out
        have RT' := RT.out
        clear RJ RT
        go_wp2_with fail
        go_region_law (first
          | (refine step_appE rfl (.tmp 58) (.tmp 61) 26 23 rfl Try.underlying26 _ tkC 3 32 tok_info rfl (by decide) tkC_three tkC_one w9.heap.size (.slice (some ⟨w9.heap.size, 0, none⟩) 1 1) [⟨6, ⟨#[110, 101, 119]⟩, 0⟩] (by simp [Act.eval, Act.put]) (by exact TZ.out) (.slice BJ (ou.length - k) dj) (ou.drop k) (by simp [Act.eval, Act.put]) (by first | exact RdE.drew (RdE.alloc HRJ.out _) | exact RdE.alloc (RdE.drew HRJ.out) _) (by rw [List.length_drop]; show (1 + _) * 32 ≤ _; omega) (by decide) (by simp) ?_
             intro v7 w7 hown7 hbel7 hgr7 _
             have HO7 := Lib.hid hown7
             have HB7 := Lib.hid (hbel7 w9.heap.size w9 (Nat.le_refl _) (below_drewN ((Below.refl w9.heap.size w9).alloc (Nat.le_refl _) _) 1))
             have hz7 := HB7.out.size
             clear hown7 hbel7 hgr7))
        go_wp2_with (at_builtin; first
          | (refine wpList_appE rfl (.const (.slice none 0 0)) (.tmp 65) 26 23 rfl Try.underlying26 _ tkC 3 32 tok_info rfl (by decide) tkC_three tkC_one w7.heap.size _ ([] : List Tk) rfl OwnE.nil _ (ou.take k) rfl (by exact RdE.below HTJ.out HB7.out (Nat.le_refl _)) (by rw [List.length_take]; show (0 + _) * 32 ≤ _; omega) (by decide) (Nat.le_refl _) ?_; intro v8 w8' hown8 hbel8 hgr8; rw [List.nil_append] at hown8; have HO8' := Lib.hid hown8; have HB8' := Lib.hid (hbel8 w7.heap.size w7 (Nat.le_refl _) (Below.refl _ _)); have HX8' := Lib.hid (RdE.below (OwnE.rd tkC_three HO7.out) HB8'.out (Nat.le_refl _)); have hz8' := HB8'.out.size; clear hown8 hbel8 hgr8)
          | (refine wpList_appE rfl (.tmp 66) (.tmp 67) 26 23 rfl Try.underlying26 _ tkC 3 32 tok_info rfl (by decide) tkC_three tkC_one w7.heap.size _ (ou.take k) rfl (by exact HO8'.out) _ ([⟨6, ⟨#[110, 101, 119]⟩, 0⟩] ++ ou.drop k) rfl (by exact HX8'.out) (by rw [List.length_append, List.length_take, List.length_drop]; show (_ + (1 + _)) * 32 ≤ _; omega) (by decide) hz8' ?_; intro v9 w9' hown9 hbel9 hgr9; have HO9' := Lib.hid hown9; have HB9' := Lib.hid (HB9.out.trans ((HB7.out.trans ((hbel9 w7.heap.size w7 (Nat.le_refl _) HB8'.out).mono hz7)).mono hz9)); clear hown9 hbel9 hgr9))
        go_ret
        refine ⟨ou.take k ++ ([⟨6, ⟨#[110, 101, 119]⟩, 0⟩] ++ ou.drop k), ?_, HMM.out k _ HYD.out, v9, rfl, own_base HO9'.out (by omega), HB9'.out⟩
        rw [List.length_append, List.length_append, List.length_take, List.length_drop]
        show _ + (1 + _) ≤ _
        omega

    · rw [hq] at PH
      clear hq hq0 hq1
      have HB9 := HB8w
      have HO9 := HO8
      have HX9 := HX8
      have HYD : Hid (TkD ⟨xk, xt, xd⟩) := kind_d hxk (by omega)
      have hz9 : w.heap.size ≤ w8.heap.size := HB9.out.size
      have hzw9 : wa.heap.size ≤ w8.heap.size := by exact hz8
      have hlx9 : w.heap.size < w8.heap.size := by omega
      clear HB8w HO8 HX8 HB8
      go_wp2_with fail
      refine (PH _).mono ?_
      rintro e w' ⟨rfl, rfl⟩
      go_wp2_with fail
      generalize w8 = w9 at HB9 HO9 HX9 hz9 hzw9 hlx9
      go_wp2_with fail
      refine (HPT _).mono ?_
      rintro e w' ⟨rfl, rfl⟩
      obtain ⟨x0, x1, x2⟩ := tbox HX9.out
      have HRD := Lib.hid (OwnE.rd tkC_three HO9.out)
      have TZ : Hid (OwnE 23 tkC 3 (w9.alloc (.cells #[.int .i64 xk, .string xt, .int .i64 xd] 23)) w9.heap.size (.slice (some ⟨w9.heap.size, 0, none⟩) 1 1) [⟨xk, xt, xd⟩]) :=
        World.ownsRow_lit (base := w9.heap.size) (e := 23) (size := 3) w9 #[.int .i64 xk, .string xt, .int .i64 xd] 1 (by simp) (by decide) rfl
      by_cases hbit : (bits BinOp.and IntKind.i64 how0 4 == 0) = true
      · obtain ⟨BJ, dj, HRJ, RJ⟩ := sl_from HRD.out i (by omega)
        obtain ⟨HTJ, RT⟩ := sl_to HRD.out i (by omega)
        have RJ' := RJ.out
        have RT' := RT.out
        clear RJ RT
        go_wp2_with fail
        go_region_law (first
          | (refine step_appE rfl (.tmp 58) (.tmp 61) 26 23 rfl Try.underlying26 _ tkC 3 32 tok_info rfl (by decide) tkC_three tkC_one w9.heap.size (.slice (some ⟨w9.heap.size, 0, none⟩) 1 1) [⟨xk, xt, xd⟩] (by simp [Act.eval, Act.put]) (by exact TZ.out) (.slice BJ (ou.length - i) dj) (ou.drop i) (by simp [Act.eval, Act.put]) (by first | exact RdE.drew (RdE.alloc HRJ.out _) | exact RdE.alloc (RdE.drew HRJ.out) _) (by rw [List.length_drop]; show (1 + _) * 32 ≤ _; omega) (by decide) (by simp) ?_
             intro v7 w7 hown7 hbel7 hgr7 _
             have HO7 := Lib.hid hown7
             have HB7 := Lib.hid (hbel7 w9.heap.size w9 (Nat.le_refl _) (below_drewN ((Below.refl w9.heap.size w9).alloc (Nat.le_refl _) _) 1))
             have hz7 := HB7.out.size
             clear hown7 hbel7 hgr7))
        go_wp2_with (at_builtin; first
          | (refine wpList_appE rfl (.const (.slice none 0 0)) (.tmp 65) 26 23 rfl Try.underlying26 _ tkC 3 32 tok_info rfl (by decide) tkC_three tkC_one w7.heap.size _ ([] : List Tk) rfl OwnE.nil _ (ou.take i) rfl (by exact RdE.below HTJ.out HB7.out (Nat.le_refl _)) (by rw [List.length_take]; show (0 + _) * 32 ≤ _; omega) (by decide) (Nat.le_refl _) ?_; intro v8 w8' hown8 hbel8 hgr8; rw [List.nil_append] at hown8; have HO8' := Lib.hid hown8; have HB8' := Lib.hid (hbel8 w7.heap.size w7 (Nat.le_refl _) (Below.refl _ _)); have HX8' := Lib.hid (RdE.below (OwnE.rd tkC_three HO7.out) HB8'.out (Nat.le_refl _)); have hz8' := HB8'.out.size; clear hown8 hbel8 hgr8)
          | (refine wpList_appE rfl (.tmp 66) (.tmp 67) 26 23 rfl Try.underlying26 _ tkC 3 32 tok_info rfl (by decide) tkC_three tkC_one w7.heap.size _ (ou.take i) rfl (by exact HO8'.out) _ ([⟨xk, xt, xd⟩] ++ ou.drop i) rfl (by exact HX8'.out) (by rw [List.length_append, List.length_take, List.length_drop]; show (_ + (1 + _)) * 32 ≤ _; omega) (by decide) hz8' ?_; intro v9 w9' hown9 hbel9 hgr9; have HO9' := Lib.hid hown9; have HB9' := Lib.hid (HB9.out.trans ((HB7.out.trans ((hbel9 w7.heap.size w7 (Nat.le_refl _) HB8'.out).mono hz7)).mono hz9)); clear hown9 hbel9 hgr9))
        go_ret
        refine ⟨ou.take i ++ ([⟨xk, xt, xd⟩] ++ ou.drop i), ?_, HMM.out i _ HYD.out, v9, rfl, own_base HO9'.out (by omega), HB9'.out⟩
        rw [List.length_append, List.length_append, List.length_take, List.length_drop]
        show _ + (1 + _) ≤ _
        omega
      · have hbit' : (bits BinOp.and IntKind.i64 how0 4 == 0) = false := by simpa using hbit
        clear hbit
        obtain ⟨BJ, dj, HRJ, RJ⟩ := sl_from HRD.out k (by omega)
        obtain ⟨HTJ, RT⟩ := sl_to HRD.out k (by omega)
        have RJ' := RJ.out
        have RT' := RT.out
        clear RJ RT
        go_wp2_with fail
        go_region_law (first
          | (refine step_appE rfl (.tmp 58) (.tmp 61) 26 23 rfl Try.underlying26 _ tkC 3 32 tok_info rfl (by decide) tkC_three tkC_one w9.heap.size (.slice (some ⟨w9.heap.size, 0, none⟩) 1 1) [⟨xk, xt, xd⟩] (by simp [Act.eval, Act.put]) (by exact TZ.out) (.slice BJ (ou.length - k) dj) (ou.drop k) (by simp [Act.eval, Act.put]) (by first | exact RdE.drew (RdE.alloc HRJ.out _) | exact RdE.alloc (RdE.drew HRJ.out) _) (by rw [List.length_drop]; show (1 + _) * 32 ≤ _; omega) (by decide) (by simp) ?_
             intro v7 w7 hown7 hbel7 hgr7 _
             have HO7 := Lib.hid hown7
             have HB7 := Lib.hid (hbel7 w9.heap.size w9 (Nat.le_refl _) (below_drewN ((Below.refl w9.heap.size w9).alloc (Nat.le_refl _) _) 1))
             have hz7 := HB7.out.size
             clear hown7 hbel7 hgr7))
        go_wp2_with (at_builtin; first
          | (refine wpList_appE rfl (.const (.slice none 0 0)) (.tmp 65) 26 23 rfl Try.underlying26 _ tkC 3 32 tok_info rfl (by decide) tkC_three tkC_one w7.heap.size _ ([] : List Tk) rfl OwnE.nil _ (ou.take k) rfl (by exact RdE.below HTJ.out HB7.out (Nat.le_refl _)) (by rw [List.length_take]; show (0 + _) * 32 ≤ _; omega) (by decide) (Nat.le_refl _) ?_; intro v8 w8' hown8 hbel8 hgr8; rw [List.nil_append] at hown8; have HO8' := Lib.hid hown8; have HB8' := Lib.hid (hbel8 w7.heap.size w7 (Nat.le_refl _) (Below.refl _ _)); have HX8' := Lib.hid (RdE.below (OwnE.rd tkC_three HO7.out) HB8'.out (Nat.le_refl _)); have hz8' := HB8'.out.size; clear hown8 hbel8 hgr8)
          | (refine wpList_appE rfl (.tmp 66) (.tmp 67) 26 23 rfl Try.underlying26 _ tkC 3 32 tok_info rfl (by decide) tkC_three tkC_one w7.heap.size _ (ou.take k) rfl (by exact HO8'.out) _ ([⟨xk, xt, xd⟩] ++ ou.drop k) rfl (by exact HX8'.out) (by rw [List.length_append, List.length_take, List.length_drop]; show (_ + (1 + _)) * 32 ≤ _; omega) (by decide) hz8' ?_; intro v9 w9' hown9 hbel9 hgr9; have HO9' := Lib.hid hown9; have HB9' := Lib.hid (HB9.out.trans ((HB7.out.trans ((hbel9 w7.heap.size w7 (Nat.le_refl _) HB8'.out).mono hz7)).mono hz9)); clear hown9 hbel9 hgr9))
        go_ret
        refine ⟨ou.take k ++ ([⟨xk, xt, xd⟩] ++ ou.drop k), ?_, HMM.out k _ HYD.out, v9, rfl, own_base HO9'.out (by omega), HB9'.out⟩
        rw [List.length_append, List.length_append, List.length_take, List.length_drop]
        show _ + (1 + _) ≤ _
        omega


end Go.Proofs.Yteccphcophjhpaa
