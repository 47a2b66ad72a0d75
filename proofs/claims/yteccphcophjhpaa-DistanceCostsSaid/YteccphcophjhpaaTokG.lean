
/-
  Contracts of the reference of package token (chapter 11): Tokens.
-/
import Derived.Test.YteccphcophjhpaaTokF
namespace Go.Proofs.Yteccphcophjhpaa
open Go.RowKit

theorem tok1_text (x : Tk) (h : x.k = 1) : tok1 x = (cutL x.t.data.toList).map tkOf := by rw [tok1, if_pos h]
theorem tok1_item (x : Tk) (h1 : 2 ≤ x.k) (h2 : x.k ≤ 5) : tok1 x = [x] := by rw [tok1, if_neg (by omega), if_pos ⟨h1, h2⟩]
theorem tok1_none (x : Tk) (h1 : x.k ≠ 1) (h2 : ¬ (2 ≤ x.k ∧ x.k ≤ 5)) : tok1 x = [] := by rw [tok1, if_neg h1, if_neg h2]
theorem cut_le (r : ByteArray) : ((cutL r.data.toList).map tkOf).length ≤ r.size := by
  rw [List.length_map, Lib.size_eq]
  exact cutL_length _ _ (Nat.le_refl _)
theorem tokens_bound (f : List Tk) (k : Nat) (hk : k < f.length) : (tokensL (f.take k)).length + f[k].t.size ≤ bytesOf f + f.length := by
  have h1 := tokensL_length (f.take k)
  have h2 := bytesOf_get f k hk
  rw [List.length_take] at h1
  omega

set_option maxHeartbeats 2000000 in
theorem rtokens_any (f : List Tk) (v : Value) (w : World) (hf : RdT w v f) (hl : f.length ≤ 100000) (hbt : bytesOf f ≤ 100000) :
    Calls Try.prog 31 #[v] w (RetOwn 23 tkC 3 w (tokensL f)) := by
  obtain ⟨A, c, rfl, _, _⟩ := hf.shape
  have HF := Lib.hid hf
  clear hf
  go_enter Try.func31, Try.ntmps31
  go_wp2
  go_loopw [3, 8] (fun ov i wr => ∃ k : Nat, k ≤ f.length ∧ i = .int .i64 k ∧ Hid (OwnT 23 wr w.heap.size ov (tokensL (f.take k))) ∧ Below w.heap.size w wr) (fun _ i _ => f.length - (intOf i).toNat)
  case atStart => exact ⟨0, by omega, rfl, OwnE.nil, Below.refl _ _⟩
  case round =>
    obtain ⟨k, hk, rfl, HO, hb⟩ := hrel
    have hsize := hb.size
    obtain ⟨A', c', hv⟩ := own_shape HO.out
    subst hv
    by_cases hkl : k < f.length
    · obtain ⟨b, o, rfl, hbl, q1, q2, q3⟩ := RdT.at_ HF.out k hkl
      rw [← hb.cell (p := ⟨b, o + k * 3, none⟩) hbl] at q1
      rw [← hb.cell (p := ⟨b, o + k * 3 + 1, none⟩) hbl] at q2
      rw [← hb.cell (p := ⟨b, o + k * 3 + 2, none⟩) hbl] at q3
      have hbd := tokens_bound f k hkl
      have HT := Lib.hid (tokensL_take f k hkl)
      have hszk := bytesOf_get f k hkl
      generalize f[k] = x at q1 q2 q3 hbd HT hszk
      obtain ⟨xk, xt, xd⟩ := x
      simp only at q1 q2 q3 hbd hszk
      generalize tokensL (f.take k) = out at HO HT hbd
      by_cases h1 : xk = 1
      · have HX := Lib.hid (tok1_text ⟨xk, xt, xd⟩ h1)
        have hcl := cut_le xt
        subst h1
        have cc := fun w => cut_any xt w (by omega)
        generalize (cutL xt.data.toList).map tkOf = cs at HX hcl cc
        have CC := Lib.hid cc
        clear cc
        go_wp2_with (first
          | (go_at_call 46; refine (CC.out _).mono ?_; rintro e w1 ⟨v1, rfl, hown1, hb1⟩; have hz1 := hb1.size; have HO1 := Lib.hid hown1; clear hown1)
          | (at_builtin; go_must (refine wpList_appE rfl (.tmp 16) (.tmp 19) 26 23 rfl Try.underlying26 _ tkC 3 32 tok_info rfl (by decide) tkC_three tkC_one w.heap.size _ out rfl (by exact own_below (World.ownsRow.alloc HO.out _) hb1 (Nat.le_refl _)) v1 cs rfl (by exact OwnE.rd tkC_three HO1.out) (by omega) (by decide) (by simp at hz1; omega) ?_); intro v2 w2 hown2 hbel2 hgr2))
        refine ⟨⟨k + 1, by omega, by go_num, ?_, hbel2 _ _ (Nat.le_refl _) ((by exact hb.alloc hsize _ : Below w.heap.size w _).trans (hb1.mono (by simp; omega)))⟩, by simp [intOf]; try omega⟩
        rw [HT.out, HX.out]
        exact hown2
      by_cases h2 : xk = 2
      · subst h2
        have HX := Lib.hid (tok1_item ⟨2, xt, xd⟩ (by show (2 : Int) ≤ 2; omega) (by show (2 : Int) ≤ 5; omega))
        go_wp2_with (at_builtin; go_must (refine wpList_app1 rfl (.tmp 26) (.tmp 34) 26 23 rfl Try.underlying26 _ 3 32 tok_info rfl (by decide) w.heap.size _ out.length (out.flatMap tkC) rfl (by exact World.ownsRow.alloc (World.ownsRow.alloc HO.out _) _) ⟨wr.heap.size + 1, 0, none⟩ 1 (tkC ⟨2, xt, xd⟩) rfl rfl (by exact cells_at _ _ (by simp) _ _) (tkC_one _) (by omega) (by decide) (by simp; omega) ?_); intro g cap w1 hown1 hg1 hbel1 hgr1)
        refine ⟨⟨k + 1, by omega, by go_num, ?_, hbel1 _ _ (Nat.le_refl _) (by exact (hb.alloc hsize _).alloc (by simp; omega) _)⟩, by simp [intOf]; try omega⟩
        rw [HT.out, HX.out]
        exact OwnE.snoc hown1
      by_cases h3 : xk = 3
      · subst h3
        have HX := Lib.hid (tok1_item ⟨3, xt, xd⟩ (by show (2 : Int) ≤ 3; omega) (by show (3 : Int) ≤ 5; omega))
        go_wp2_with (at_builtin; go_must (refine wpList_app1 rfl (.tmp 26) (.tmp 34) 26 23 rfl Try.underlying26 _ 3 32 tok_info rfl (by decide) w.heap.size _ out.length (out.flatMap tkC) rfl (by exact World.ownsRow.alloc (World.ownsRow.alloc HO.out _) _) ⟨wr.heap.size + 1, 0, none⟩ 1 (tkC ⟨3, xt, xd⟩) rfl rfl (by exact cells_at _ _ (by simp) _ _) (tkC_one _) (by omega) (by decide) (by simp; omega) ?_); intro g cap w1 hown1 hg1 hbel1 hgr1)
        refine ⟨⟨k + 1, by omega, by go_num, ?_, hbel1 _ _ (Nat.le_refl _) (by exact (hb.alloc hsize _).alloc (by simp; omega) _)⟩, by simp [intOf]; try omega⟩
        rw [HT.out, HX.out]
        exact OwnE.snoc hown1
      by_cases h4 : xk = 4
      · subst h4
        have HX := Lib.hid (tok1_item ⟨4, xt, xd⟩ (by show (2 : Int) ≤ 4; omega) (by show (4 : Int) ≤ 5; omega))
        go_wp2_with (at_builtin; go_must (refine wpList_app1 rfl (.tmp 26) (.tmp 34) 26 23 rfl Try.underlying26 _ 3 32 tok_info rfl (by decide) w.heap.size _ out.length (out.flatMap tkC) rfl (by exact World.ownsRow.alloc (World.ownsRow.alloc HO.out _) _) ⟨wr.heap.size + 1, 0, none⟩ 1 (tkC ⟨4, xt, xd⟩) rfl rfl (by exact cells_at _ _ (by simp) _ _) (tkC_one _) (by omega) (by decide) (by simp; omega) ?_); intro g cap w1 hown1 hg1 hbel1 hgr1)
        refine ⟨⟨k + 1, by omega, by go_num, ?_, hbel1 _ _ (Nat.le_refl _) (by exact (hb.alloc hsize _).alloc (by simp; omega) _)⟩, by simp [intOf]; try omega⟩
        rw [HT.out, HX.out]
        exact OwnE.snoc hown1
      by_cases h5 : xk = 5
      · subst h5
        have HX := Lib.hid (tok1_item ⟨5, xt, xd⟩ (by show (2 : Int) ≤ 5; omega) (by show (5 : Int) ≤ 5; omega))
        go_wp2_with (at_builtin; go_must (refine wpList_app1 rfl (.tmp 26) (.tmp 34) 26 23 rfl Try.underlying26 _ 3 32 tok_info rfl (by decide) w.heap.size _ out.length (out.flatMap tkC) rfl (by exact World.ownsRow.alloc (World.ownsRow.alloc HO.out _) _) ⟨wr.heap.size + 1, 0, none⟩ 1 (tkC ⟨5, xt, xd⟩) rfl rfl (by exact cells_at _ _ (by simp) _ _) (tkC_one _) (by omega) (by decide) (by simp; omega) ?_); intro g cap w1 hown1 hg1 hbel1 hgr1)
        refine ⟨⟨k + 1, by omega, by go_num, ?_, hbel1 _ _ (Nat.le_refl _) (by exact (hb.alloc hsize _).alloc (by simp; omega) _)⟩, by simp [intOf]; try omega⟩
        rw [HT.out, HX.out]
        exact OwnE.snoc hown1
      have HX := Lib.hid (tok1_none ⟨xk, xt, xd⟩ h1 (by show ¬ (2 ≤ xk ∧ xk ≤ 5); omega))
      have t1 : (xk == 1) = false := by simpa using h1
      have t2 : (xk == 2) = false := by simpa using h2
      have t3 : (xk == 3) = false := by simpa using h3
      have t4 : (xk == 4) = false := by simpa using h4
      have t5 : (xk == 5) = false := by simpa using h5
      clear h1 h2 h3 h4 h5
      go_wp2_with fail
      refine ⟨⟨k + 1, by omega, by go_num, ?_, hb.alloc hsize _⟩, by simp [intOf]; try omega⟩
      rw [HT.out, HX.out, List.append_nil]
      exact World.ownsRow.alloc HO.out _
    · obtain rfl : k = f.length := by omega
      go_wp2_with fail
      go_ret
      refine ⟨_, rfl, ?_, hb⟩
      have he := HO.out
      rw [List.take_length] at he ⊢
      exact he

end Go.Proofs.Yteccphcophjhpaa
