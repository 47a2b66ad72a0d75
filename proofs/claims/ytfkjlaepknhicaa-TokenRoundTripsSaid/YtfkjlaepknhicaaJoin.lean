
/-
  Join of package token and of its reference.
-/
import Derived.Test.YtfkjlaepknhicaaNormA
import Derived.Test.YtfkjlaepknhicaaNormB
namespace Go.Proofs.Ytfkjlaepknhicaa
open Go.RowKit

set_option maxHeartbeats 4000000 in
theorem join_any (l : List Tk) (v : Value) (w : World) (hf : RdT w v l) (hl : l.length ≤ 100000) (hbt : bytesOf l ≤ 100000) :
    Calls Try.prog 29 #[v] w (RetOwn 27 tkC 3 w (normL (itemsOf l))) := by
  obtain ⟨A, c, rfl, _, _⟩ := hf.shape
  have HF := Lib.hid hf
  clear hf
  go_enter Try.func29, Try.ntmps29
  go_wp2
  go_loopw [3, 8] (fun ov i wr => ∃ k : Nat, k ≤ l.length ∧ i = .int .i64 k ∧ Hid (OwnT 27 wr w.heap.size ov (itemsOf (l.take k))) ∧ Below w.heap.size w wr) (fun _ i _ => l.length - (intOf i).toNat)
  case atStart => exact ⟨0, by omega, rfl, OwnE.nil, Below.refl _ _⟩
  case round =>
    obtain ⟨k, hk, rfl, HO, hb⟩ := hrel
    have hsize := hb.size
    obtain ⟨A', c', hv⟩ := own_shape HO.out
    subst hv
    by_cases hkl : k < l.length
    · obtain ⟨b, o, rfl, hbl, q1, q2, q3⟩ := RdT.at_ HF.out k hkl
      rw [← hb.cell (p := ⟨b, o + k * 3, none⟩) hbl] at q1
      rw [← hb.cell (p := ⟨b, o + k * 3 + 1, none⟩) hbl] at q2
      rw [← hb.cell (p := ⟨b, o + k * 3 + 2, none⟩) hbl] at q3
      have hbd := (itemsOf_length (l.take k)).1
      rw [List.length_take] at hbd
      have HT := Lib.hid (itemsOf_take l k hkl)
      generalize l[k] = x at q1 q2 q3 HT
      obtain ⟨xk, xt, xd⟩ := x
      simp only at q1 q2 q3
      generalize itemsOf (l.take k) = out at HO HT hbd
      by_cases h6 : xk = 6
      · subst h6
        have HX := Lib.hid (itemOf_text ⟨6, xt, xd⟩ (by show (6 : Int) ≤ 6; omega) (by show (6 : Int) ≤ 9; omega))
        go_wp2_with (at_builtin; go_must (refine wpList_app1 rfl (.tmp 19) (.tmp 23) 22 27 rfl Try.underlying22 _ 3 32 item_info rfl (by decide) w.heap.size _ out.length (out.flatMap tkC) rfl (by exact World.ownsRow.alloc (World.ownsRow.alloc HO.out _) _) ⟨wr.heap.size + 1, 0, none⟩ 1 (tkC ⟨1, xt, 0⟩) rfl rfl (by exact cells_at _ _ (by simp) _ _) (tkC_one _) (by omega) (by decide) (by simp; omega) ?_); intro g cap w1 hown1 hg1 hbel1 hgr1)
        refine ⟨⟨k + 1, by omega, by go_num, ?_, hbel1 _ _ (Nat.le_refl _) (by exact (hb.alloc hsize _).alloc (by simp; omega) _)⟩, by simp [intOf]; try omega⟩
        rw [HT.out, HX.out]
        exact OwnE.snoc hown1
      by_cases h7 : xk = 7
      · subst h7
        have HX := Lib.hid (itemOf_text ⟨7, xt, xd⟩ (by show (6 : Int) ≤ 7; omega) (by show (7 : Int) ≤ 9; omega))
        go_wp2_with (at_builtin; go_must (refine wpList_app1 rfl (.tmp 19) (.tmp 23) 22 27 rfl Try.underlying22 _ 3 32 item_info rfl (by decide) w.heap.size _ out.length (out.flatMap tkC) rfl (by exact World.ownsRow.alloc (World.ownsRow.alloc HO.out _) _) ⟨wr.heap.size + 1, 0, none⟩ 1 (tkC ⟨1, xt, 0⟩) rfl rfl (by exact cells_at _ _ (by simp) _ _) (tkC_one _) (by omega) (by decide) (by simp; omega) ?_); intro g cap w1 hown1 hg1 hbel1 hgr1)
        refine ⟨⟨k + 1, by omega, by go_num, ?_, hbel1 _ _ (Nat.le_refl _) (by exact (hb.alloc hsize _).alloc (by simp; omega) _)⟩, by simp [intOf]; try omega⟩
        rw [HT.out, HX.out]
        exact OwnE.snoc hown1
      by_cases h8 : xk = 8
      · subst h8
        have HX := Lib.hid (itemOf_text ⟨8, xt, xd⟩ (by show (6 : Int) ≤ 8; omega) (by show (8 : Int) ≤ 9; omega))
        go_wp2_with (at_builtin; go_must (refine wpList_app1 rfl (.tmp 19) (.tmp 23) 22 27 rfl Try.underlying22 _ 3 32 item_info rfl (by decide) w.heap.size _ out.length (out.flatMap tkC) rfl (by exact World.ownsRow.alloc (World.ownsRow.alloc HO.out _) _) ⟨wr.heap.size + 1, 0, none⟩ 1 (tkC ⟨1, xt, 0⟩) rfl rfl (by exact cells_at _ _ (by simp) _ _) (tkC_one _) (by omega) (by decide) (by simp; omega) ?_); intro g cap w1 hown1 hg1 hbel1 hgr1)
        refine ⟨⟨k + 1, by omega, by go_num, ?_, hbel1 _ _ (Nat.le_refl _) (by exact (hb.alloc hsize _).alloc (by simp; omega) _)⟩, by simp [intOf]; try omega⟩
        rw [HT.out, HX.out]
        exact OwnE.snoc hown1
      by_cases h9 : xk = 9
      · subst h9
        have HX := Lib.hid (itemOf_text ⟨9, xt, xd⟩ (by show (6 : Int) ≤ 9; omega) (by show (9 : Int) ≤ 9; omega))
        go_wp2_with (at_builtin; go_must (refine wpList_app1 rfl (.tmp 19) (.tmp 23) 22 27 rfl Try.underlying22 _ 3 32 item_info rfl (by decide) w.heap.size _ out.length (out.flatMap tkC) rfl (by exact World.ownsRow.alloc (World.ownsRow.alloc HO.out _) _) ⟨wr.heap.size + 1, 0, none⟩ 1 (tkC ⟨1, xt, 0⟩) rfl rfl (by exact cells_at _ _ (by simp) _ _) (tkC_one _) (by omega) (by decide) (by simp; omega) ?_); intro g cap w1 hown1 hg1 hbel1 hgr1)
        refine ⟨⟨k + 1, by omega, by go_num, ?_, hbel1 _ _ (Nat.le_refl _) (by exact (hb.alloc hsize _).alloc (by simp; omega) _)⟩, by simp [intOf]; try omega⟩
        rw [HT.out, HX.out]
        exact OwnE.snoc hown1
      by_cases h2 : xk = 2
      · subst h2
        have HX := Lib.hid (itemOf_item ⟨2, xt, xd⟩ (by show (2 : Int) ≤ 2; omega) (by show (2 : Int) ≤ 5; omega))
        go_wp2_with (at_builtin; go_must (refine wpList_app1 rfl (.tmp 30) (.tmp 32) 22 27 rfl Try.underlying22 _ 3 32 item_info rfl (by decide) w.heap.size _ out.length (out.flatMap tkC) rfl (by exact World.ownsRow.alloc (World.ownsRow.alloc HO.out _) _) ⟨wr.heap.size + 1, 0, none⟩ 1 (tkC ⟨2, xt, xd⟩) rfl rfl (by exact cells_at _ _ (by simp) _ _) (tkC_one _) (by omega) (by decide) (by simp; omega) ?_); intro g cap w1 hown1 hg1 hbel1 hgr1)
        refine ⟨⟨k + 1, by omega, by go_num, ?_, hbel1 _ _ (Nat.le_refl _) (by exact (hb.alloc hsize _).alloc (by simp; omega) _)⟩, by simp [intOf]; try omega⟩
        rw [HT.out, HX.out]
        exact OwnE.snoc hown1
      by_cases h3 : xk = 3
      · subst h3
        have HX := Lib.hid (itemOf_item ⟨3, xt, xd⟩ (by show (2 : Int) ≤ 3; omega) (by show (3 : Int) ≤ 5; omega))
        go_wp2_with (at_builtin; go_must (refine wpList_app1 rfl (.tmp 30) (.tmp 32) 22 27 rfl Try.underlying22 _ 3 32 item_info rfl (by decide) w.heap.size _ out.length (out.flatMap tkC) rfl (by exact World.ownsRow.alloc (World.ownsRow.alloc HO.out _) _) ⟨wr.heap.size + 1, 0, none⟩ 1 (tkC ⟨3, xt, xd⟩) rfl rfl (by exact cells_at _ _ (by simp) _ _) (tkC_one _) (by omega) (by decide) (by simp; omega) ?_); intro g cap w1 hown1 hg1 hbel1 hgr1)
        refine ⟨⟨k + 1, by omega, by go_num, ?_, hbel1 _ _ (Nat.le_refl _) (by exact (hb.alloc hsize _).alloc (by simp; omega) _)⟩, by simp [intOf]; try omega⟩
        rw [HT.out, HX.out]
        exact OwnE.snoc hown1
      by_cases h4 : xk = 4
      · subst h4
        have HX := Lib.hid (itemOf_item ⟨4, xt, xd⟩ (by show (2 : Int) ≤ 4; omega) (by show (4 : Int) ≤ 5; omega))
        go_wp2_with (at_builtin; go_must (refine wpList_app1 rfl (.tmp 30) (.tmp 32) 22 27 rfl Try.underlying22 _ 3 32 item_info rfl (by decide) w.heap.size _ out.length (out.flatMap tkC) rfl (by exact World.ownsRow.alloc (World.ownsRow.alloc HO.out _) _) ⟨wr.heap.size + 1, 0, none⟩ 1 (tkC ⟨4, xt, xd⟩) rfl rfl (by exact cells_at _ _ (by simp) _ _) (tkC_one _) (by omega) (by decide) (by simp; omega) ?_); intro g cap w1 hown1 hg1 hbel1 hgr1)
        refine ⟨⟨k + 1, by omega, by go_num, ?_, hbel1 _ _ (Nat.le_refl _) (by exact (hb.alloc hsize _).alloc (by simp; omega) _)⟩, by simp [intOf]; try omega⟩
        rw [HT.out, HX.out]
        exact OwnE.snoc hown1
      by_cases h5 : xk = 5
      · subst h5
        have HX := Lib.hid (itemOf_item ⟨5, xt, xd⟩ (by show (2 : Int) ≤ 5; omega) (by show (5 : Int) ≤ 5; omega))
        go_wp2_with (at_builtin; go_must (refine wpList_app1 rfl (.tmp 30) (.tmp 32) 22 27 rfl Try.underlying22 _ 3 32 item_info rfl (by decide) w.heap.size _ out.length (out.flatMap tkC) rfl (by exact World.ownsRow.alloc (World.ownsRow.alloc HO.out _) _) ⟨wr.heap.size + 1, 0, none⟩ 1 (tkC ⟨5, xt, xd⟩) rfl rfl (by exact cells_at _ _ (by simp) _ _) (tkC_one _) (by omega) (by decide) (by simp; omega) ?_); intro g cap w1 hown1 hg1 hbel1 hgr1)
        refine ⟨⟨k + 1, by omega, by go_num, ?_, hbel1 _ _ (Nat.le_refl _) (by exact (hb.alloc hsize _).alloc (by simp; omega) _)⟩, by simp [intOf]; try omega⟩
        rw [HT.out, HX.out]
        exact OwnE.snoc hown1
      have HX := Lib.hid (itemOf_none ⟨xk, xt, xd⟩ (by show ¬ (2 ≤ xk ∧ xk ≤ 9); omega))
      have t2 : (xk == 2) = false := by simpa using h2
      have t3 : (xk == 3) = false := by simpa using h3
      have t4 : (xk == 4) = false := by simpa using h4
      have t5 : (xk == 5) = false := by simpa using h5
      have t6 : (xk == 6) = false := by simpa using h6
      have t7 : (xk == 7) = false := by simpa using h7
      have t8 : (xk == 8) = false := by simpa using h8
      have t9 : (xk == 9) = false := by simpa using h9
      clear h2 h3 h4 h5 h6 h7 h8 h9
      go_wp2_with fail
      refine ⟨⟨k + 1, by omega, by go_num, ?_, hb.alloc hsize _⟩, by simp [intOf]; try omega⟩
      rw [HT.out, HX.out, List.append_nil]
      exact World.ownsRow.alloc HO.out _
    · obtain rfl : k = l.length := by omega
      have he := HO.out
      rw [List.take_length] at he
      have HE := Lib.hid (OwnE.rd tkC_three he)
      have hn := itemsOf_length l
      rw [List.take_length]
      clear he HO
      go_wp2_with fail
      refine (norm_any (itemsOf l) _ _ (by exact HE.out) (by omega) (by omega)).mono ?_
      rintro e w1 ⟨v1, rfl, hown1, hb1⟩
      have HO1 := Lib.hid (own_base hown1 hsize)
      have HB1 := Lib.hid (hb.trans (hb1.mono hsize))
      clear hown1 hb1
      go_wp2_with fail
      go_ret
      exact ⟨v1, rfl, HO1.out, HB1.out⟩

set_option maxHeartbeats 4000000 in
theorem rjoin_any (l : List Tk) (v : Value) (w : World) (hf : RdT w v l) (hl : l.length ≤ 100000) (hbt : bytesOf l ≤ 100000) :
    Calls Try.prog 30 #[v] w (RetOwn 27 tkC 3 w (normL (itemsOf l))) := by
  obtain ⟨A, c, rfl, _, _⟩ := hf.shape
  have HF := Lib.hid hf
  clear hf
  go_enter Try.func30, Try.ntmps30
  go_wp2
  go_loopw [3, 8] (fun ov i wr => ∃ k : Nat, k ≤ l.length ∧ i = .int .i64 k ∧ Hid (OwnT 27 wr w.heap.size ov (itemsOf (l.take k))) ∧ Below w.heap.size w wr) (fun _ i _ => l.length - (intOf i).toNat)
  case atStart => exact ⟨0, by omega, rfl, OwnE.nil, Below.refl _ _⟩
  case round =>
    obtain ⟨k, hk, rfl, HO, hb⟩ := hrel
    have hsize := hb.size
    obtain ⟨A', c', hv⟩ := own_shape HO.out
    subst hv
    by_cases hkl : k < l.length
    · obtain ⟨b, o, rfl, hbl, q1, q2, q3⟩ := RdT.at_ HF.out k hkl
      rw [← hb.cell (p := ⟨b, o + k * 3, none⟩) hbl] at q1
      rw [← hb.cell (p := ⟨b, o + k * 3 + 1, none⟩) hbl] at q2
      rw [← hb.cell (p := ⟨b, o + k * 3 + 2, none⟩) hbl] at q3
      have hbd := (itemsOf_length (l.take k)).1
      rw [List.length_take] at hbd
      have HT := Lib.hid (itemsOf_take l k hkl)
      generalize l[k] = x at q1 q2 q3 HT
      obtain ⟨xk, xt, xd⟩ := x
      simp only at q1 q2 q3
      generalize itemsOf (l.take k) = out at HO HT hbd
      by_cases h6 : xk = 6
      · subst h6
        have HX := Lib.hid (itemOf_text ⟨6, xt, xd⟩ (by show (6 : Int) ≤ 6; omega) (by show (6 : Int) ≤ 9; omega))
        go_wp2_with (at_builtin; go_must (refine wpList_app1 rfl (.tmp 19) (.tmp 23) 22 27 rfl Try.underlying22 _ 3 32 item_info rfl (by decide) w.heap.size _ out.length (out.flatMap tkC) rfl (by exact World.ownsRow.alloc (World.ownsRow.alloc HO.out _) _) ⟨wr.heap.size + 1, 0, none⟩ 1 (tkC ⟨1, xt, 0⟩) rfl rfl (by exact cells_at _ _ (by simp) _ _) (tkC_one _) (by omega) (by decide) (by simp; omega) ?_); intro g cap w1 hown1 hg1 hbel1 hgr1)
        refine ⟨⟨k + 1, by omega, by go_num, ?_, hbel1 _ _ (Nat.le_refl _) (by exact (hb.alloc hsize _).alloc (by simp; omega) _)⟩, by simp [intOf]; try omega⟩
        rw [HT.out, HX.out]
        exact OwnE.snoc hown1
      by_cases h7 : xk = 7
      · subst h7
        have HX := Lib.hid (itemOf_text ⟨7, xt, xd⟩ (by show (6 : Int) ≤ 7; omega) (by show (7 : Int) ≤ 9; omega))
        go_wp2_with (at_builtin; go_must (refine wpList_app1 rfl (.tmp 19) (.tmp 23) 22 27 rfl Try.underlying22 _ 3 32 item_info rfl (by decide) w.heap.size _ out.length (out.flatMap tkC) rfl (by exact World.ownsRow.alloc (World.ownsRow.alloc HO.out _) _) ⟨wr.heap.size + 1, 0, none⟩ 1 (tkC ⟨1, xt, 0⟩) rfl rfl (by exact cells_at _ _ (by simp) _ _) (tkC_one _) (by omega) (by decide) (by simp; omega) ?_); intro g cap w1 hown1 hg1 hbel1 hgr1)
        refine ⟨⟨k + 1, by omega, by go_num, ?_, hbel1 _ _ (Nat.le_refl _) (by exact (hb.alloc hsize _).alloc (by simp; omega) _)⟩, by simp [intOf]; try omega⟩
        rw [HT.out, HX.out]
        exact OwnE.snoc hown1
      by_cases h8 : xk = 8
      · subst h8
        have HX := Lib.hid (itemOf_text ⟨8, xt, xd⟩ (by show (6 : Int) ≤ 8; omega) (by show (8 : Int) ≤ 9; omega))
        go_wp2_with (at_builtin; go_must (refine wpList_app1 rfl (.tmp 19) (.tmp 23) 22 27 rfl Try.underlying22 _ 3 32 item_info rfl (by decide) w.heap.size _ out.length (out.flatMap tkC) rfl (by exact World.ownsRow.alloc (World.ownsRow.alloc HO.out _) _) ⟨wr.heap.size + 1, 0, none⟩ 1 (tkC ⟨1, xt, 0⟩) rfl rfl (by exact cells_at _ _ (by simp) _ _) (tkC_one _) (by omega) (by decide) (by simp; omega) ?_); intro g cap w1 hown1 hg1 hbel1 hgr1)
        refine ⟨⟨k + 1, by omega, by go_num, ?_, hbel1 _ _ (Nat.le_refl _) (by exact (hb.alloc hsize _).alloc (by simp; omega) _)⟩, by simp [intOf]; try omega⟩
        rw [HT.out, HX.out]
        exact OwnE.snoc hown1
      by_cases h9 : xk = 9
      · subst h9
        have HX := Lib.hid (itemOf_text ⟨9, xt, xd⟩ (by show (6 : Int) ≤ 9; omega) (by show (9 : Int) ≤ 9; omega))
        go_wp2_with (at_builtin; go_must (refine wpList_app1 rfl (.tmp 19) (.tmp 23) 22 27 rfl Try.underlying22 _ 3 32 item_info rfl (by decide) w.heap.size _ out.length (out.flatMap tkC) rfl (by exact World.ownsRow.alloc (World.ownsRow.alloc HO.out _) _) ⟨wr.heap.size + 1, 0, none⟩ 1 (tkC ⟨1, xt, 0⟩) rfl rfl (by exact cells_at _ _ (by simp) _ _) (tkC_one _) (by omega) (by decide) (by simp; omega) ?_); intro g cap w1 hown1 hg1 hbel1 hgr1)
        refine ⟨⟨k + 1, by omega, by go_num, ?_, hbel1 _ _ (Nat.le_refl _) (by exact (hb.alloc hsize _).alloc (by simp; omega) _)⟩, by simp [intOf]; try omega⟩
        rw [HT.out, HX.out]
        exact OwnE.snoc hown1
      by_cases h2 : xk = 2
      · subst h2
        have HX := Lib.hid (itemOf_item ⟨2, xt, xd⟩ (by show (2 : Int) ≤ 2; omega) (by show (2 : Int) ≤ 5; omega))
        go_wp2_with (at_builtin; go_must (refine wpList_app1 rfl (.tmp 30) (.tmp 38) 22 27 rfl Try.underlying22 _ 3 32 item_info rfl (by decide) w.heap.size _ out.length (out.flatMap tkC) rfl (by exact World.ownsRow.alloc (World.ownsRow.alloc HO.out _) _) ⟨wr.heap.size + 1, 0, none⟩ 1 (tkC ⟨2, xt, xd⟩) rfl rfl (by exact cells_at _ _ (by simp) _ _) (tkC_one _) (by omega) (by decide) (by simp; omega) ?_); intro g cap w1 hown1 hg1 hbel1 hgr1)
        refine ⟨⟨k + 1, by omega, by go_num, ?_, hbel1 _ _ (Nat.le_refl _) (by exact (hb.alloc hsize _).alloc (by simp; omega) _)⟩, by simp [intOf]; try omega⟩
        rw [HT.out, HX.out]
        exact OwnE.snoc hown1
      by_cases h3 : xk = 3
      · subst h3
        have HX := Lib.hid (itemOf_item ⟨3, xt, xd⟩ (by show (2 : Int) ≤ 3; omega) (by show (3 : Int) ≤ 5; omega))
        go_wp2_with (at_builtin; go_must (refine wpList_app1 rfl (.tmp 30) (.tmp 38) 22 27 rfl Try.underlying22 _ 3 32 item_info rfl (by decide) w.heap.size _ out.length (out.flatMap tkC) rfl (by exact World.ownsRow.alloc (World.ownsRow.alloc HO.out _) _) ⟨wr.heap.size + 1, 0, none⟩ 1 (tkC ⟨3, xt, xd⟩) rfl rfl (by exact cells_at _ _ (by simp) _ _) (tkC_one _) (by omega) (by decide) (by simp; omega) ?_); intro g cap w1 hown1 hg1 hbel1 hgr1)
        refine ⟨⟨k + 1, by omega, by go_num, ?_, hbel1 _ _ (Nat.le_refl _) (by exact (hb.alloc hsize _).alloc (by simp; omega) _)⟩, by simp [intOf]; try omega⟩
        rw [HT.out, HX.out]
        exact OwnE.snoc hown1
      by_cases h4 : xk = 4
      · subst h4
        have HX := Lib.hid (itemOf_item ⟨4, xt, xd⟩ (by show (2 : Int) ≤ 4; omega) (by show (4 : Int) ≤ 5; omega))
        go_wp2_with (at_builtin; go_must (refine wpList_app1 rfl (.tmp 30) (.tmp 38) 22 27 rfl Try.underlying22 _ 3 32 item_info rfl (by decide) w.heap.size _ out.length (out.flatMap tkC) rfl (by exact World.ownsRow.alloc (World.ownsRow.alloc HO.out _) _) ⟨wr.heap.size + 1, 0, none⟩ 1 (tkC ⟨4, xt, xd⟩) rfl rfl (by exact cells_at _ _ (by simp) _ _) (tkC_one _) (by omega) (by decide) (by simp; omega) ?_); intro g cap w1 hown1 hg1 hbel1 hgr1)
        refine ⟨⟨k + 1, by omega, by go_num, ?_, hbel1 _ _ (Nat.le_refl _) (by exact (hb.alloc hsize _).alloc (by simp; omega) _)⟩, by simp [intOf]; try omega⟩
        rw [HT.out, HX.out]
        exact OwnE.snoc hown1
      by_cases h5 : xk = 5
      · subst h5
        have HX := Lib.hid (itemOf_item ⟨5, xt, xd⟩ (by show (2 : Int) ≤ 5; omega) (by show (5 : Int) ≤ 5; omega))
        go_wp2_with (at_builtin; go_must (refine wpList_app1 rfl (.tmp 30) (.tmp 38) 22 27 rfl Try.underlying22 _ 3 32 item_info rfl (by decide) w.heap.size _ out.length (out.flatMap tkC) rfl (by exact World.ownsRow.alloc (World.ownsRow.alloc HO.out _) _) ⟨wr.heap.size + 1, 0, none⟩ 1 (tkC ⟨5, xt, xd⟩) rfl rfl (by exact cells_at _ _ (by simp) _ _) (tkC_one _) (by omega) (by decide) (by simp; omega) ?_); intro g cap w1 hown1 hg1 hbel1 hgr1)
        refine ⟨⟨k + 1, by omega, by go_num, ?_, hbel1 _ _ (Nat.le_refl _) (by exact (hb.alloc hsize _).alloc (by simp; omega) _)⟩, by simp [intOf]; try omega⟩
        rw [HT.out, HX.out]
        exact OwnE.snoc hown1
      have HX := Lib.hid (itemOf_none ⟨xk, xt, xd⟩ (by show ¬ (2 ≤ xk ∧ xk ≤ 9); omega))
      have t2 : (xk == 2) = false := by simpa using h2
      have t3 : (xk == 3) = false := by simpa using h3
      have t4 : (xk == 4) = false := by simpa using h4
      have t5 : (xk == 5) = false := by simpa using h5
      have t6 : (xk == 6) = false := by simpa using h6
      have t7 : (xk == 7) = false := by simpa using h7
      have t8 : (xk == 8) = false := by simpa using h8
      have t9 : (xk == 9) = false := by simpa using h9
      clear h2 h3 h4 h5 h6 h7 h8 h9
      go_wp2_with fail
      refine ⟨⟨k + 1, by omega, by go_num, ?_, hb.alloc hsize _⟩, by simp [intOf]; try omega⟩
      rw [HT.out, HX.out, List.append_nil]
      exact World.ownsRow.alloc HO.out _
    · obtain rfl : k = l.length := by omega
      have he := HO.out
      rw [List.take_length] at he
      have HE := Lib.hid (OwnE.rd tkC_three he)
      have hn := itemsOf_length l
      rw [List.take_length]
      clear he HO
      go_wp2_with fail
      refine (rnorm_any (itemsOf l) _ _ (by exact HE.out) (by omega) (by omega)).mono ?_
      rintro e w1 ⟨v1, rfl, hown1, hb1⟩
      have HO1 := Lib.hid (own_base hown1 hsize)
      have HB1 := Lib.hid (hb.trans (hb1.mono hsize))
      clear hown1 hb1
      go_wp2_with fail
      go_ret
      exact ⟨v1, rfl, HO1.out, HB1.out⟩

end Go.Proofs.Ytfkjlaepknhicaa
