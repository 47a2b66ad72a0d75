
/-
  Contracts of package token (chapter 11): Tokens.
-/
import Derived.Test.YtfkjlaepknhicaaTokG
namespace Go.Proofs.Ytfkjlaepknhicaa
open Go.RowKit

set_option maxHeartbeats 2000000 in
theorem tokens_any (f : List Tk) (v : Value) (w : World) (hf : RdT w v f) (hl : f.length ≤ 100000) (hbt : bytesOf f ≤ 100000) :
    Calls Try.prog 13 #[v] w (RetOwn 33 tkC 3 w (tokensL f)) := by
  obtain ⟨A, c, rfl, _, _⟩ := hf.shape
  have HF := Lib.hid hf
  clear hf
  go_enter Try.func13, Try.ntmps13
  go_wp2
  go_loopw [3, 11] (fun ov i wr => ∃ k : Nat, k ≤ f.length ∧ i = .int .i64 k ∧ Hid (OwnT 33 wr w.heap.size ov (tokensL (f.take k))) ∧ Below w.heap.size w wr) (fun _ i _ => f.length - (intOf i).toNat)
  case atStart => exact ⟨0, by omega, rfl, OwnE.nil, Below.refl _ _⟩
  case round =>
    obtain ⟨k, hk, rfl, HO, hb⟩ := hrel
    have hsize := hb.size
    obtain ⟨A', c', hv⟩ := own_shape HO.out
    subst hv
    by_cases hkl : k < f.length
    · obtain ⟨b, o, rfl, hbl, q1, q2, q3⟩ := RdT.at_ HF.out k hkl
      rw [← hb.cell (p := ⟨b, o + k * 3, none⟩) hbl] at q1
      rw [← hb.cell (p := ⟨b, o + k * 3 + 1, none⟩) hbl] at q2
      rw [← hb.cell (p := ⟨b, o + k * 3 + 2, none⟩) hbl] at q3
      have hbd := tokens_bound f k hkl
      have HT := Lib.hid (tokensL_take f k hkl)
      have hszk := bytesOf_get f k hkl
      generalize f[k] = x at q1 q2 q3 hbd HT hszk
      obtain ⟨xk, xt, xd⟩ := x
      simp only at q1 q2 q3 hbd hszk
      generalize tokensL (f.take k) = out at HO HT hbd
      by_cases h1 : xk = 1
      · have HX := Lib.hid (tok1_text ⟨xk, xt, xd⟩ h1)
        subst h1
        go_wp2_with fail
        obtain ⟨wo, hwo⟩ : ∃ wo : World, wo = wr := ⟨_, rfl⟩
        subst hwo
        go_loopw [3, 6] (fun ov sv wi => ∃ (r : ByteArray) (acc : List Tk), sv = .string r ∧ Hid (OwnT 33 wi w.heap.size ov acc) ∧ Below w.heap.size w wi ∧ acc.length + r.size ≤ 200000 ∧ r.size ≤ 100000 ∧
          Hid (out ++ (cutL xt.data.toList).map tkOf = acc ++ (cutL r.data.toList).map tkOf)) (fun _ sv _ => strLen sv)
        case atStart => exact ⟨xt, out, rfl, World.ownsRow.alloc HO.out _, hb.alloc hsize _, by omega, by omega, rfl⟩
        case round =>
          obtain ⟨r, acc, rfl, HP, hbi, hle, hle2, HR⟩ := hrel
          have hsi := hbi.size
          obtain ⟨A2, c2, hv2⟩ := own_shape HP.out
          subst hv2
          by_cases hr : 0 < r.size
          · have hne : (r.toList == []) = false := by
              rw [beq_eq_false_iff_ne, toList_eq_data]
              intro he
              have := Lib.size_eq r
              rw [he] at this
              simp only [List.length_nil] at this
              omega
            have hne2 : r.toList.isEmpty = false := by
              rw [List.isEmpty_eq_false_iff]
              simpa using hne
            have hnx := fun w => next_any r w hle2 hr
            obtain ⟨kk, nn, hn⟩ : ∃ kk nn, nextL r.data.toList = (kk, nn) := ⟨_, _, rfl⟩
            rw [hn] at hnx
            obtain ⟨n1, n2⟩ := next_bounds r hr _ _ hn
            have HS := Lib.hid (cut_step r hr _ _ hn)
            have HZ := Lib.hid (size_rest r nn n2)
            have HN := Lib.hid hnx
            clear hn hnx
            go_wp2_with (first
              | (go_at_call 32; refine (HN.out _).mono ?_; rintro e w1 ⟨rfl, nd, rfl⟩)
              | (at_builtin; go_must (refine wpList_app1 rfl (.tmp 37) (.tmp 43) 29 33 rfl Try.underlying29 _ 3 32 tok_info rfl (by decide) w.heap.size _ _ _ rfl (by exact World.ownsRow.alloc (show (wr.drewN nd).ownsRow _ _ _ _ _ _ from HP.out) _) ⟨wr.heap.size, 0, none⟩ 1 (tkC ⟨kk, r.extract 0 nn, 0⟩) rfl rfl (by exact cells_new _ _ _) (tkC_one _) (by omega) (by decide) (by simp; omega) ?_); intro g cap w2 hown2 hg2 hbel2 hgr2))
            refine ⟨⟨r.extract nn r.size, acc ++ [⟨kk, r.extract 0 nn, 0⟩], rfl, OwnE.snoc hown2, hbel2 _ _ (Nat.le_refl _) (by exact (below_drewN hbi nd).alloc (by exact hsi) _), by rw [HZ.out]; simp; omega, by rw [HZ.out]; omega, ?_⟩, by show (r.extract nn r.size).size < r.size; rw [HZ.out]; omega⟩
            exact HR.out.trans (by rw [HS.out, List.append_assoc]; rfl)
          · have hz : r.data.toList = [] := List.eq_nil_of_length_eq_zero (by rw [← Lib.size_eq]; omega)
            have hre : r = ⟨#[]⟩ := bytes_ext hz
            subst hre
            go_wp2_with fail
            refine ⟨⟨k + 1, by omega, by go_num, ?_, hbi⟩, by simp [intOf]; try omega⟩
            have he := HR.out
            rw [hz, cutL_nil, List.map_nil, List.append_nil] at he
            rw [HT.out, HX.out, he]
            exact HP.out
      by_cases h2 : xk = 2
      · subst h2
        have HX := Lib.hid (tok1_item ⟨2, xt, xd⟩ (by show (2 : Int) ≤ 2; omega) (by show (2 : Int) ≤ 5; omega))
        go_wp2_with (at_builtin; go_must (refine wpList_app1 rfl (.tmp 22) (.tmp 24) 29 33 rfl Try.underlying29 _ 3 32 tok_info rfl (by decide) w.heap.size _ out.length (out.flatMap tkC) rfl (by exact World.ownsRow.alloc (World.ownsRow.alloc HO.out _) _) ⟨wr.heap.size + 1, 0, none⟩ 1 (tkC ⟨2, xt, xd⟩) rfl rfl (by exact cells_at _ _ (by simp) _ _) (tkC_one _) (by omega) (by decide) (by simp; omega) ?_); intro g cap w1 hown1 hg1 hbel1 hgr1)
        refine ⟨⟨k + 1, by omega, by go_num, ?_, hbel1 _ _ (Nat.le_refl _) (by exact (hb.alloc hsize _).alloc (by simp; omega) _)⟩, by simp [intOf]; try omega⟩
        rw [HT.out, HX.out]
        exact OwnE.snoc hown1
      by_cases h3 : xk = 3
      · subst h3
        have HX := Lib.hid (tok1_item ⟨3, xt, xd⟩ (by show (2 : Int) ≤ 3; omega) (by show (3 : Int) ≤ 5; omega))
        go_wp2_with (at_builtin; go_must (refine wpList_app1 rfl (.tmp 22) (.tmp 24) 29 33 rfl Try.underlying29 _ 3 32 tok_info rfl (by decide) w.heap.size _ out.length (out.flatMap tkC) rfl (by exact World.ownsRow.alloc (World.ownsRow.alloc HO.out _) _) ⟨wr.heap.size + 1, 0, none⟩ 1 (tkC ⟨3, xt, xd⟩) rfl rfl (by exact cells_at _ _ (by simp) _ _) (tkC_one _) (by omega) (by decide) (by simp; omega) ?_); intro g cap w1 hown1 hg1 hbel1 hgr1)
        refine ⟨⟨k + 1, by omega, by go_num, ?_, hbel1 _ _ (Nat.le_refl _) (by exact (hb.alloc hsize _).alloc (by simp; omega) _)⟩, by simp [intOf]; try omega⟩
        rw [HT.out, HX.out]
        exact OwnE.snoc hown1
      by_cases h4 : xk = 4
      · subst h4
        have HX := Lib.hid (tok1_item ⟨4, xt, xd⟩ (by show (2 : Int) ≤ 4; omega) (by show (4 : Int) ≤ 5; omega))
        go_wp2_with (at_builtin; go_must (refine wpList_app1 rfl (.tmp 22) (.tmp 24) 29 33 rfl Try.underlying29 _ 3 32 tok_info rfl (by decide) w.heap.size _ out.length (out.flatMap tkC) rfl (by exact World.ownsRow.alloc (World.ownsRow.alloc HO.out _) _) ⟨wr.heap.size + 1, 0, none⟩ 1 (tkC ⟨4, xt, xd⟩) rfl rfl (by exact cells_at _ _ (by simp) _ _) (tkC_one _) (by omega) (by decide) (by simp; omega) ?_); intro g cap w1 hown1 hg1 hbel1 hgr1)
        refine ⟨⟨k + 1, by omega, by go_num, ?_, hbel1 _ _ (Nat.le_refl _) (by exact (hb.alloc hsize _).alloc (by simp; omega) _)⟩, by simp [intOf]; try omega⟩
        rw [HT.out, HX.out]
        exact OwnE.snoc hown1
      by_cases h5 : xk = 5
      · subst h5
        have HX := Lib.hid (tok1_item ⟨5, xt, xd⟩ (by show (2 : Int) ≤ 5; omega) (by show (5 : Int) ≤ 5; omega))
        go_wp2_with (at_builtin; go_must (refine wpList_app1 rfl (.tmp 22) (.tmp 24) 29 33 rfl Try.underlying29 _ 3 32 tok_info rfl (by decide) w.heap.size _ out.length (out.flatMap tkC) rfl (by exact World.ownsRow.alloc (World.ownsRow.alloc HO.out _) _) ⟨wr.heap.size + 1, 0, none⟩ 1 (tkC ⟨5, xt, xd⟩) rfl rfl (by exact cells_at _ _ (by simp) _ _) (tkC_one _) (by omega) (by decide) (by simp; omega) ?_); intro g cap w1 hown1 hg1 hbel1 hgr1)
        refine ⟨⟨k + 1, by omega, by go_num, ?_, hbel1 _ _ (Nat.le_refl _) (by exact (hb.alloc hsize _).alloc (by simp; omega) _)⟩, by simp [intOf]; try omega⟩
        rw [HT.out, HX.out]
        exact OwnE.snoc hown1
      have HX := Lib.hid (tok1_none ⟨xk, xt, xd⟩ h1 (by show ¬ (2 ≤ xk ∧ xk ≤ 5); omega))
      have t1 : (xk == 1) = false := by simpa using h1
      have t2 : (xk == 2) = false := by simpa using h2
      have t3 : (xk == 3) = false := by simpa using h3
      have t4 : (xk == 4) = false := by simpa using h4
      have t5 : (xk == 5) = false := by simpa using h5
      clear h1 h2 h3 h4 h5
      go_wp2_with fail
      refine ⟨⟨k + 1, by omega, by go_num, ?_, hb.alloc hsize _⟩, by simp [intOf]; try omega⟩
      rw [HT.out, HX.out, List.append_nil]
      exact World.ownsRow.alloc HO.out _
    · obtain rfl : k = f.length := by omega
      go_wp2_with fail
      go_ret
      refine ⟨_, rfl, ?_, hb⟩
      have he := HO.out
      rw [List.take_length] at he ⊢
      exact he

end Go.Proofs.Ytfkjlaepknhicaa
