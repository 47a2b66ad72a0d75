
/-
  Contracts of the reference of package token (chapter 11): Cut.
-/
import Derived.Test.YteccphcophjhpaaTok
import Derived.Test.YteccphcophjhpaaTokC
import Derived.Test.YteccphcophjhpaaTokD
import Derived.Test.YteccphcophjhpaaTokE
namespace Go.Proofs.Yteccphcophjhpaa
open Go.RowKit

/-- The three readers of the reference at one text, and what they say of the next token. -/
theorem readers (s : ByteArray) (h : 0 < s.size) : ∃ a b c : Nat, wordN s.data.toList = a ∧ numN s.data.toList = b ∧ (s.data.toList.takeWhile spB).length = c ∧
    ((0 < a ∧ b = 0 ∧ c = 0 ∧ nextL s.data.toList = (6, a)) ∨ (a = 0 ∧ 0 < b ∧ c = 0 ∧ nextL s.data.toList = (7, b)) ∨ (a = 0 ∧ b = 0 ∧ 0 < c ∧ nextL s.data.toList = (8, c)) ∨ (a = 0 ∧ b = 0 ∧ c = 0 ∧ nextL s.data.toList = (9, 1))) := by
  have htw : ¬ clsN (s[0].toNat : Int) = 2 → (s.data.toList.takeWhile spB).length = 0 := fun h2 => by
    have := tw_out s 0 h (by simpa [spB] using h2)
    rwa [List.drop_zero] at this
  refine ⟨_, _, _, rfl, rfl, rfl, ?_⟩
  by_cases h4 : clsN (s[0].toNat : Int) = 4
  · refine .inl ⟨by rw [wordN_pos s h h4]; omega, numN_neg s h (by omega), htw (by omega), ?_⟩
    rw [nextL_word s h h4, wordN_pos s h h4]
  by_cases h3 : clsN (s[0].toNat : Int) = 3
  · refine .inr (.inl ⟨wordN_neg s h h4, by rw [numN_pos s h h3]; omega, htw (by omega), ?_⟩)
    rw [nextL_num s h h3, numN_pos s h h3]
  by_cases h2 : clsN (s[0].toNat : Int) = 2
  · have ht := tw_in s 0 h (by simpa [spB] using h2)
    rw [List.drop_zero, Nat.zero_add] at ht
    refine .inr (.inr (.inl ⟨wordN_neg s h h4, numN_neg s h h3, by rw [ht]; omega, ?_⟩))
    rw [nextL_sp s h h2, ht]
    congr 1
    omega
  · exact .inr (.inr (.inr ⟨wordN_neg s h h4, numN_neg s h h3, htw h2, nextL_sign s h h4 h3 h2⟩))

/-- One step of the cut. -/
theorem cut_step (r : ByteArray) (h : 0 < r.size) (k : Int) (n : Nat) (hn : nextL r.data.toList = (k, n)) :
    (cutL r.data.toList).map tkOf = (⟨k, r.extract 0 n, 0⟩ : Tk) :: (cutL (r.extract n r.size).data.toList).map tkOf := by
  have hne : r.data.toList ≠ [] := by
    intro he
    have := Lib.size_eq r
    rw [he] at this
    simp only [List.length_nil] at this
    omega
  rw [cutL_cons _ hne, hn, List.map_cons, Lib.extract_data]
  have e1 : (r.data.toList.drop n).take (r.size - n) = r.data.toList.drop n := List.take_of_length_le (by rw [List.length_drop, ← Lib.size_eq]; exact Nat.le_refl _)
  rw [e1]
  congr 1
  simp only [tkOf, Tk.mk.injEq, true_and, and_true]
  rw [Lib.extract_eq, List.drop_zero, Nat.sub_zero]
theorem next_bounds (r : ByteArray) (h : 0 < r.size) (k : Int) (n : Nat) (hn : nextL r.data.toList = (k, n)) : 1 ≤ n ∧ n ≤ r.size := by
  have hne : r.data.toList ≠ [] := by
    intro he
    have := Lib.size_eq r
    rw [he] at this
    simp only [List.length_nil] at this
    omega
  have h1 := nextL_pos r.data.toList
  have h2 := nextL_le r.data.toList hne
  rw [hn] at h1 h2
  rw [Lib.size_eq]
  exact ⟨h1, h2⟩
theorem size_rest (r : ByteArray) (n : Nat) (_ : n ≤ r.size) : (r.extract n r.size).size = r.size - n := by simp

set_option maxHeartbeats 2000000 in
theorem cut_any (s : ByteArray) (w : World) (hs : s.size ≤ 100000) :
    Calls Try.prog 46 #[.string s] w (RetOwn 23 tkC 3 w ((cutL s.data.toList).map tkOf)) := by
  go_enter Try.func46, Try.ntmps46
  go_wp2
  go_loopw [0, 3] (fun sv v wr => ∃ (r : ByteArray) (out : List Tk), sv = .string r ∧ Hid (OwnT 23 wr w.heap.size v out) ∧ Below w.heap.size w wr ∧ out.length + r.size ≤ 100000 ∧
      Hid ((cutL s.data.toList).map tkOf = out ++ (cutL r.data.toList).map tkOf)) (fun sv _ _ => strLen sv)
  case atStart => exact ⟨s, [], rfl, OwnE.nil, Below.refl _ _, by simpa using hs, rfl⟩
  case round =>
    obtain ⟨r, out, rfl, HO, hb, hle, HR⟩ := hrel
    have hsize := hb.size
    obtain ⟨A, c, hv⟩ := own_shape HO.out
    subst hv
    by_cases hr : 0 < r.size
    · obtain ⟨a, b, c, ha, hbb, hc, hcase⟩ := readers r hr
      have c1 := fun w => word_any r w (by omega)
      have c2 := fun w => number_any r w (by omega)
      have c3 := fun w => blank_any r w (by omega)
      rw [ha] at c1
      rw [hbb] at c2
      rw [hc] at c3
      have C1 := Lib.hid c1
      have C2 := Lib.hid c2
      have C3 := Lib.hid c3
      clear ha hbb hc c1 c2 c3
      rcases hcase with ⟨h1, rfl, rfl, hn⟩ | ⟨rfl, h1, rfl, hn⟩ | ⟨rfl, rfl, h1, hn⟩ | ⟨rfl, rfl, rfl, hn⟩
      · obtain ⟨n1, n2⟩ := next_bounds r hr _ _ hn
        have HS := Lib.hid (cut_step r hr _ _ hn)
        have hsz := size_rest r a n2
        have HZ := Lib.hid hsz
        clear hn hsz
        go_wp2_with (first
          | (go_at_call 53; refine (C1.out _).mono ?_; rintro e w' ⟨rfl, rfl⟩)
          | (go_at_call 54; refine (C2.out _).mono ?_; rintro e w' ⟨rfl, rfl⟩)
          | (go_at_call 55; refine (C3.out _).mono ?_; rintro e w' ⟨rfl, rfl⟩)
          | (at_builtin; go_must (refine wpList_app1 rfl (.tmp 27) (.tmp 33) 26 23 rfl Try.underlying26 _ 3 32 tok_info rfl (by decide) w.heap.size _ _ _ rfl (by exact World.ownsRow.alloc HO.out _) ⟨wr.heap.size, 0, none⟩ 1 (tkC ⟨6, r.extract 0 a, 0⟩) rfl rfl (by exact cells_new _ _ _) (tkC_one _) (by omega) (by decide) (by simp; omega) ?_); intro g cap w1 hown1 hg1 hbel1 hgr1))
        refine ⟨⟨r.extract a r.size, out ++ [⟨6, r.extract 0 a, 0⟩], rfl, OwnE.snoc hown1, hbel1 _ _ (Nat.le_refl _) (by exact hb.alloc hsize _), by rw [HZ.out]; simp; omega, ?_⟩, by show (r.extract a r.size).size < r.size; rw [HZ.out]; omega⟩
        exact HR.out.trans (by rw [HS.out, List.append_assoc]; rfl)
      · obtain ⟨n1, n2⟩ := next_bounds r hr _ _ hn
        have HS := Lib.hid (cut_step r hr _ _ hn)
        have hsz := size_rest r b n2
        have HZ := Lib.hid hsz
        clear hn hsz
        go_wp2_with (first
          | (go_at_call 53; refine (C1.out _).mono ?_; rintro e w' ⟨rfl, rfl⟩)
          | (go_at_call 54; refine (C2.out _).mono ?_; rintro e w' ⟨rfl, rfl⟩)
          | (go_at_call 55; refine (C3.out _).mono ?_; rintro e w' ⟨rfl, rfl⟩)
          | (at_builtin; go_must (refine wpList_app1 rfl (.tmp 27) (.tmp 33) 26 23 rfl Try.underlying26 _ 3 32 tok_info rfl (by decide) w.heap.size _ _ _ rfl (by exact World.ownsRow.alloc HO.out _) ⟨wr.heap.size, 0, none⟩ 1 (tkC ⟨7, r.extract 0 b, 0⟩) rfl rfl (by exact cells_new _ _ _) (tkC_one _) (by omega) (by decide) (by simp; omega) ?_); intro g cap w1 hown1 hg1 hbel1 hgr1))
        refine ⟨⟨r.extract b r.size, out ++ [⟨7, r.extract 0 b, 0⟩], rfl, OwnE.snoc hown1, hbel1 _ _ (Nat.le_refl _) (by exact hb.alloc hsize _), by rw [HZ.out]; simp; omega, ?_⟩, by show (r.extract b r.size).size < r.size; rw [HZ.out]; omega⟩
        exact HR.out.trans (by rw [HS.out, List.append_assoc]; rfl)
      · obtain ⟨n1, n2⟩ := next_bounds r hr _ _ hn
        have HS := Lib.hid (cut_step r hr _ _ hn)
        have hsz := size_rest r c n2
        have HZ := Lib.hid hsz
        clear hn hsz
        go_wp2_with (first
          | (go_at_call 53; refine (C1.out _).mono ?_; rintro e w' ⟨rfl, rfl⟩)
          | (go_at_call 54; refine (C2.out _).mono ?_; rintro e w' ⟨rfl, rfl⟩)
          | (go_at_call 55; refine (C3.out _).mono ?_; rintro e w' ⟨rfl, rfl⟩)
          | (at_builtin; go_must (refine wpList_app1 rfl (.tmp 27) (.tmp 33) 26 23 rfl Try.underlying26 _ 3 32 tok_info rfl (by decide) w.heap.size _ _ _ rfl (by exact World.ownsRow.alloc HO.out _) ⟨wr.heap.size, 0, none⟩ 1 (tkC ⟨8, r.extract 0 c, 0⟩) rfl rfl (by exact cells_new _ _ _) (tkC_one _) (by omega) (by decide) (by simp; omega) ?_); intro g cap w1 hown1 hg1 hbel1 hgr1))
        refine ⟨⟨r.extract c r.size, out ++ [⟨8, r.extract 0 c, 0⟩], rfl, OwnE.snoc hown1, hbel1 _ _ (Nat.le_refl _) (by exact hb.alloc hsize _), by rw [HZ.out]; simp; omega, ?_⟩, by show (r.extract c r.size).size < r.size; rw [HZ.out]; omega⟩
        exact HR.out.trans (by rw [HS.out, List.append_assoc]; rfl)
      · obtain ⟨n1, n2⟩ := next_bounds r hr _ _ hn
        have HS := Lib.hid (cut_step r hr _ _ hn)
        have hsz := size_rest r 1 n2
        have HZ := Lib.hid hsz
        clear hn hsz
        go_wp2_with (first
          | (go_at_call 53; refine (C1.out _).mono ?_; rintro e w' ⟨rfl, rfl⟩)
          | (go_at_call 54; refine (C2.out _).mono ?_; rintro e w' ⟨rfl, rfl⟩)
          | (go_at_call 55; refine (C3.out _).mono ?_; rintro e w' ⟨rfl, rfl⟩)
          | (at_builtin; go_must (refine wpList_app1 rfl (.tmp 27) (.tmp 33) 26 23 rfl Try.underlying26 _ 3 32 tok_info rfl (by decide) w.heap.size _ _ _ rfl (by exact World.ownsRow.alloc HO.out _) ⟨wr.heap.size, 0, none⟩ 1 (tkC ⟨9, r.extract 0 1, 0⟩) rfl rfl (by exact cells_new _ _ _) (tkC_one _) (by omega) (by decide) (by simp; omega) ?_); intro g cap w1 hown1 hg1 hbel1 hgr1))
        refine ⟨⟨r.extract 1 r.size, out ++ [⟨9, r.extract 0 1, 0⟩], rfl, OwnE.snoc hown1, hbel1 _ _ (Nat.le_refl _) (by exact hb.alloc hsize _), by rw [HZ.out]; simp; omega, ?_⟩, by show (r.extract 1 r.size).size < r.size; rw [HZ.out]; omega⟩
        exact HR.out.trans (by rw [HS.out, List.append_assoc]; rfl)
    · have hz : r.data.toList = [] := List.eq_nil_of_length_eq_zero (by rw [← Lib.size_eq]; omega)
      go_wp2_with fail
      go_ret
      refine ⟨_, rfl, ?_, hb⟩
      have he := HR.out
      rw [hz, cutL_nil, List.map_nil, List.append_nil] at he
      rw [he]
      exact HO.out

end Go.Proofs.Yteccphcophjhpaa
