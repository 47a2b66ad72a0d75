
/-
  Contracts of package bitextmake: Line.
-/
import Derived.Test.YteccphcophjhpaaMakeB
namespace Go.Proofs.Yteccphcophjhpaa
open Go.RowKit

set_option maxHeartbeats 1000000 in
theorem line_any' (L : List Int) (g N : Nat) (n : Int) (w : World) (h : Nums w g L N) (hN : N ≤ 100000000) (hn : 0 ≤ n) (hn2 : n ≤ 1000) :
    Calls Try.prog 47 #[.pointer (some ⟨g, 0, none⟩), .int .i64 n] w (NumRet g L (lineL L N n).2 (.string (lineL L N n).1) w) := by
  have HT : Hid (lineGo L (nextN L N (n + 1)).toNat ⟨#[]⟩ (N + 1) = lineL L N n) := by show lineGo L (nextN L N (n + 1)).toNat ⟨#[]⟩ (N + 1) = lineL L N n; rfl
  have hb := nextN_bd L N (n + 1) (by omega)
  have HNX := Lib.hid (next_any' L g N (n + 1) w h (by omega) (by omega) (by omega))
  generalize nextN L N (n + 1) = z at HT hb HNX
  generalize lineL L N n = tgt at HT
  obtain ⟨m, rfl⟩ : ∃ m : Nat, z = (m : Int) := ⟨z.toNat, by omega⟩
  rw [Int.toNat_natCast] at HT
  clear h
  go_enter Try.func47, Try.ntmps47
  go_wp2_with fail
  refine (HNX.out).mono ?_
  rintro e w1 ⟨rfl, hb1, hn1⟩
  have HB1 := Lib.hid hb1
  have HN1 := Lib.hid hn1
  clear hb1 hn1
  go_wp2_with fail
  go_loopw [5, 6] (fun ov iv wr => ∃ (out : ByteArray) (i N' : Nat), ov = .string out ∧ iv = .int .i64 i ∧ i ≤ m ∧ N' + 2 * i ≤ N + 1 + 2 * m ∧ out.size + 6 * i ≤ 6 * m ∧ Hid (But g w wr) ∧ Hid (Nums wr g L N') ∧ Hid (lineGo L i out N' = tgt)) (fun _ iv _ => (intOf iv).toNat)
  case atStart => exact ⟨⟨#[]⟩, m, N + 1, rfl, rfl, Nat.le_refl _, Nat.le_refl _, by show 0 + 6 * m ≤ _; omega, HB1.out, HN1.out, HT.out⟩
  case round =>
    obtain ⟨out, i, N', rfl, rfl, him, hN', hos, HB, HN, HG⟩ := hrel
    cases i with
    | zero =>
      have he := HG.out
      rw [lineGo] at he
      subst he
      go_wp2_with fail
      go_ret
      exact ⟨rfl, HB.out, HN.out⟩
    | succ i =>
      have hw : (mkWord L N').size ≤ 5 := words_size _
      by_cases ho : 0 < out.size
      · have h3 := nextN_bd L (N' + 1) 3 (by omega)
        have hne : (out.toList == []) = false := by
          rw [beq_eq_false_iff_ne, toList_eq_data]
          intro h
          have := Lib.size_eq out
          rw [h] at this
          simp only [List.length_nil] at this
          omega
        have hne2 : out.toList.isEmpty = false := by
          rw [List.isEmpty_eq_false_iff]
          simpa using hne
        have hsz1 : (out ++ ⟨#[32]⟩ ++ mkWord L N').size ≤ out.size + 6 := by
          rw [ByteArray.size_append, ByteArray.size_append]
          show out.size + 1 + (mkWord L N').size ≤ _
          omega
        have hsz2 : (out ++ mkWord L N').size ≤ out.size + 6 := by
          rw [ByteArray.size_append]
          omega
        have HWD := Lib.hid (word_any' L g N' wr HN.out (by omega))
        by_cases hz : 0 < nextN L (N' + 1) 3
        · have hG2 : Hid (lineGo L i (out ++ ⟨#[32]⟩ ++ mkWord L N') (N' + 2) = tgt) := by
            have := HG.out
            rw [lineGo, if_pos ho, if_pos hz] at this
            exact this
          generalize mkWord L N' = wd at hw hsz1 hsz2 HWD hG2
          have HNX3 := fun w h => next_any' L g (N' + 1) 3 w h (by omega) (by omega) (by omega)
          have HX3 := Lib.hid HNX3
          generalize nextN L (N' + 1) 3 = z3 at h3 hz HX3 HNX3
          clear HNX3
          go_wp2_with fail
          refine (HWD.out).mono ?_
          rintro e w2 ⟨rfl, hb2, hn2'⟩
          have HB2 := Lib.hid (HB.out.trans hb2)
          have HN2 := Lib.hid hn2'
          clear hb2 hn2'
          go_wp2_with fail
          refine (HX3.out w2 HN2.out).mono ?_
          rintro e w3 ⟨rfl, hb3, hn3⟩
          have HB3 := Lib.hid (HB2.out.trans hb3)
          have HN3 := Lib.hid hn3
          clear hb3 hn3
          go_wp2_with fail
          exact ⟨⟨_, i, N' + 2, rfl, by go_num, by omega, by omega, by omega, HB3.out, HN3.out, hG2.out⟩, by simp [intOf]; try omega⟩
        · have hG2 : Hid (lineGo L i (out ++ mkWord L N') (N' + 2) = tgt) := by
            have := HG.out
            rw [lineGo, if_pos ho, if_neg hz] at this
            exact this
          generalize mkWord L N' = wd at hw hsz1 hsz2 HWD hG2
          have HNX3 := fun w h => next_any' L g (N' + 1) 3 w h (by omega) (by omega) (by omega)
          have HX3 := Lib.hid HNX3
          generalize nextN L (N' + 1) 3 = z3 at h3 hz HX3 HNX3
          clear HNX3
          go_wp2_with fail
          refine (HWD.out).mono ?_
          rintro e w2 ⟨rfl, hb2, hn2'⟩
          have HB2 := Lib.hid (HB.out.trans hb2)
          have HN2 := Lib.hid hn2'
          clear hb2 hn2'
          go_wp2_with fail
          refine (HX3.out w2 HN2.out).mono ?_
          rintro e w3 ⟨rfl, hb3, hn3⟩
          have HB3 := Lib.hid (HB2.out.trans hb3)
          have HN3 := Lib.hid hn3
          clear hb3 hn3
          go_wp2_with fail
          exact ⟨⟨_, i, N' + 2, rfl, by go_num, by omega, by omega, by omega, HB3.out, HN3.out, hG2.out⟩, by simp [intOf]; try omega⟩
      · have hz : out.data.toList = [] := List.eq_nil_of_length_eq_zero (by rw [← Lib.size_eq]; omega)
        have hre : out = ⟨#[]⟩ := bytes_ext hz
        subst hre
        have hG2 : Hid (lineGo L i (⟨#[]⟩ ++ mkWord L N') (N' + 1) = tgt) := by
          have := HG.out
          rw [lineGo, if_neg ho] at this
          exact this
        have hsz2 : ((⟨#[]⟩ : ByteArray) ++ mkWord L N').size ≤ 6 := by
          rw [ByteArray.size_append]
          show 0 + _ ≤ 6
          omega
        have HWD := Lib.hid (word_any' L g N' wr HN.out (by omega))
        have hos' : 6 * (i + 1) ≤ 6 * m := by have : (ByteArray.mk #[]).size = 0 := rfl; omega
        generalize mkWord L N' = wd at hw hsz2 HWD hG2
        go_wp2_with fail
        refine (HWD.out).mono ?_
        rintro e w2 ⟨rfl, hb2, hn2'⟩
        have HB2 := Lib.hid (HB.out.trans hb2)
        have HN2 := Lib.hid hn2'
        clear hb2 hn2'
        go_wp2_with fail
        exact ⟨⟨_, i, N' + 1, rfl, by go_num, by omega, by omega, by omega, HB2.out, HN2.out, hG2.out⟩, by simp [intOf]; try omega⟩

end Go.Proofs.Yteccphcophjhpaa
