
/-
  Contracts of package class and of its reference (chapter 1).
-/
import Derived.Test.YteccphcophjhpaaChecked
import Derived.Test.YteccphcophjhpaaMath1
import Derived.Test.YteccphcophjhpaaBase
import Derived.WalkKit
import Derived.WalkLawsBesides
import Derived.WalkSpells
import Derived.Deep.QuietTactic
import Derived.BigQuiet
import Derived.KernelRfl
namespace Go.Proofs.Yteccphcophjhpaa
open Go.RowKit

theorem lower_any (s : ByteArray) (w : World) (hs : s.size ≤ maxLen) :
    Calls Try.prog 50 #[.string s] w fun e w' => e = .returned (.string ⟨(lowL s.data.toList).toArray⟩) ∧ Below w.heap.size w w' := by
  unfold maxLen at hs
  have hconv := fun wx => run_bytes_of_string (P := Try.prog) wx 9 76 5 s Try.underlying9 Try.underlying76 Try.underlying5
  go_enter Try.func50, Try.ntmps50
  go_wp2
  clear hconv
  go_loopw [10] (fun i wr => ∃ k : Nat, k ≤ s.size ∧ i = .int .i64 k ∧ RowV wr w.heap.size ((lowK s.data.toList k).map byteV) ∧ Below w.heap.size w wr) (fun i _ => s.size - (intOf i).toNat)
  case atStart =>
    exact ⟨0, Nat.zero_le _, rfl, by rw [lowK_zero]; exact (RowV.bytes_new _ _ _ _).drew, (Below.refl _ _).drew.alloc (Nat.le_refl _) _⟩
  case round =>
    obtain ⟨k, hk, rfl, hrow, hb⟩ := hrel
    by_cases hlt : k < s.size
    · have hl : k < s.data.toList.length := by rw [← Lib.size_eq]; exact hlt
      have hc : wr.cell? ⟨w.heap.size, k, none⟩ = some (.int .u8 (s[k].toNat : Int)) := hrow.cell (by rw [List.getElem?_map, lowK_get _ _ hl]; rfl)
      have hf : wr.frozen? ⟨w.heap.size, k, none⟩ = false := hrow.free (by rw [List.length_map, lowK_length]; exact hl)
      have h255 : s[k].toNat < 256 := s[k].toNat_lt
      have hg : s.data.toList[k] = s[k] := rfl
      go_wp2
      · refine ⟨⟨k + 1, by omega, by go_num, ?_, hb.setCell (Nat.le_refl _) _⟩, by simp [intOf]; try omega⟩
        have h1 : 65 ≤ s[k].toNat := by omega
        have h2 : s[k].toNat ≤ 90 := by omega
        rw [lowK_succ _ _ hl, List.map_set, hg]
        have e : byteV (lowB s[k]) = .int .u8 ((s[k].toNat : Int) + 97 - 65) := by
          unfold byteV
          rw [lowB_nat, if_pos ⟨h1, h2⟩]
          congr 1
          omega
        rw [e]
        exact hrow.set k _
      all_goals
        refine ⟨⟨k + 1, by omega, by go_num, ?_, hb⟩, by simp [intOf]; try omega⟩
        rw [lowK_same _ _ hl (by rw [hg]; exact lowB_same _ (by omega))]
        exact hrow
    · have hall : lowK s.data.toList k = lowL s.data.toList := lowK_all _ _ (by rw [← Lib.size_eq]; omega)
      rw [hall] at hrow
      have hlen : (lowL s.data.toList).length = s.size := by simp [lowL]
      have hback := run_convert_bytes_back (P := Try.prog) wr 76 9 5 ⟨w.heap.size, 0, none⟩ (grownCap w s.size 0 5) (lowL s.data.toList) Try.underlying76 Try.underlying5 Try.underlying9
        (fun j hj => by rw [Addr.add_lit, Nat.zero_add]; exact hrow.cell (by rw [List.getElem?_map, List.getElem?_eq_getElem hj]; rfl))
      rw [hlen] at hback
      clear hrow hall
      go_wp2
      go_ret
      exact ⟨rfl, hb⟩

theorem cls_any (n : Int) (w : World) (h0 : 0 ≤ n) (h1 : n < 256) :
    Calls Try.prog 58 #[.int .u8 n] w fun e w' => e = .returned (.int .i64 (clsN n)) ∧ w = w' := by
  go_enter Try.func58, Try.ntmps58
  go_wp2
  all_goals (go_ret; refine ⟨ret_int ?_, rfl⟩)
  all_goals (try simp only [beq_iff_eq, beq_eq_false_iff_ne] at *)
  all_goals (unfold clsN; repeat (first | rw [if_pos (by omega)] | rw [if_neg (by omega)]))

theorem rlower_any (s : ByteArray) (w : World) (hs : s.size ≤ maxLen) :
    Calls Try.prog 51 #[.string s] w fun e w' => e = .returned (.string ⟨(lowL s.data.toList).toArray⟩) ∧ Below w.heap.size w w' := by
  unfold maxLen at hs
  have hconv := fun wx => run_bytes_of_string (P := Try.prog) wx 9 76 5 s Try.underlying9 Try.underlying76 Try.underlying5
  go_enter Try.func51, Try.ntmps51
  go_wp2
  clear hconv
  go_loopw [9] (fun i wr => ∃ k : Nat, k ≤ s.size ∧ i = .int .i64 k ∧ RowV wr w.heap.size ((lowK s.data.toList k).map byteV) ∧ Below w.heap.size w wr) (fun i _ => s.size - (intOf i).toNat)
  case atStart =>
    exact ⟨0, Nat.zero_le _, rfl, by rw [lowK_zero]; exact (RowV.bytes_new _ _ _ _).drew, (Below.refl _ _).drew.alloc (Nat.le_refl _) _⟩
  case round =>
    obtain ⟨k, hk, rfl, hrow, hb⟩ := hrel
    by_cases hlt : k < s.size
    · have hl : k < s.data.toList.length := by rw [← Lib.size_eq]; exact hlt
      have hc : wr.cell? ⟨w.heap.size, k, none⟩ = some (.int .u8 (s[k].toNat : Int)) := hrow.cell (by rw [List.getElem?_map, lowK_get _ _ hl]; rfl)
      have hf : wr.frozen? ⟨w.heap.size, k, none⟩ = false := hrow.free (by rw [List.length_map, lowK_length]; exact hl)
      have h255 : s[k].toNat < 256 := s[k].toNat_lt
      have hg : s.data.toList[k] = s[k] := rfl
      go_wp2
      · refine ⟨⟨k + 1, by omega, by go_num, ?_, hb.setCell (Nat.le_refl _) _⟩, by simp [intOf]; try omega⟩
        have h1 : 65 ≤ s[k].toNat := by omega
        have h2 : s[k].toNat ≤ 90 := by omega
        rw [lowK_succ _ _ hl, List.map_set, hg]
        have e : byteV (lowB s[k]) = .int .u8 ((s[k].toNat : Int) + 32) := by
          unfold byteV
          rw [lowB_nat, if_pos ⟨h1, h2⟩]
          congr 1
        rw [e]
        exact hrow.set k _
      all_goals
        refine ⟨⟨k + 1, by omega, by go_num, ?_, hb⟩, by simp [intOf]; try omega⟩
        rw [lowK_same _ _ hl (by rw [hg]; exact lowB_same _ (by omega))]
        exact hrow
    · have hall : lowK s.data.toList k = lowL s.data.toList := lowK_all _ _ (by rw [← Lib.size_eq]; omega)
      rw [hall] at hrow
      have hlen : (lowL s.data.toList).length = s.size := by simp [lowL]
      have hback := run_convert_bytes_back (P := Try.prog) wr 76 9 5 ⟨w.heap.size, 0, none⟩ (grownCap w s.size 0 5) (lowL s.data.toList) Try.underlying76 Try.underlying5 Try.underlying9
        (fun j hj => by rw [Addr.add_lit, Nat.zero_add]; exact hrow.cell (by rw [List.getElem?_map, List.getElem?_eq_getElem hj]; rfl))
      rw [hlen] at hback
      clear hrow hall
      go_wp2
      go_ret
      exact ⟨rfl, hb⟩

end Go.Proofs.Yteccphcophjhpaa
