
/-
  Strings backwards. Plain.
-/
import Derived.Test.YtpboaadjbkaidaaDoorMathLang
import Derived.Test.YtpboaadjbkaidaaDoorBase
namespace Go.Proofs.YtpboaadjbkaidaaDoor
set_option maxRecDepth 100000
open Go.RowKit

/-- The last k bytes of a string, backwards. -/
def rvS (s : ByteArray) (k : Nat) : ByteArray := ⟨((s.data.toList.drop (s.size - k)).reverse).toArray⟩
theorem rv_zero (s : ByteArray) : rvS s 0 = ⟨#[]⟩ := by
  unfold rvS
  rw [List.drop_eq_nil_of_le (by rw [Nat.sub_zero, Lib.size_eq]; exact Nat.le_refl _)]
  rfl
theorem rv_step (s : ByteArray) (k j : Nat) (h : j + k + 1 = s.size) : rvS s k ++ s.extract j (j + 1) = rvS s (k + 1) := by
  have hl : s.data.toList.length = s.size := (Lib.size_eq s).symm
  apply ByteArray.ext
  apply Array.toList_inj.1
  rw [data_append]
  unfold rvS
  have e1 : (s.extract j (j + 1)).data.toList = [s.data.toList[j]'(by omega)] := by
    rw [ByteArray.data_extract, Array.toList_extract, List.extract_eq_take_drop, show j + 1 - j = 1 by omega, List.drop_eq_getElem_cons (by omega)]
    rfl
  rw [e1]
  simp only
  rw [show s.size - (k + 1) = j by omega, show s.size - k = j + 1 by omega, List.drop_eq_getElem_cons (show j < s.data.toList.length by omega), List.reverse_cons]
theorem rv_len (s : ByteArray) (k : Nat) (hk : k ≤ s.size) : (rvS s k).size = k := by
  show ((s.data.toList.drop (s.size - k)).reverse).length = _
  rw [List.length_reverse, List.length_drop, ← Lib.size_eq]
  omega
theorem rv_size (s : ByteArray) : (rvS s s.size).size = s.size := by
  show ((s.data.toList.drop (s.size - s.size)).reverse).length = _
  rw [Nat.sub_self, List.drop_zero, List.length_reverse, ← Lib.size_eq]
theorem rv_bt (s : ByteArray) (k : Nat) (hk : k < s.size) : bt (rvS s s.size) k = bt s (s.size - 1 - k) := by
  have hl : s.data.toList.length = s.size := (Lib.size_eq s).symm
  unfold bt rvS
  simp only
  rw [Nat.sub_self, List.drop_zero, List.getD_eq_getElem?_getD, List.getD_eq_getElem?_getD, List.getElem?_reverse (by omega), hl]
theorem rv_match (p : List At) (s : ByteArray) : matchF p.reverse (rvS s s.size) = matchF p s := rev_match p (rv_size s) (rv_bt s)
theorem rv_prefix (p : List At) (s : ByteArray) : prefixF p.reverse (rvS s s.size) = suffixF p s := rev_prefix p (rv_size s) (rv_bt s)

end Go.Proofs.YtpboaadjbkaidaaDoor
