
/-
  Contracts of package token and of its reference (chapter 11): the length of a token.
-/
import Derived.Test.YteccphcophjhpaaClass
import Derived.Test.YteccphcophjhpaaMath11
namespace Go.Proofs.Yteccphcophjhpaa
open Go.RowKit

theorem get_byte (s : ByteArray) (k : Nat) (h : k < s.size) : s.data.toList[k]? = some s[k] := List.getElem?_eq_getElem (by rw [← Lib.size_eq]; exact h)
theorem drop_byte (s : ByteArray) (k : Nat) (h : k < s.size) : s.data.toList.drop k = s[k] :: s.data.toList.drop (k + 1) := by
  rw [List.drop_eq_getElem_cons (by rw [← Lib.size_eq]; exact h)]
  rfl
theorem drop_end (s : ByteArray) (k : Nat) (h : s.size ≤ k) : s.data.toList.drop k = [] := List.drop_of_length_le (by rw [← Lib.size_eq]; exact h)
theorem eq_of_int (c : UInt8) (n : Nat) (hn : n < 256) (h : (c.toNat : Int) = n) : c = UInt8.ofNat n := by
  apply UInt8.toNat_inj.1
  rw [UInt8.toNat_ofNat']
  omega

end Go.Proofs.Yteccphcophjhpaa
