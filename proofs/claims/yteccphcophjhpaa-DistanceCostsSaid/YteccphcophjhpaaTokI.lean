
/-
  Contracts of package token and of its reference (chapter 11): weights, counts, keys.
-/
import Derived.Test.YteccphcophjhpaaTok
import Derived.Test.YteccphcophjhpaaClass
namespace Go.Proofs.Yteccphcophjhpaa
open Go.RowKit

def weightI (k : Int) : Int := if k = 6 ∨ k = 5 then 4 else if k = 7 ∨ k = 2 ∨ k = 3 ∨ k = 4 then 3 else if k = 9 then 2 else if k = 8 then 1 else 0
theorem weightI_bd (k : Int) : 0 ≤ weightI k ∧ weightI k ≤ 4 := by
  unfold weightI
  repeat' split
  all_goals omega
def totalL (l : List Tk) : Int := (l.map fun x => weightI x.k).sum
theorem totalL_append (l m : List Tk) : totalL (l ++ m) = totalL l + totalL m := by simp [totalL]
theorem totalL_take (l : List Tk) (k : Nat) (h : k < l.length) : totalL (l.take (k + 1)) = totalL (l.take k) + weightI l[k].k := by
  rw [List.take_succ_eq_append_getElem h, totalL_append]
  simp [totalL]
theorem totalL_bd (l : List Tk) : 0 ≤ totalL l ∧ totalL l ≤ 4 * l.length := by
  induction l with
  | nil => simp [totalL]
  | cons x l ih =>
    have h := weightI_bd x.k
    have e : totalL (x :: l) = weightI x.k + totalL l := by simp [totalL]
    rw [e, List.length_cons]
    omega
def isWN (x : Tk) : Bool := x.k == 6 || x.k == 7
def countL (l : List Tk) : Nat := (l.filter isWN).length
theorem countL_append (l m : List Tk) : countL (l ++ m) = countL l + countL m := by simp [countL]
theorem countL_take (l : List Tk) (k : Nat) (h : k < l.length) : countL (l.take (k + 1)) = countL (l.take k) + if isWN l[k] then 1 else 0 := by
  rw [List.take_succ_eq_append_getElem h, countL_append]
  congr 1
  unfold countL
  rw [List.filter_cons]
  split <;> rfl
theorem countL_le (l : List Tk) : countL l ≤ l.length := List.length_filter_le _ _

/-- The key of a token. -/
def keyT (x : Tk) : ByteArray := if x.k = 6 then ⟨(lowL x.t.data.toList).toArray⟩ else x.t

set_option maxHeartbeats 1000000 in
theorem weight_any (k d : Int) (t : ByteArray) (w : World) :
    Calls Try.prog 35 #[.agg #[.int .i64 k, .string t, .int .i64 d]] w fun e w' => e = .returned (.int .i64 (weightI k)) ∧ Below w.heap.size w w' := by
  rcases (show k = 2 ∨ k = 3 ∨ k = 4 ∨ k = 5 ∨ k = 6 ∨ k = 7 ∨ k = 8 ∨ k = 9 ∨ (k ≠ 2 ∧ k ≠ 3 ∧ k ≠ 4 ∧ k ≠ 5 ∧ k ≠ 6 ∧ k ≠ 7 ∧ k ≠ 8 ∧ k ≠ 9) from by omega) with rfl | rfl | rfl | rfl | rfl | rfl | rfl | rfl | h
  case inr.inr.inr.inr.inr.inr.inr.inr =>
    have H : Hid (weightI k = 0) := by
      show weightI k = 0
      unfold weightI
      rw [if_neg (by omega), if_neg (by omega), if_neg (by omega), if_neg (by omega)]
    have t2 : (k == 2) = false := by simp; omega
    have t3 : (k == 3) = false := by simp; omega
    have t4 : (k == 4) = false := by simp; omega
    have t5 : (k == 5) = false := by simp; omega
    have t6 : (k == 6) = false := by simp; omega
    have t7 : (k == 7) = false := by simp; omega
    have t8 : (k == 8) = false := by simp; omega
    have t9 : (k == 9) = false := by simp; omega
    clear h
    go_enter Try.func35, Try.ntmps35
    go_wp2
    go_ret
    exact ⟨ret_int H.out.symm, (Below.refl _ _).alloc (Nat.le_refl _) _⟩
  all_goals
    go_enter Try.func35, Try.ntmps35
    go_wp2
    go_ret
    exact ⟨rfl, (Below.refl _ _).alloc (Nat.le_refl _) _⟩

theorem same_any (k d k2 d2 : Int) (t t2 : ByteArray) (w : World) :
    Calls Try.prog 33 #[.agg #[.int .i64 k, .string t, .int .i64 d], .agg #[.int .i64 k2, .string t2, .int .i64 d2]] w fun e w' => e = .returned (.bool (k == k2 && t.toList == t2.toList)) ∧ Below w.heap.size w w' := by
  by_cases h : k = k2
  · subst h
    have hh : (k == k) = true := by simp
    go_enter Try.func33, Try.ntmps33
    go_wp2
    go_ret
    exact ⟨ret_bool (by simp), ((Below.refl _ _).alloc (Nat.le_refl _) _).alloc (by simp) _⟩
  · have hh : (k == k2) = false := by simpa using h
    clear h
    go_enter Try.func33, Try.ntmps33
    go_wp2
    go_ret
    exact ⟨ret_bool (by simp [hh]), ((Below.refl _ _).alloc (Nat.le_refl _) _).alloc (by simp) _⟩

theorem key_any (k d : Int) (t : ByteArray) (w : World) (hs : t.size ≤ maxLen) :
    Calls Try.prog 34 #[.agg #[.int .i64 k, .string t, .int .i64 d]] w fun e w' => e = .returned (.string (keyT ⟨k, t, d⟩)) ∧ Below w.heap.size w w' := by
  by_cases h : k = 6
  · subst h
    go_enter Try.func34, Try.ntmps34
    go_wp2_with (go_at_call 50; refine (lower_any _ _ hs).mono ?_; rintro e w1 ⟨rfl, hb1⟩)
    go_ret
    have hs1 := hb1.size
    exact ⟨rfl, ((Below.refl _ _).alloc (Nat.le_refl _) _).trans (hb1.mono (by simp))⟩
  · have hh : (k == 6) = false := by simpa using h
    have H := Lib.hid (show keyT ⟨k, t, d⟩ = t from by rw [keyT, if_neg h])
    clear h
    go_enter Try.func34, Try.ntmps34
    go_wp2
    go_ret
    exact ⟨by rw [H.out]; rfl, (Below.refl _ _).alloc (Nat.le_refl _) _⟩

set_option maxHeartbeats 1000000 in
theorem rweight_any (k d : Int) (t : ByteArray) (w : World) :
    Calls Try.prog 37 #[.agg #[.int .i64 k, .string t, .int .i64 d]] w fun e w' => e = .returned (.int .i64 (weightI k)) ∧ Below w.heap.size w w' := by
  rcases (show k = 2 ∨ k = 3 ∨ k = 4 ∨ k = 5 ∨ k = 6 ∨ k = 7 ∨ k = 8 ∨ k = 9 ∨ (k ≠ 2 ∧ k ≠ 3 ∧ k ≠ 4 ∧ k ≠ 5 ∧ k ≠ 6 ∧ k ≠ 7 ∧ k ≠ 8 ∧ k ≠ 9) from by omega) with rfl | rfl | rfl | rfl | rfl | rfl | rfl | rfl | h
  case inr.inr.inr.inr.inr.inr.inr.inr =>
    have H : Hid (weightI k = 0) := by
      show weightI k = 0
      unfold weightI
      rw [if_neg (by omega), if_neg (by omega), if_neg (by omega), if_neg (by omega)]
    have t2 : (k == 2) = false := by simp; omega
    have t3 : (k == 3) = false := by simp; omega
    have t4 : (k == 4) = false := by simp; omega
    have t5 : (k == 5) = false := by simp; omega
    have t6 : (k == 6) = false := by simp; omega
    have t7 : (k == 7) = false := by simp; omega
    have t8 : (k == 8) = false := by simp; omega
    have t9 : (k == 9) = false := by simp; omega
    clear h
    go_enter Try.func37, Try.ntmps37
    go_wp2
    go_ret
    exact ⟨ret_int H.out.symm, (Below.refl _ _).alloc (Nat.le_refl _) _⟩
  all_goals
    go_enter Try.func37, Try.ntmps37
    go_wp2
    go_ret
    exact ⟨rfl, (Below.refl _ _).alloc (Nat.le_refl _) _⟩

theorem rsame_any (k d k2 d2 : Int) (t t2 : ByteArray) (w : World) :
    Calls Try.prog 19 #[.agg #[.int .i64 k, .string t, .int .i64 d], .agg #[.int .i64 k2, .string t2, .int .i64 d2]] w fun e w' => e = .returned (.bool (k == k2 && t.toList == t2.toList)) ∧ Below w.heap.size w w' := by
  by_cases h : k = k2
  · subst h
    have hh : (k == k) = true := by simp
    go_enter Try.func19, Try.ntmps19
    go_wp2
    go_ret
    exact ⟨ret_bool (by simp), ((Below.refl _ _).alloc (Nat.le_refl _) _).alloc (by simp) _⟩
  · have hh : (k == k2) = false := by simpa using h
    clear h
    go_enter Try.func19, Try.ntmps19
    go_wp2
    go_ret
    exact ⟨ret_bool (by simp [hh]), ((Below.refl _ _).alloc (Nat.le_refl _) _).alloc (by simp) _⟩

theorem rkey_any (k d : Int) (t : ByteArray) (w : World) (hs : t.size ≤ maxLen) :
    Calls Try.prog 36 #[.agg #[.int .i64 k, .string t, .int .i64 d]] w fun e w' => e = .returned (.string (keyT ⟨k, t, d⟩)) ∧ Below w.heap.size w w' := by
  by_cases h : k = 6
  · subst h
    go_enter Try.func36, Try.ntmps36
    go_wp2_with (go_at_call 51; refine (rlower_any _ _ hs).mono ?_; rintro e w1 ⟨rfl, hb1⟩)
    go_ret
    have hs1 := hb1.size
    exact ⟨rfl, ((Below.refl _ _).alloc (Nat.le_refl _) _).trans (hb1.mono (by simp))⟩
  · have hh : (k == 6) = false := by simpa using h
    have H := Lib.hid (show keyT ⟨k, t, d⟩ = t from by rw [keyT, if_neg h])
    clear h
    go_enter Try.func36, Try.ntmps36
    go_wp2
    go_ret
    exact ⟨by rw [H.out]; rfl, (Below.refl _ _).alloc (Nat.le_refl _) _⟩

end Go.Proofs.Yteccphcophjhpaa
