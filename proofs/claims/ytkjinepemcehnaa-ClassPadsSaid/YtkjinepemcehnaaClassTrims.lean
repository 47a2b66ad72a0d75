/-
  The walks of the laws ClassTrims and ClassPads.
-/
import Derived.Test.YtkjinepemcehnaaClassG
namespace Go.Proofs.Ytkjinepemcehnaa
open Go.RowKit

theorem get_byte (s : ByteArray) (k : Nat) (h : k < s.size) : s.data.toList[k]? = some s[k] := List.getElem?_eq_getElem (by rw [← Lib.size_eq]; exact h)

theorem walk_ClassTrims (s : ByteArray) (w : World) (hs : s.size ≤ maxLen) :
    Calls Try.prog 9 #[.string s] w fun e w' => e = .returned (.bool true) ∧ Below w.heap.size w w' := by
  by_cases h1 : 400 < s.size
  · unfold maxLen at hs
    go_enter Try.func9, Try.ntmps9
    go_wp2_with (go_at_call 14; refine (known_any _).mono ?_; rintro e w' ⟨rfl, hb'⟩)
    go_ret
    exact ⟨rfl, hb'⟩
  have c1 := fun w => trim_any s w hs
  have c2 := fun w => rtrim_any s w hs
  have C1 := Lib.hid c1
  have C2 := Lib.hid c2
  have HZ := Lib.hid (Lib.size_eq s)
  clear c1 c2 hs
  go_enter Try.func9, Try.ntmps9
  go_wp2_with fail
  refine (C1.out _).mono ?_
  rintro e w1 ⟨x, y, HT, rfl, rfl⟩
  go_wp2_with fail
  refine (C2.out _).mono ?_
  rintro e w2 ⟨x', y', HT', rfl, rfl⟩
  obtain ⟨rfl, rfl⟩ := HT.unique HT'
  obtain ⟨b1, b2⟩ := HT.bounds
  rw [← HZ.out] at b2
  have H := Lib.hid HT
  clear HT HT'
  by_cases hxy : x = y
  · subst hxy
    go_wp2_with (go_at_call 14; refine (known_any _).mono ?_; rintro e w' ⟨rfl, hb'⟩)
    go_ret
    exact ⟨rfl, hb'⟩
  · have hlt : x < y := by omega
    have hx : x < s.size := by omega
    have hy : y - 1 < s.size := by omega
    have hne : ((x : Int) == (y : Int)) = false := by simp; omega
    have hcx : (clsN (s[x].toNat : Int) != 2) = true := by
      rcases H.out with ⟨rfl, rfl, _⟩ | ⟨_, _, h3, _⟩
      · omega
      · simpa using h3 _ (get_byte s x hx)
    have hcy : (clsN (s[y - 1].toNat : Int) != 2) = true := by
      rcases H.out with ⟨rfl, rfl, _⟩ | ⟨_, _, _, h4, _⟩
      · omega
      · simpa using h4 _ (get_byte s (y - 1) hy)
    have l1 : s[x].toNat < 256 := s[x].toNat_lt
    have l2 : s[y - 1].toNat < 256 := s[y - 1].toNat_lt
    clear hxy
    go_wp2_with (first
      | (go_at_call 12; refine (of_any _ _ (by omega) (by omega)).mono ?_; rintro e w' ⟨rfl, rfl⟩)
      | (go_at_call 14; refine (known_any _).mono ?_; rintro e w' ⟨rfl, hb'⟩))
    go_ret
    exact ⟨ret_bool (by simp), hb'⟩

theorem walk_ClassPads (s : ByteArray) (a b : Int) (w : World) (hs : s.size ≤ maxLen) (wa : (Lit.int .i64 a).wf = true) (wb : (Lit.int .i64 b).wf = true) :
    Calls Try.prog 10 #[.string s, .int .i64 a, .int .i64 b] w fun e w' => e = .returned (.bool true) ∧ Below w.heap.size w w' := by
  unfold maxLen at hs
  by_cases h1 : 200 < s.size
  · go_enter Try.func10, Try.ntmps10
    go_wp2_with (go_at_call 14; refine (known_any _).mono ?_; rintro e w' ⟨rfl, hb'⟩)
    go_ret
    exact ⟨rfl, hb'⟩
  have HZ := Lib.hid (Lib.size_eq s)
  go_enter Try.func10, Try.ntmps10
  go_wp2_with fail
  refine (spaces_any _ _).mono ?_
  rintro e w1 ⟨u, hu, rfl, b1⟩
  go_wp2_with fail
  refine (spaces_any _ _).mono ?_
  rintro e w2 ⟨v, hv, rfl, b2⟩
  have HU := Lib.hid hu.2
  have HV := Lib.hid hv.2
  have hus := hu.1
  have hvs := hv.1
  clear hu hv
  have c1 : ∀ w, Calls Try.prog 20 #[.string s] w fun e w' => ∃ x y : Nat, IsTrim s.data.toList x y ∧ e = .returned (.tuple #[.int .i64 x, .int .i64 y]) ∧ w = w' := fun w => trim_any s w (by unfold maxLen; omega)
  have c2 : ∀ w, Calls Try.prog 20 #[.string (u ++ s ++ v)] w fun e w' => ∃ x y : Nat, IsTrim (u ++ s ++ v).data.toList x y ∧ e = .returned (.tuple #[.int .i64 x, .int .i64 y]) ∧ w = w' := fun w =>
    trim_any (u ++ s ++ v) w (by rw [size_append, size_append]; unfold maxLen; omega)
  have C1 := Lib.hid c1
  have C2 := Lib.hid c2
  clear c1 c2
  go_wp2_with fail
  refine (C1.out _).mono ?_
  rintro e w3 ⟨x, y, HT, rfl, rfl⟩
  obtain ⟨d1, d2⟩ := HT.bounds
  rw [← HZ.out] at d2
  have H := Lib.hid HT
  clear HT
  go_wp2_with fail
  refine (C2.out _).mono ?_
  rintro e w4 ⟨x', y', HT', rfl, rfl⟩
  rw [data_append, data_append] at HT'
  have hp := H.out.pad HU.out HV.out HT'
  clear HT'
  by_cases hxy : x = y
  · obtain ⟨rfl, rfl⟩ := hp.1 hxy
    clear hp
    subst hxy
    go_wp2_with (go_at_call 14; refine (known_any _).mono ?_; rintro e w' ⟨rfl, hb'⟩)
    go_ret
    have z1 := b1.size
    have z2 := b2.size
    exact ⟨rfl, (b1.trans (b2.mono (by omega))).trans (hb'.mono (by omega))⟩
  · obtain ⟨e1, e2⟩ := hp.2 hxy
    rw [← Lib.size_eq] at e1 e2
    subst e1 e2
    clear hp
    have hne : ((x : Int) == (y : Int)) = false := by simp; omega
    have t1 : (((x + u.size : Nat) : Int) == (x : Int) + (u.size : Int)) = true := by simp
    have t2 : (((y + u.size : Nat) : Int) == (y : Int) + (u.size : Int)) = true := by simp
    clear hxy
    go_wp2_with (go_at_call 14; refine (known_any _).mono ?_; rintro e w' ⟨rfl, hb'⟩)
    go_ret
    have z1 := b1.size
    have z2 := b2.size
    exact ⟨ret_bool (by simp), (b1.trans (b2.mono (by omega))).trans (hb'.mono (by omega))⟩

end Go.Proofs.Ytkjinepemcehnaa
