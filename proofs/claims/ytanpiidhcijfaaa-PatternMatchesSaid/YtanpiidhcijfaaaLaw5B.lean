
/-
  Made patterns and texts.
-/
import Derived.Test.YtanpiidhcijfaaaLaw5A
import Derived.Test.YtanpiidhcijfaaaAtoms
namespace Go.Proofs.Ytanpiidhcijfaaa
open Go.RowKit

/-- A call that makes a pattern. -/
def MadeRet (w : World) (e : Ending) (w' : World) : Prop := ∃ v p, e = .returned v ∧ p.length ≤ 5 ∧ OwnE 37 atC 34 w' w.heap.size v p ∧ Below w.heap.size w w' ∧ ∀ x ∈ p, x.mn = 0 ∨ x.mn = 1

set_option maxRecDepth 100000 in
set_option maxHeartbeats 4000000 in
theorem made_any (A : Option Addr) (c : Nat) (l : List Int) (w : World) (h : RdE intC 1 w (.slice A l.length c) l) (hin : ∀ x ∈ l, IntIn x) :
    Calls Try.prog 20 #[.slice A l.length c] w (MadeRet w) := by
  obtain ⟨R, HRR⟩ : ∃ R, Hid (R = MadeRet w) := ⟨_, rfl⟩
  rw [← HRR.out]
  have hN : Nums (w.alloc (.cells #[.slice A l.length c, .int .i64 0] 66)) w.heap.size l 0 :=
    ⟨_, w, Array.getElem?_push_size, h, Nat.le_refl _, fun k hk => Below.heap_alloc _ _ _ hk, hin⟩
  have HF := Lib.hid (atoms_any l w.heap.size 0 5 _ hN (by decide) (by decide))
  clear hN h hin
  go_enter Try.func20, Try.ntmps20
  go_wp2_with (go_at_call 38; refine HF.out.mono ?_; rintro e w1 ⟨v, p, N', rfl, hp, hown, hb, _, _, hv⟩)
  rw [HRR.out]
  exact ⟨v, p, rfl, hp, own_base hown (by simp), ((Below.refl w.heap.size w).alloc (Nat.le_refl _) _).trans (hb.below (Nat.le_refl _) (by simp)), hv⟩

set_option maxRecDepth 100000 in
set_option maxHeartbeats 4000000 in
theorem text_any (A : Option Addr) (c : Nat) (l : List Int) (w : World) (hr : RdE intC 1 w (.slice A l.length c) l) (hin : ∀ x ∈ l, IntIn x) (hl : l.length ≤ 9223372036854775807) :
    Calls Try.prog 21 #[.slice A l.length c] w (RetUp w 24) := by
  obtain ⟨R, HRR⟩ : ∃ R, Hid (R = RetUp w 24) := ⟨_, rfl⟩
  rw [← HRR.out]
  have HR := Lib.hid hr
  have HI := Lib.hid hin
  clear hr hin
  have hcv := fun (w : World) (x : Int) (h0 : 0 ≤ x) (h1 : x < 256) => run_string_of_byte (P := Try.prog) 39 9 5 Try.underlying39 Try.underlying5 Try.underlying9 x h0 h1 w
  have HCV := Lib.hid hcv
  clear hcv
  go_enter Try.func21, Try.ntmps21
  go_wp2_with fail
  go_loopg [3, 4] 24 (fun n sv iv wr => ∃ (u : ByteArray) (k : Nat), sv = .string u ∧ iv = .int .i64 k ∧ k ≤ 24 ∧ k ≤ l.length ∧ u.size ≤ k ∧ Hid (Below w.heap.size w wr) ∧ 24 - k ≤ n)
  case atStart => exact ⟨_, 0, rfl, rfl, by omega, by omega, by decide, Below.refl _ _, by omega⟩
  case round =>
    obtain ⟨u, k, rfl, rfl, hk, hkl, hu, HB, hgk⟩ := hrel
    by_cases hlt : k < l.length
    · have hlti : (k : Int) < (l.length : Int) := by omega
      by_cases h40 : k < 24
      · have h40i : (k : Int) < 24 := by omega
        obtain ⟨b, o, rfl, hbl, hcell⟩ := HR.out.cells (by omega)
        have q0 := (HB.out.cell (p := ⟨b, o + (k * 1 + 0), none⟩) hbl).trans (hcell k l[k] 0 _ (List.getElem?_eq_getElem hlt) rfl)
        rw [show o + (k * 1 + 0) = o + k by omega] at q0
        have hx := HI.out l[k] (List.getElem_mem _)
        generalize l[k] = x at q0 hx
        have HP := Lib.hid (fun w => place_any x 8 w hx (by decide) (by decide))
        have hz1 := Int.emod_nonneg x (show (8 : Int) ≠ 0 by decide)
        have hz2 := Int.emod_lt_of_pos x (show (0 : Int) < 8 by decide)
        generalize x % 8 = z at HP hz1 hz2
        have hz8 : z < ((⟨#[97, 98, 32, 46, 33, 65, 49, 60]⟩ : ByteArray).size : Int) := hz2
        obtain ⟨cb, HCB⟩ : ∃ cb : Nat, Hid (∀ h, ((⟨#[97, 98, 32, 46, 33, 65, 49, 60]⟩ : ByteArray)[z.toNat]'h).toNat = cb) := ⟨((⟨#[97, 98, 32, 46, 33, 65, 49, 60]⟩ : ByteArray).data.toList.getD z.toNat 0).toNat, fun h => by
          rw [List.getD_eq_getElem?_getD, List.getElem?_eq_getElem h]
          rfl⟩
        have hcb : cb < 256 := by rw [← HCB.out (by omega)]; exact UInt8.toNat_lt _
        have HC2 := Lib.hid (HCV.out wr cb (by omega) (by omega))
        have hcc := HCB.out
        clear HCB
        have hconv := HC2.out
        clear HC2
        go_wp2_with (go_at_call 17; refine (HP.out _).mono ?_; rintro e w' ⟨rfl, rfl⟩)

        go_roundg (24 - (k + 1))
        case measure => omega
        case rel => exact ⟨_, k + 1, rfl, by go_num, by omega, by omega, by rw [size_append]; show u.size + 1 ≤ k + 1; omega, HB.out.alloc HB.out.size _, Nat.le_refl _⟩
      · have h40i : ¬ (k : Int) < 24 := by omega
        go_wp2_with fail
        rw [HRR.out]
        exact ⟨u, by omega, rfl, HB.out⟩
    · have hlti : ¬ (k : Int) < (l.length : Int) := by omega
      go_wp2_with fail
      rw [HRR.out]
      exact ⟨u, by omega, rfl, HB.out⟩

end Go.Proofs.Ytanpiidhcijfaaa
