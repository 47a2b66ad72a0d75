
/-
  Chapter 11: helpers of the statements: the fixed example, SameTokens, kind.
-/
import Derived.Test.YtfkjlaepknhicaaTokH
import Derived.Test.YtfkjlaepknhicaaTokI
import Derived.WalkSpells
namespace Go.Proofs.Ytfkjlaepknhicaa
open Go.RowKit

theorem RdT.one (w : World) (x : Tk) (t : TypeId) : RdT (w.alloc (.cells (tkC x).toArray t)) (.slice (some ⟨w.heap.size, 0, none⟩) 1 1) [x] := by
  refine ⟨some ⟨w.heap.size, 0, none⟩, 1, rfl, by simp, (fun h => by cases h), fun _ => ⟨w.heap.size, 0, rfl, by simp, fun i y j u hi hj => ?_⟩⟩
  have hi0 : i = 0 := by
    have := (List.getElem?_eq_some_iff.1 hi).1
    simpa using this
  subst hi0
  simp at hi
  subst hi
  have := cells_new w (tkC x) t j u hj
  rw [Addr.add_lit] at this
  simpa using this

theorem known_cut : cutL [68, 111, 110, 39, 116, 32, 112, 97, 121, 32, 49, 44, 48, 48, 48, 46, 53, 48, 32, 110, 111, 119, 33] =
    [(6, [68, 111, 110, 39, 116]), (8, [32]), (6, [112, 97, 121]), (8, [32]), (7, [49, 44, 48, 48, 48, 46, 53, 48]), (8, [32]), (6, [110, 111, 119]), (9, [33])] := by decide +kernel

def knownS : ByteArray := ⟨#[68, 111, 110, 39, 116, 32, 112, 97, 121, 32, 49, 44, 48, 48, 48, 46, 53, 48, 32, 110, 111, 119, 33]⟩
def knownT : List Tk := [⟨6, ⟨#[68, 111, 110, 39, 116]⟩, 0⟩, ⟨8, ⟨#[32]⟩, 0⟩, ⟨6, ⟨#[112, 97, 121]⟩, 0⟩, ⟨8, ⟨#[32]⟩, 0⟩, ⟨7, ⟨#[49, 44, 48, 48, 48, 46, 53, 48]⟩, 0⟩, ⟨8, ⟨#[32]⟩, 0⟩, ⟨6, ⟨#[110, 111, 119]⟩, 0⟩, ⟨9, ⟨#[33]⟩, 0⟩]
theorem known_tokens : tokensL [⟨1, knownS, 0⟩] = knownT := by
  have : tokensL [⟨1, knownS, 0⟩] = (cutL knownS.data.toList).map tkOf ++ [] := rfl
  rw [this, show knownS.data.toList = [68, 111, 110, 39, 116, 32, 112, 97, 121, 32, 49, 44, 48, 48, 48, 46, 53, 48, 32, 110, 111, 119, 33] from rfl, known_cut]
  rfl

theorem known_any (w : World) : Calls Try.prog 11 #[] w fun e w' => e = .returned (.bool true) ∧ Below w.heap.size w w' := by
  have ct := fun (v : Value) (w : World) (h : RdT w v [⟨1, knownS, 0⟩]) => tokens_any [⟨1, knownS, 0⟩] v w h (by simp) (by decide)
  rw [known_tokens] at ct
  have CT := Lib.hid ct
  clear ct
  go_enter Try.func11, Try.ntmps11
  go_wp2_with fail
  refine (CT.out _ _ (by exact RdT.one w ⟨1, knownS, 0⟩ _)).mono ?_
  rintro e w1 ⟨v, rfl, hown, hb⟩
  have hz := hb.size
  have HR := Lib.hid (OwnE.rd tkC_three hown)
  obtain ⟨g, c, hv, _⟩ := own_some hown (by decide)
  subst hv
  have cc := fun w (h : RdT w (.slice (some ⟨g, 0, none⟩) knownT.length c) knownT) => count_any knownT _ w h (by decide)
  have CC := Lib.hid cc
  have k1 : w1.cell? ⟨g, 1, none⟩ = some (.string ⟨#[68, 111, 110, 39, 116]⟩) := by rw [hown.cellAt 1 (by decide)]; rfl
  have k2 : w1.cell? ⟨g, 12, none⟩ = some (.int .i64 7) := by rw [hown.cellAt 12 (by decide)]; rfl
  have k3 : w1.cell? ⟨g, 13, none⟩ = some (.string ⟨#[49, 44, 48, 48, 48, 46, 53, 48]⟩) := by rw [hown.cellAt 13 (by decide)]; rfl
  have hlen : knownT.length = 8 := rfl
  clear hown cc
  rw [hlen]
  go_wp2_with (go_at_call 19; refine (CC.out _ HR.out).mono ?_; rintro e w2 ⟨rfl, hb2⟩)
  go_ret
  have hz2 := hb2.size
  have h0 : w.heap.size ≤ (w.alloc (.cells (tkC ⟨1, knownS, 0⟩).toArray 27)).heap.size := by simp
  refine ⟨ret_bool (by decide), ?_⟩
  exact (((Below.refl _ _).alloc (Nat.le_refl _) _).trans (hb.mono (by simp))).trans (hb2.mono (by simp at hz; omega))

/-- The statement's own kind of a byte. -/
def kindI (n : Int) : Int :=
  if n = 9 ∨ n = 10 ∨ n = 13 ∨ n = 32 then 8
  else if 48 ≤ n ∧ n ≤ 57 then 7
  else if (65 ≤ n ∧ n ≤ 90) ∨ (97 ≤ n ∧ n ≤ 122) ∨ 128 ≤ n then 6
  else 9
theorem kindI_8 (n : Int) : kindI n = 8 ↔ clsN n = 2 := by
  unfold kindI clsN
  constructor
  · intro h
    split at h
    · rw [if_pos (by omega)]
    · split at h <;> (try split at h) <;> omega
  · intro h
    split at h
    · rw [if_pos (by omega)]
    · split at h <;> (try split at h) <;> (try split at h) <;> omega
theorem kindI_7 (n : Int) : kindI n = 7 ↔ clsN n = 3 := by
  unfold kindI clsN
  by_cases h1 : n = 9 ∨ n = 10 ∨ n = 13 ∨ n = 32
  · rw [if_pos h1, if_pos h1]; omega
  · rw [if_neg h1, if_neg h1]
    by_cases h2 : 48 ≤ n ∧ n ≤ 57
    · rw [if_pos h2, if_neg (by omega), if_pos h2]; omega
    · rw [if_neg h2]
      repeat' split
      all_goals omega
theorem kindI_6 (n : Int) : kindI n = 6 ↔ clsN n = 4 := by
  unfold kindI clsN
  by_cases h1 : n = 9 ∨ n = 10 ∨ n = 13 ∨ n = 32
  · rw [if_pos h1, if_pos h1]; omega
  · rw [if_neg h1, if_neg h1]
    by_cases h2 : 48 ≤ n ∧ n ≤ 57
    · rw [if_pos h2, if_neg (by omega), if_pos h2]; omega
    · rw [if_neg h2]
      by_cases h3 : n < 32 ∨ n = 127
      · rw [if_pos h3, if_neg (by omega)]; omega
      · rw [if_neg h3, if_neg h2]
        by_cases h4 : (65 ≤ n ∧ n ≤ 90) ∨ (97 ≤ n ∧ n ≤ 122) ∨ 128 ≤ n
        · rw [if_pos h4, if_pos (by omega)]; omega
        · rw [if_neg h4, if_neg (by omega)]; omega
theorem kindI_set (n : Int) : kindI n = 6 ∨ kindI n = 7 ∨ kindI n = 8 ∨ kindI n = 9 := by
  unfold kindI
  repeat' split
  all_goals omega

theorem kind_any (n : Int) (w : World) (h0 : 0 ≤ n) (h1 : n < 256) :
    Calls Try.prog 16 #[.int .u8 n] w fun e w' => e = .returned (.int .i64 (kindI n)) ∧ w = w' := by
  go_enter Try.func16, Try.ntmps16
  go_wp2
  all_goals (go_ret; refine ⟨ret_int ?_, rfl⟩)
  all_goals (try simp only [beq_iff_eq, beq_eq_false_iff_ne] at *)
  all_goals (unfold kindI; repeat (first | rw [if_pos (by omega)] | rw [if_neg (by omega)]))

set_option maxHeartbeats 1000000 in
theorem same_yes (l : List Tk) (v u : Value) (w : World) (h1 : RdT w v l) (h2 : RdT w u l) (hl : l.length ≤ 1000000) :
    Calls Try.prog 12 #[v, u] w (QuietRet w (.bool true)) := by
  obtain ⟨A, c, rfl, _, _⟩ := h1.shape
  obtain ⟨A2, c2, rfl, _, _⟩ := h2.shape
  have H1 := Lib.hid h1
  have H2 := Lib.hid h2
  clear h1 h2
  go_enter Try.func12, Try.ntmps12
  go_wp2_with fail
  go_loopw [13] (fun i wr => ∃ k nq : Nat, k ≤ l.length ∧ i = .int .i64 k ∧ wr = w.drewN nq) (fun i _ => l.length - (intOf i).toNat)
  case atStart => exact ⟨0, 0, by omega, rfl, rfl⟩
  case round =>
    obtain ⟨k, nq, hk, rfl, rfl⟩ := hrel
    by_cases hkl : k < l.length
    · obtain ⟨b, o, rfl, hbl, q1, q2, q3⟩ := RdT.at_ H1.out k hkl
      obtain ⟨b2, o2, rfl, hbl2, r1, r2, r3⟩ := RdT.at_ H2.out k hkl
      generalize l[k] = x at q1 q2 q3 r1 r2 r3
      obtain ⟨xk, xt, xd⟩ := x
      simp only at q1 q2 q3 r1 r2 r3
      go_wp2_with fail
      go_quiet (fail)
      go_wp2_with fail
      exact ⟨⟨k + 1, _, by omega, by go_num, rfl⟩, by simp [intOf]; try omega⟩
    · obtain rfl : k = l.length := by omega
      go_wp2_with fail
      go_ret
      exact ⟨rfl, nq, rfl⟩

end Go.Proofs.Ytfkjlaepknhicaa
