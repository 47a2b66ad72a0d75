
/-
  The walk of the law ScoreContexts.
-/
import Derived.Test.YtiigabojncnipaaLaw13B
import Derived.Test.YtiigabojncnipaaOpenTok
namespace Go.Proofs.Ytiigabojncnipaa
open Go.RowKit

/-- One context: 1 if it is equal and not empty. -/
def cx (a c : ByteArray) : Int := if a.toList.isEmpty then 0 else if a.toList == c.toList then 1 else 0
theorem cx_empty {a c : ByteArray} (h : a.toList.isEmpty = true) : cx a c = 0 := by unfold cx; rw [if_pos h]
theorem cx_yes {a c : ByteArray} (h : a.toList.isEmpty = false) (h2 : (a.toList == c.toList) = true) : cx a c = 1 := by unfold cx; rw [if_neg (by rw [h]; decide), if_pos h2]
theorem cx_no {a c : ByteArray} (h : a.toList.isEmpty = false) (h2 : (a.toList == c.toList) = false) : cx a c = 0 := by unfold cx; rw [if_neg (by rw [h]; decide), if_neg (by rw [h2]; decide)]
theorem cx_way (a c : ByteArray) : (a.toList.isEmpty = true ∧ cx a c = 0) ∨ (a.toList.isEmpty = false ∧ (a.toList == c.toList) = true ∧ cx a c = 1) ∨ (a.toList.isEmpty = false ∧ (a.toList == c.toList) = false ∧ cx a c = 0) := by
  cases h : a.toList.isEmpty
  · cases h2 : (a.toList == c.toList)
    · exact .inr (.inr ⟨rfl, rfl, cx_no h h2⟩)
    · exact .inr (.inl ⟨rfl, rfl, cx_yes h h2⟩)
  · exact .inl ⟨rfl, cx_empty h⟩

set_option maxHeartbeats 2000000 in
theorem ctx_any (a b c d : ByteArray) (w : World) :
    Calls Try.prog 21 #[.agg #[.slice none 0 0, .slice none 0 0, .string a, .string b, .string ⟨#[]⟩, .string ⟨#[]⟩, .int .i64 0, .int .i64 0], .agg #[.slice none 0 0, .string c, .string d, .int .i64 0, .int .i64 0, .int .i64 0]] w fun e w' => e = .returned (.int .i64 (cx a c + cx b d)) ∧ Below w.heap.size w w' := by
  rcases cx_way a c with ⟨h1, h3⟩ | ⟨h1, h2, h3⟩ | ⟨h1, h2, h3⟩ <;> rcases cx_way b d with ⟨k1, k3⟩ | ⟨k1, k2, k3⟩ | ⟨k1, k2, k3⟩
  all_goals
    rw [h3, k3]
    clear h3 k3
    go_enter Try.func21, Try.ntmps21
    go_wp2_with fail
    go_ret
    exact ⟨rfl, ((Below.refl w.heap.size w).alloc (Nat.le_refl _) _).alloc (by simp) _⟩

set_option maxRecDepth 100000 in
set_option maxHeartbeats 16000000 in
theorem ctx_law0 (a b c d : ByteArray) (ss : Int) (w : World) (x1 : (bits BinOp.and IntKind.i64 ss 1 == 1) = true) (x2 : (bits BinOp.and IntKind.i64 ss 2 == 2) = true) :
    Calls Try.prog 8 #[.string a, .string b, .string c, .string d, .int .i64 ss] w fun e w' => e = .returned (.bool true) ∧ Below w.heap.size w w' := by
  rcases cx_way a a with ⟨h1, h3⟩ | ⟨h1, h2, h3⟩ | ⟨h1, h2, h3⟩ <;> rcases cx_way b b with ⟨k1, k3⟩ | ⟨k1, k2, k3⟩ | ⟨k1, k2, k3⟩
  all_goals first
    | (exfalso; simp at h2; done)
    | (exfalso; simp at k2; done)
    | skip
  all_goals
    have C := fun w => ctx_any a b a b w
    rw [h3, k3] at C
    simp only [Int.reduceAdd] at C
    have HC := Lib.hid C
    clear h3 k3 C
    go_enter Try.func8, Try.ntmps8
    go_wp2_with (go_at_call 10; refine (known13_any _).mono ?_; rintro e w' ⟨rfl, hb'⟩)
    · go_ret
      exact ⟨rfl, hb'⟩
    · refine (HC.out _).mono ?_
      rintro e w1 ⟨rfl, hb1⟩
      have HB1 := Lib.hid ((((Below.refl w.heap.size w).alloc (Nat.le_refl _) _).alloc (by simp) _).trans (hb1.mono (by simp; omega)))
      clear hb1
      go_wp2_with (go_at_call 10; refine (known13_any _).mono ?_; rintro e w' ⟨rfl, hb'⟩)
      go_ret
      exact ⟨rfl, HB1.out.trans (hb'.mono HB1.out.size)⟩

set_option maxRecDepth 100000 in
set_option maxHeartbeats 16000000 in
theorem ctx_law1 (a b c d : ByteArray) (ss : Int) (w : World) (x1 : (bits BinOp.and IntKind.i64 ss 1 == 1) = true) (x2 : (bits BinOp.and IntKind.i64 ss 2 == 2) = false) :
    Calls Try.prog 8 #[.string a, .string b, .string c, .string d, .int .i64 ss] w fun e w' => e = .returned (.bool true) ∧ Below w.heap.size w w' := by
  rcases cx_way a a with ⟨h1, h3⟩ | ⟨h1, h2, h3⟩ | ⟨h1, h2, h3⟩ <;> rcases cx_way b d with ⟨k1, k3⟩ | ⟨k1, k2, k3⟩ | ⟨k1, k2, k3⟩
  all_goals first
    | (exfalso; simp at h2; done)
    | (exfalso; simp at k2; done)
    | skip
  all_goals
    have C := fun w => ctx_any a b a d w
    rw [h3, k3] at C
    simp only [Int.reduceAdd] at C
    have HC := Lib.hid C
    clear h3 k3 C
    go_enter Try.func8, Try.ntmps8
    go_wp2_with (go_at_call 10; refine (known13_any _).mono ?_; rintro e w' ⟨rfl, hb'⟩)
    · go_ret
      exact ⟨rfl, hb'⟩
    · refine (HC.out _).mono ?_
      rintro e w1 ⟨rfl, hb1⟩
      have HB1 := Lib.hid ((((Below.refl w.heap.size w).alloc (Nat.le_refl _) _).alloc (by simp) _).trans (hb1.mono (by simp; omega)))
      clear hb1
      go_wp2_with (go_at_call 10; refine (known13_any _).mono ?_; rintro e w' ⟨rfl, hb'⟩)
      go_ret
      exact ⟨rfl, HB1.out.trans (hb'.mono HB1.out.size)⟩

set_option maxRecDepth 100000 in
set_option maxHeartbeats 16000000 in
theorem ctx_law2 (a b c d : ByteArray) (ss : Int) (w : World) (x1 : (bits BinOp.and IntKind.i64 ss 1 == 1) = false) (x2 : (bits BinOp.and IntKind.i64 ss 2 == 2) = true) :
    Calls Try.prog 8 #[.string a, .string b, .string c, .string d, .int .i64 ss] w fun e w' => e = .returned (.bool true) ∧ Below w.heap.size w w' := by
  rcases cx_way a c with ⟨h1, h3⟩ | ⟨h1, h2, h3⟩ | ⟨h1, h2, h3⟩ <;> rcases cx_way b b with ⟨k1, k3⟩ | ⟨k1, k2, k3⟩ | ⟨k1, k2, k3⟩
  all_goals first
    | (exfalso; simp at h2; done)
    | (exfalso; simp at k2; done)
    | skip
  all_goals
    have C := fun w => ctx_any a b c b w
    rw [h3, k3] at C
    simp only [Int.reduceAdd] at C
    have HC := Lib.hid C
    clear h3 k3 C
    go_enter Try.func8, Try.ntmps8
    go_wp2_with (go_at_call 10; refine (known13_any _).mono ?_; rintro e w' ⟨rfl, hb'⟩)
    · go_ret
      exact ⟨rfl, hb'⟩
    · refine (HC.out _).mono ?_
      rintro e w1 ⟨rfl, hb1⟩
      have HB1 := Lib.hid ((((Below.refl w.heap.size w).alloc (Nat.le_refl _) _).alloc (by simp) _).trans (hb1.mono (by simp; omega)))
      clear hb1
      go_wp2_with (go_at_call 10; refine (known13_any _).mono ?_; rintro e w' ⟨rfl, hb'⟩)
      go_ret
      exact ⟨rfl, HB1.out.trans (hb'.mono HB1.out.size)⟩

set_option maxRecDepth 100000 in
set_option maxHeartbeats 16000000 in
theorem ctx_law3 (a b c d : ByteArray) (ss : Int) (w : World) (x1 : (bits BinOp.and IntKind.i64 ss 1 == 1) = false) (x2 : (bits BinOp.and IntKind.i64 ss 2 == 2) = false) :
    Calls Try.prog 8 #[.string a, .string b, .string c, .string d, .int .i64 ss] w fun e w' => e = .returned (.bool true) ∧ Below w.heap.size w w' := by
  rcases cx_way a c with ⟨h1, h3⟩ | ⟨h1, h2, h3⟩ | ⟨h1, h2, h3⟩ <;> rcases cx_way b d with ⟨k1, k3⟩ | ⟨k1, k2, k3⟩ | ⟨k1, k2, k3⟩
  all_goals first
    | (exfalso; simp at h2; done)
    | (exfalso; simp at k2; done)
    | skip
  all_goals
    have C := fun w => ctx_any a b c d w
    rw [h3, k3] at C
    simp only [Int.reduceAdd] at C
    have HC := Lib.hid C
    clear h3 k3 C
    go_enter Try.func8, Try.ntmps8
    go_wp2_with (go_at_call 10; refine (known13_any _).mono ?_; rintro e w' ⟨rfl, hb'⟩)
    · go_ret
      exact ⟨rfl, hb'⟩
    · refine (HC.out _).mono ?_
      rintro e w1 ⟨rfl, hb1⟩
      have HB1 := Lib.hid ((((Below.refl w.heap.size w).alloc (Nat.le_refl _) _).alloc (by simp) _).trans (hb1.mono (by simp; omega)))
      clear hb1
      go_wp2_with (go_at_call 10; refine (known13_any _).mono ?_; rintro e w' ⟨rfl, hb'⟩)
      go_ret
      exact ⟨rfl, HB1.out.trans (hb'.mono HB1.out.size)⟩

theorem walk_ScoreContexts (a b c d : ByteArray) (ss : Int) (w : World) (_h0 : a.size ≤ maxLen) (_h1 : b.size ≤ maxLen) (_h2 : c.size ≤ maxLen) (_h3 : d.size ≤ maxLen) (_h4 : (Lit.int .i64 ss).wf = true) :
    Calls Try.prog 8 #[.string a, .string b, .string c, .string d, .int .i64 ss] w fun e w' => e = .returned (.bool true) ∧ Below w.heap.size w w' := by
  cases x1 : (bits BinOp.and IntKind.i64 ss 1 == 1) <;> cases x2 : (bits BinOp.and IntKind.i64 ss 2 == 2)
  · exact ctx_law3 a b c d ss w x1 x2
  · exact ctx_law2 a b c d ss w x1 x2
  · exact ctx_law1 a b c d ss w x1 x2
  · exact ctx_law0 a b c d ss w x1 x2


end Go.Proofs.Ytiigabojncnipaa
