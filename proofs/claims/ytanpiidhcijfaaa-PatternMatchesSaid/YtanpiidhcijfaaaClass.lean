
/-
  Contracts of package class and of its reference (chapter 1).
-/
import Derived.Test.YtanpiidhcijfaaaChecked
import Derived.Test.YtanpiidhcijfaaaMath1
import Derived.Test.YtanpiidhcijfaaaBase
import Derived.WalkKit
import Derived.WalkLawsBesides
import Derived.WalkSpells
import Derived.Deep.QuietTactic
import Derived.BigQuiet
import Derived.KernelRfl
namespace Go.Proofs.Ytanpiidhcijfaaa
open Go.RowKit

theorem of_any (n : Int) (w : World) (h0 : 0 ≤ n) (h1 : n < 256) :
    Calls Try.prog 58 #[.int .u8 n] w fun e w' => e = .returned (.int .i64 (clsN n)) ∧ w = w' := by
  go_enter Try.func58, Try.ntmps58
  go_wp2
  all_goals (go_ret; refine ⟨ret_int ?_, rfl⟩)
  all_goals (try simp only [beq_iff_eq, beq_eq_false_iff_ne] at *)
  all_goals (unfold clsN; repeat (first | rw [if_pos (by omega)] | rw [if_neg (by omega)]))

theorem cls_any (n : Int) (w : World) (h0 : 0 ≤ n) (h1 : n < 256) :
    Calls Try.prog 52 #[.int .u8 n] w fun e w' => e = .returned (.int .i64 (clsN n)) ∧ w = w' := by
  go_enter Try.func52, Try.ntmps52
  go_wp2
  all_goals (go_ret; refine ⟨ret_int ?_, rfl⟩)
  all_goals (try simp only [beq_iff_eq, beq_eq_false_iff_ne] at *)
  all_goals (unfold clsN; repeat (first | rw [if_pos (by omega)] | rw [if_neg (by omega)]))

end Go.Proofs.Ytanpiidhcijfaaa
