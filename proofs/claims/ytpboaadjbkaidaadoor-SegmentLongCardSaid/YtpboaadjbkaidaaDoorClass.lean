
/-
  Contracts of package class and of its reference (chapter 1).
-/
import Derived.Test.YtpboaadjbkaidaaDoorChecked
import Derived.Test.YtpboaadjbkaidaaDoorMath1
import Derived.Test.YtpboaadjbkaidaaDoorBase
import Derived.WalkKit
import Derived.WalkLawsBesides
import Derived.WalkSpells
import Derived.Deep.QuietTactic
import Derived.BigQuiet
import Derived.KernelRfl
namespace Go.Proofs.YtpboaadjbkaidaaDoor
set_option maxRecDepth 100000
open Go.RowKit

theorem of_any (n : Int) (w : World) (h0 : 0 ≤ n) (h1 : n < 256) :
    Calls Tryd.prog 98 #[.int .u8 n] w fun e w' => e = .returned (.int .i64 (clsN n)) ∧ w = w' := by
  go_enter Tryd.func98, Tryd.ntmps98
  go_wp2
  all_goals (go_ret; refine ⟨ret_int ?_, rfl⟩)
  all_goals (try simp only [beq_iff_eq, beq_eq_false_iff_ne] at *)
  all_goals (unfold clsN; repeat (first | rw [if_pos (by omega)] | rw [if_neg (by omega)]))

theorem cls_any (n : Int) (w : World) (h0 : 0 ≤ n) (h1 : n < 256) :
    Calls Tryd.prog 99 #[.int .u8 n] w fun e w' => e = .returned (.int .i64 (clsN n)) ∧ w = w' := by
  go_enter Tryd.func99, Tryd.ntmps99
  go_wp2
  all_goals (go_ret; refine ⟨ret_int ?_, rfl⟩)
  all_goals (try simp only [beq_iff_eq, beq_eq_false_iff_ne] at *)
  all_goals (unfold clsN; repeat (first | rw [if_pos (by omega)] | rw [if_neg (by omega)]))

end Go.Proofs.YtpboaadjbkaidaaDoor
