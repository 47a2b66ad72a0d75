
/-
  The scanner: sets of letters, what is behind a backslash, one byte inside brackets.
-/
import Derived.Test.YtpboaadjbkaidaaDoorScanA
namespace Go.Proofs.YtpboaadjbkaidaaDoor
set_option maxRecDepth 100000
open Go.RowKit

theorem zero_eq : zeroA = (setC noP).toArray := zero_set
theorem zero_one : zeroA.all (·.oneCell') = true := by rw [zero_eq]; exact setC_one _

set_option maxRecDepth 100000 in
set_option maxHeartbeats 4000000 in
theorem classSet_none (l : Nat) (w : World) (hl : l < 256) (h115 : ¬ bits BinOp.or IntKind.u8 (l : Int) 32 = 115) (h100 : ¬ bits BinOp.or IntKind.u8 (l : Int) 32 = 100) (h108 : ¬ bits BinOp.or IntKind.u8 (l : Int) 32 = 108) (h99 : ¬ bits BinOp.or IntKind.u8 (l : Int) 32 = 99) (h109 : ¬ bits BinOp.or IntKind.u8 (l : Int) 32 = 109) (h117 : ¬ bits BinOp.or IntKind.u8 (l : Int) 32 = 117) :
    Calls Tryd.prog 136 #[.int .u8 l] w fun e w' => e = .returned (.tuple #[.agg (setC noP).toArray, .bool false]) ∧ Below w.heap.size w w' := by
  have b115 : (bits BinOp.or IntKind.u8 (l : Int) 32 == 115) = false := by simpa using h115
  have b100 : (bits BinOp.or IntKind.u8 (l : Int) 32 == 100) = false := by simpa using h100
  have b108 : (bits BinOp.or IntKind.u8 (l : Int) 32 == 108) = false := by simpa using h108
  have b99 : (bits BinOp.or IntKind.u8 (l : Int) 32 == 99) = false := by simpa using h99
  have b109 : (bits BinOp.or IntKind.u8 (l : Int) 32 == 109) = false := by simpa using h109
  have b117 : (bits BinOp.or IntKind.u8 (l : Int) 32 == 117) = false := by simpa using h117
  have HZ1 : Hid (SetIn (w.alloc (.cells #[.int .u8 0, .int .u8 0, .int .u8 0, .int .u8 0, .int .u8 0, .int .u8 0, .int .u8 0, .int .u8 0, .int .u8 0, .int .u8 0, .int .u8 0, .int .u8 0, .int .u8 0, .int .u8 0, .int .u8 0, .int .u8 0, .int .u8 0, .int .u8 0, .int .u8 0, .int .u8 0, .int .u8 0, .int .u8 0, .int .u8 0, .int .u8 0, .int .u8 0, .int .u8 0, .int .u8 0, .int .u8 0, .int .u8 0, .int .u8 0, .int .u8 0, .int .u8 0] 138)) w.heap.size 138 noP) := zero_in w 138
  have HB0 := Lib.hid ((Below.refl w.heap.size w).alloc (Nat.le_refl _) (.cells #[.int .u8 0, .int .u8 0, .int .u8 0, .int .u8 0, .int .u8 0, .int .u8 0, .int .u8 0, .int .u8 0, .int .u8 0, .int .u8 0, .int .u8 0, .int .u8 0, .int .u8 0, .int .u8 0, .int .u8 0, .int .u8 0, .int .u8 0, .int .u8 0, .int .u8 0, .int .u8 0, .int .u8 0, .int .u8 0, .int .u8 0, .int .u8 0, .int .u8 0, .int .u8 0, .int .u8 0, .int .u8 0, .int .u8 0, .int .u8 0, .int .u8 0, .int .u8 0] 138))
  go_enter Tryd.func136, Tryd.ntmps136
  go_upto_region 4 with fail
  generalize w.alloc (.cells #[.int .u8 0, .int .u8 0, .int .u8 0, .int .u8 0, .int .u8 0, .int .u8 0, .int .u8 0, .int .u8 0, .int .u8 0, .int .u8 0, .int .u8 0, .int .u8 0, .int .u8 0, .int .u8 0, .int .u8 0, .int .u8 0, .int .u8 0, .int .u8 0, .int .u8 0, .int .u8 0, .int .u8 0, .int .u8 0, .int .u8 0, .int .u8 0, .int .u8 0, .int .u8 0, .int .u8 0, .int .u8 0, .int .u8 0, .int .u8 0, .int .u8 0, .int .u8 0] 138) = w1 at HZ1 HB0
  go_wp2_with (refine wpList_store_row rfl 138 (.tmp 2) (.tmp 12) rfl (w.heap.size) zeroA rfl rfl 138 (setC noP).toArray HZ1.out (by rw [set_size]; rfl) (by rw [setC_size]; rfl) zero_one ?_; rw [zero_eq])
  exact bodyPost_ret (v := .tuple #[.agg (setC noP).toArray, .bool false]) (res_set_tmp Tryd.results136 _ _ w.heap.size 138 noP _ rfl rfl (HZ1.out.row noP)) rfl ⟨rfl, below_setRow HB0.out (Nat.le_refl _) _⟩

theorem classSet_any (l : Nat) (w : World) (hl : l < 256) :
    Calls Tryd.prog 136 #[.int .u8 l] w fun e w' => e = .returned (.tuple #[.agg (setC ((classP l).getD noP)).toArray, .bool (classP l).isSome]) ∧ Below w.heap.size w w' := by
  by_cases n115 : l = 115
  · subst n115
    exact classSet_115 115 w (by omega) (by decide +kernel)
  by_cases n83 : l = 83
  · subst n83
    exact classSet_115 83 w (by omega) (by decide +kernel)
  by_cases n100 : l = 100
  · subst n100
    exact classSet_100 100 w (by omega) (by decide +kernel)
  by_cases n68 : l = 68
  · subst n68
    exact classSet_100 68 w (by omega) (by decide +kernel)
  by_cases n108 : l = 108
  · subst n108
    exact classSet_108 108 w (by omega) (by decide +kernel)
  by_cases n76 : l = 76
  · subst n76
    exact classSet_108 76 w (by omega) (by decide +kernel)
  by_cases n99 : l = 99
  · subst n99
    exact classSet_99 99 w (by omega) (by decide +kernel)
  by_cases n67 : l = 67
  · subst n67
    exact classSet_99 67 w (by omega) (by decide +kernel)
  by_cases n109 : l = 109
  · subst n109
    exact classSet_109 109 w (by omega) (by decide +kernel)
  by_cases n77 : l = 77
  · subst n77
    exact classSet_109 77 w (by omega) (by decide +kernel)
  by_cases n117 : l = 117
  · subst n117
    exact classSet_117 117 w (by omega) (by decide +kernel)
  by_cases n85 : l = 85
  · subst n85
    exact classSet_117 85 w (by omega) (by decide +kernel)

  have hc : classP l = none := by
    unfold classP
    rw [if_neg n115, if_neg n83, if_neg n100, if_neg n68, if_neg n108, if_neg n76, if_neg n99, if_neg n67, if_neg n109, if_neg n77, if_neg n117, if_neg n85]
  rw [hc]
  have t := or32_tab ⟨l, hl⟩
  simp only at t
  exact classSet_none l w hl (fun e => by rcases t.1 e with e | e <;> contradiction) (fun e => by rcases t.2.1 e with e | e <;> contradiction) (fun e => by rcases t.2.2.1 e with e | e <;> contradiction) (fun e => by rcases t.2.2.2.1 e with e | e <;> contradiction) (fun e => by rcases t.2.2.2.2.1 e with e | e <;> contradiction) (fun e => by rcases t.2.2.2.2.2 e with e | e <;> contradiction)

end Go.Proofs.YtpboaadjbkaidaaDoor
