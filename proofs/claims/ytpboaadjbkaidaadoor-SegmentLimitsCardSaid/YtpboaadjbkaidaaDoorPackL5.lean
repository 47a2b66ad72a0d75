/-
  Contracts and plain laws that this claim leans on, part 5.
-/
import Derived.Test.YtpboaadjbkaidaaDoorPackL1
import Derived.Test.YtpboaadjbkaidaaDoorPackL2
import Derived.Deep.LoopGhost
import Derived.Deep.DeepCutAuto
import Derived.Deep.CutBlock
import Derived.Test.YtpboaadjbkaidaaDoorPackL4
set_option linter.unusedVariables false
set_option linter.unusedSimpArgs false
namespace Go.Proofs.YtpboaadjbkaidaaDoor
set_option maxRecDepth 100000
open Go.RowKit

theorem rset_size : (Tryd.prog.info? 24).map (·.size) = some 32 := by kernel_rfl
theorem rres_set_tmp {fn : Func} {p u : Tmp} (h : fn.results = #[.cell p 24, .tmp u]) (tmps : Array Value) (w : World) (g : Nat) (t : TypeId) (q : Nat → Bool) (v : Value) (hp : tmps.getD p undef = .pointer (some ⟨g, 0, none⟩)) (hu : tmps.getD u undef = v) (hs : SetIn w g t q) :
    (results fn tmps).run Tryd.prog w = .ok (.tuple #[.agg (setC q).toArray, v]) w := by
  rw [results_cell_tmp h, hp, hu]
  have hl := run_loadVar_row (P := Tryd.prog) w g t 24 (setC q).toArray (0, 0) _ hs Tryd.underlying24 rfl (by rw [rset_size, setC_size])
  simp [asAddr, Result.andThen, hl]

/-- What the letters s, d, l, c, m stand for, the first k of them. -/
def wantK (low k : Nat) : Nat :=
  if 4 < k ∧ low = 109 then 5 else if 3 < k ∧ low = 99 then 1 else if 2 < k ∧ low = 108 then 4 else if 1 < k ∧ low = 100 then 3 else if 0 < k ∧ low = 115 then 2 else 0
def lowN (c : Nat) : Nat := if 65 ≤ c ∧ c ≤ 90 then c + 32 else c
/-- Does the reference know the letter. -/
def okL (c : Nat) : Bool := !(wantK (lowN c) 5 == 0 && lowN c != 117)
theorem wantK_lt (low k : Nat) : wantK low k < 6 := by
  unfold wantK
  repeat' split
  all_goals omega
theorem wantK_hit0 (low : Nat) (h : low = 115) : wantK low 1 = 2 := by subst h; decide
theorem wantK_miss0 (low : Nat) (h : ¬ low = 115) : wantK low 1 = wantK low 0 := by unfold wantK; simp [h]
theorem wantK_hit1 (low : Nat) (h : low = 100) : wantK low 2 = 3 := by subst h; decide
theorem wantK_miss1 (low : Nat) (h : ¬ low = 100) : wantK low 2 = wantK low 1 := by unfold wantK; simp [h]
theorem wantK_hit2 (low : Nat) (h : low = 108) : wantK low 3 = 4 := by subst h; decide
theorem wantK_miss2 (low : Nat) (h : ¬ low = 108) : wantK low 3 = wantK low 2 := by unfold wantK; simp [h]
theorem wantK_hit3 (low : Nat) (h : low = 99) : wantK low 4 = 1 := by subst h; decide
theorem wantK_miss3 (low : Nat) (h : ¬ low = 99) : wantK low 4 = wantK low 3 := by unfold wantK; simp [h]
theorem wantK_hit4 (low : Nat) (h : low = 109) : wantK low 5 = 5 := by subst h; decide
theorem wantK_miss4 (low : Nat) (h : ¬ low = 109) : wantK low 5 = wantK low 4 := by unfold wantK; simp [h]
theorem class_none : ∀ c : Fin 256, okL c.val = (classP c.val).isSome := by decide +kernel
def HeadR (low : Nat) (tv iv : Value) : Prop := (iv = .int .i64 0 ∧ tv = .int .i64 (wantK low 0 : Nat)) ∨ (iv = .int .i64 1 ∧ tv = .int .i64 (wantK low 1 : Nat)) ∨ (iv = .int .i64 2 ∧ tv = .int .i64 (wantK low 2 : Nat)) ∨ (iv = .int .i64 3 ∧ tv = .int .i64 (wantK low 3 : Nat)) ∨ (iv = .int .i64 4 ∧ tv = .int .i64 (wantK low 4 : Nat)) ∨ (iv = .int .i64 5 ∧ tv = .int .i64 (wantK low 5 : Nat))
def setL (c : Nat) : Nat → Bool := if c = lowN c then kindP (wantK (lowN c) 5 : Nat) else notP (kindP (wantK (lowN c) 5 : Nat))
theorem class_some (c : Nat) (hc : c < 256) (h : okL c = true) : classP c = some (setL c) := by
  have hs := class_none ⟨c, hc⟩
  simp only [h] at hs
  unfold classP at hs ⊢
  have e : c = 115 ∨ c = 83 ∨ c = 100 ∨ c = 68 ∨ c = 108 ∨ c = 76 ∨ c = 99 ∨ c = 67 ∨ c = 109 ∨ c = 77 ∨ c = 117 ∨ c = 85 := by
    refine Decidable.byContradiction fun hn => ?_
    simp only [not_or] at hn
    simp [hn] at hs
  rcases e with rfl | rfl | rfl | rfl | rfl | rfl | rfl | rfl | rfl | rfl | rfl | rfl <;> rfl

set_option maxRecDepth 100000 in
set_option maxHeartbeats 4000000 in
theorem rclass_any (c : Nat) (w : World) (hc : c < 256) :
    Calls Tryd.prog 123 #[.int .u8 c] w fun e w' => (∃ p, (okL c = true → p = setL c) ∧ e = .returned (.tuple #[.agg (setC p).toArray, .bool (okL c)])) ∧ Below w.heap.size w w' := by
  have HA0 : Hid (SetIn (((w.alloc (.cells #[.int .u8 0, .int .u8 0, .int .u8 0, .int .u8 0, .int .u8 0, .int .u8 0, .int .u8 0, .int .u8 0, .int .u8 0, .int .u8 0, .int .u8 0, .int .u8 0, .int .u8 0, .int .u8 0, .int .u8 0, .int .u8 0, .int .u8 0, .int .u8 0, .int .u8 0, .int .u8 0, .int .u8 0, .int .u8 0, .int .u8 0, .int .u8 0, .int .u8 0, .int .u8 0, .int .u8 0, .int .u8 0, .int .u8 0, .int .u8 0, .int .u8 0, .int .u8 0] 24)).alloc (.cells #[.int .u8 0, .int .u8 0, .int .u8 0, .int .u8 0, .int .u8 0, .int .u8 0, .int .u8 0, .int .u8 0, .int .u8 0, .int .u8 0, .int .u8 0, .int .u8 0, .int .u8 0, .int .u8 0, .int .u8 0, .int .u8 0, .int .u8 0, .int .u8 0, .int .u8 0, .int .u8 0, .int .u8 0, .int .u8 0, .int .u8 0, .int .u8 0, .int .u8 0, .int .u8 0, .int .u8 0, .int .u8 0, .int .u8 0, .int .u8 0, .int .u8 0, .int .u8 0] 24)).alloc (.cells #[.int .i64 2, .int .i64 3, .int .i64 4, .int .i64 1, .int .i64 5] 3)) w.heap.size 24 noP) := ((zero_in w 24).keep (Below.heap_alloc _ _ _ (by simp))).keep (Below.heap_alloc _ _ _ (by simp; omega))
  have HS0 : Hid (SetIn (((w.alloc (.cells #[.int .u8 0, .int .u8 0, .int .u8 0, .int .u8 0, .int .u8 0, .int .u8 0, .int .u8 0, .int .u8 0, .int .u8 0, .int .u8 0, .int .u8 0, .int .u8 0, .int .u8 0, .int .u8 0, .int .u8 0, .int .u8 0, .int .u8 0, .int .u8 0, .int .u8 0, .int .u8 0, .int .u8 0, .int .u8 0, .int .u8 0, .int .u8 0, .int .u8 0, .int .u8 0, .int .u8 0, .int .u8 0, .int .u8 0, .int .u8 0, .int .u8 0, .int .u8 0] 24)).alloc (.cells #[.int .u8 0, .int .u8 0, .int .u8 0, .int .u8 0, .int .u8 0, .int .u8 0, .int .u8 0, .int .u8 0, .int .u8 0, .int .u8 0, .int .u8 0, .int .u8 0, .int .u8 0, .int .u8 0, .int .u8 0, .int .u8 0, .int .u8 0, .int .u8 0, .int .u8 0, .int .u8 0, .int .u8 0, .int .u8 0, .int .u8 0, .int .u8 0, .int .u8 0, .int .u8 0, .int .u8 0, .int .u8 0, .int .u8 0, .int .u8 0, .int .u8 0, .int .u8 0] 24)).alloc (.cells #[.int .i64 2, .int .i64 3, .int .i64 4, .int .i64 1, .int .i64 5] 3)) (w.heap.size + 1) 24 noP) := by
    have h := zero_in (w.alloc (.cells #[.int .u8 0, .int .u8 0, .int .u8 0, .int .u8 0, .int .u8 0, .int .u8 0, .int .u8 0, .int .u8 0, .int .u8 0, .int .u8 0, .int .u8 0, .int .u8 0, .int .u8 0, .int .u8 0, .int .u8 0, .int .u8 0, .int .u8 0, .int .u8 0, .int .u8 0, .int .u8 0, .int .u8 0, .int .u8 0, .int .u8 0, .int .u8 0, .int .u8 0, .int .u8 0, .int .u8 0, .int .u8 0, .int .u8 0, .int .u8 0, .int .u8 0, .int .u8 0] 24)) 24
    rw [show (w.alloc (.cells #[.int .u8 0, .int .u8 0, .int .u8 0, .int .u8 0, .int .u8 0, .int .u8 0, .int .u8 0, .int .u8 0, .int .u8 0, .int .u8 0, .int .u8 0, .int .u8 0, .int .u8 0, .int .u8 0, .int .u8 0, .int .u8 0, .int .u8 0, .int .u8 0, .int .u8 0, .int .u8 0, .int .u8 0, .int .u8 0, .int .u8 0, .int .u8 0, .int .u8 0, .int .u8 0, .int .u8 0, .int .u8 0, .int .u8 0, .int .u8 0, .int .u8 0, .int .u8 0] 24)).heap.size = w.heap.size + 1 by simp] at h
    exact h.keep (Below.heap_alloc _ _ _ (by simp))
  have HB0 := Lib.hid ((((Below.refl w.heap.size w).alloc (Nat.le_refl _) (.cells #[.int .u8 0, .int .u8 0, .int .u8 0, .int .u8 0, .int .u8 0, .int .u8 0, .int .u8 0, .int .u8 0, .int .u8 0, .int .u8 0, .int .u8 0, .int .u8 0, .int .u8 0, .int .u8 0, .int .u8 0, .int .u8 0, .int .u8 0, .int .u8 0, .int .u8 0, .int .u8 0, .int .u8 0, .int .u8 0, .int .u8 0, .int .u8 0, .int .u8 0, .int .u8 0, .int .u8 0, .int .u8 0, .int .u8 0, .int .u8 0, .int .u8 0, .int .u8 0] 24)).alloc (by simp) (.cells #[.int .u8 0, .int .u8 0, .int .u8 0, .int .u8 0, .int .u8 0, .int .u8 0, .int .u8 0, .int .u8 0, .int .u8 0, .int .u8 0, .int .u8 0, .int .u8 0, .int .u8 0, .int .u8 0, .int .u8 0, .int .u8 0, .int .u8 0, .int .u8 0, .int .u8 0, .int .u8 0, .int .u8 0, .int .u8 0, .int .u8 0, .int .u8 0, .int .u8 0, .int .u8 0, .int .u8 0, .int .u8 0, .int .u8 0, .int .u8 0, .int .u8 0, .int .u8 0] 24)).alloc (by simp; omega) (.cells #[.int .i64 2, .int .i64 3, .int .i64 4, .int .i64 1, .int .i64 5] 3))
  have HK0 : Hid ((((w.alloc (.cells #[.int .u8 0, .int .u8 0, .int .u8 0, .int .u8 0, .int .u8 0, .int .u8 0, .int .u8 0, .int .u8 0, .int .u8 0, .int .u8 0, .int .u8 0, .int .u8 0, .int .u8 0, .int .u8 0, .int .u8 0, .int .u8 0, .int .u8 0, .int .u8 0, .int .u8 0, .int .u8 0, .int .u8 0, .int .u8 0, .int .u8 0, .int .u8 0, .int .u8 0, .int .u8 0, .int .u8 0, .int .u8 0, .int .u8 0, .int .u8 0, .int .u8 0, .int .u8 0] 24)).alloc (.cells #[.int .u8 0, .int .u8 0, .int .u8 0, .int .u8 0, .int .u8 0, .int .u8 0, .int .u8 0, .int .u8 0, .int .u8 0, .int .u8 0, .int .u8 0, .int .u8 0, .int .u8 0, .int .u8 0, .int .u8 0, .int .u8 0, .int .u8 0, .int .u8 0, .int .u8 0, .int .u8 0, .int .u8 0, .int .u8 0, .int .u8 0, .int .u8 0, .int .u8 0, .int .u8 0, .int .u8 0, .int .u8 0, .int .u8 0, .int .u8 0, .int .u8 0, .int .u8 0] 24)).alloc (.cells #[.int .i64 2, .int .i64 3, .int .i64 4, .int .i64 1, .int .i64 5] 3)).heap[w.heap.size + 2]? = some (.cells #[.int .i64 2, .int .i64 3, .int .i64 4, .int .i64 1, .int .i64 5] 3)) := by
    have h := heap_alloc_new ((w.alloc (.cells #[.int .u8 0, .int .u8 0, .int .u8 0, .int .u8 0, .int .u8 0, .int .u8 0, .int .u8 0, .int .u8 0, .int .u8 0, .int .u8 0, .int .u8 0, .int .u8 0, .int .u8 0, .int .u8 0, .int .u8 0, .int .u8 0, .int .u8 0, .int .u8 0, .int .u8 0, .int .u8 0, .int .u8 0, .int .u8 0, .int .u8 0, .int .u8 0, .int .u8 0, .int .u8 0, .int .u8 0, .int .u8 0, .int .u8 0, .int .u8 0, .int .u8 0, .int .u8 0] 24)).alloc (.cells #[.int .u8 0, .int .u8 0, .int .u8 0, .int .u8 0, .int .u8 0, .int .u8 0, .int .u8 0, .int .u8 0, .int .u8 0, .int .u8 0, .int .u8 0, .int .u8 0, .int .u8 0, .int .u8 0, .int .u8 0, .int .u8 0, .int .u8 0, .int .u8 0, .int .u8 0, .int .u8 0, .int .u8 0, .int .u8 0, .int .u8 0, .int .u8 0, .int .u8 0, .int .u8 0, .int .u8 0, .int .u8 0, .int .u8 0, .int .u8 0, .int .u8 0, .int .u8 0] 24)) (.cells #[.int .i64 2, .int .i64 3, .int .i64 4, .int .i64 1, .int .i64 5] 3)
    rw [show ((w.alloc (.cells #[.int .u8 0, .int .u8 0, .int .u8 0, .int .u8 0, .int .u8 0, .int .u8 0, .int .u8 0, .int .u8 0, .int .u8 0, .int .u8 0, .int .u8 0, .int .u8 0, .int .u8 0, .int .u8 0, .int .u8 0, .int .u8 0, .int .u8 0, .int .u8 0, .int .u8 0, .int .u8 0, .int .u8 0, .int .u8 0, .int .u8 0, .int .u8 0, .int .u8 0, .int .u8 0, .int .u8 0, .int .u8 0, .int .u8 0, .int .u8 0, .int .u8 0, .int .u8 0] 24)).alloc (.cells #[.int .u8 0, .int .u8 0, .int .u8 0, .int .u8 0, .int .u8 0, .int .u8 0, .int .u8 0, .int .u8 0, .int .u8 0, .int .u8 0, .int .u8 0, .int .u8 0, .int .u8 0, .int .u8 0, .int .u8 0, .int .u8 0, .int .u8 0, .int .u8 0, .int .u8 0, .int .u8 0, .int .u8 0, .int .u8 0, .int .u8 0, .int .u8 0, .int .u8 0, .int .u8 0, .int .u8 0, .int .u8 0, .int .u8 0, .int .u8 0, .int .u8 0, .int .u8 0] 24)).heap.size = w.heap.size + 2 by simp] at h
    exact h
  go_enter Tryd.func123, Tryd.ntmps123
  by_cases hup : 65 ≤ c ∧ c ≤ 90
  · have hu1 : (65 : Int) ≤ (c : Int) := by omega
    have hu2 : (c : Int) ≤ 90 := by omega
    obtain ⟨low, HL⟩ : ∃ low, Hid (low = lowN c) := ⟨_, rfl⟩
    have hl1 : low < c + 33 := by have := HL.out; unfold lowN at this; rw [if_pos hup] at this; omega
    have hl2 : c + 32 ≤ low := by have := HL.out; unfold lowN at this; rw [if_pos hup] at this; omega
    have tcl : ((c : Int) == (low : Int)) = false := beq_eq_false_iff_ne.2 (by omega)
    clear hup
    go_wp2_with fail
    rw [show (c : Int) + 32 = (low : Int) by omega]
    generalize ((w.alloc (.cells #[.int .u8 0, .int .u8 0, .int .u8 0, .int .u8 0, .int .u8 0, .int .u8 0, .int .u8 0, .int .u8 0, .int .u8 0, .int .u8 0, .int .u8 0, .int .u8 0, .int .u8 0, .int .u8 0, .int .u8 0, .int .u8 0, .int .u8 0, .int .u8 0, .int .u8 0, .int .u8 0, .int .u8 0, .int .u8 0, .int .u8 0, .int .u8 0, .int .u8 0, .int .u8 0, .int .u8 0, .int .u8 0, .int .u8 0, .int .u8 0, .int .u8 0, .int .u8 0] 24)).alloc (.cells #[.int .u8 0, .int .u8 0, .int .u8 0, .int .u8 0, .int .u8 0, .int .u8 0, .int .u8 0, .int .u8 0, .int .u8 0, .int .u8 0, .int .u8 0, .int .u8 0, .int .u8 0, .int .u8 0, .int .u8 0, .int .u8 0, .int .u8 0, .int .u8 0, .int .u8 0, .int .u8 0, .int .u8 0, .int .u8 0, .int .u8 0, .int .u8 0, .int .u8 0, .int .u8 0, .int .u8 0, .int .u8 0, .int .u8 0, .int .u8 0, .int .u8 0, .int .u8 0] 24)).alloc (.cells #[.int .i64 2, .int .i64 3, .int .i64 4, .int .i64 1, .int .i64 5] 3) = w1 at HA0 HS0 HB0 HK0
    have q0 : w1.cell? ⟨w.heap.size + 2, 0, none⟩ = some (.int .i64 2) := by rw [cell_of_row _ _ _ _ _ _ HK0.out]; rfl
    have q1 : w1.cell? ⟨w.heap.size + 2, 1, none⟩ = some (.int .i64 3) := by rw [cell_of_row _ _ _ _ _ _ HK0.out]; rfl
    have q2 : w1.cell? ⟨w.heap.size + 2, 2, none⟩ = some (.int .i64 4) := by rw [cell_of_row _ _ _ _ _ _ HK0.out]; rfl
    have q3 : w1.cell? ⟨w.heap.size + 2, 3, none⟩ = some (.int .i64 1) := by rw [cell_of_row _ _ _ _ _ _ HK0.out]; rfl
    have q4 : w1.cell? ⟨w.heap.size + 2, 4, none⟩ = some (.int .i64 5) := by rw [cell_of_row _ _ _ _ _ _ HK0.out]; rfl
    have kb0 : ∀ h, ((⟨#[115, 100, 108, 99, 109]⟩ : ByteArray)[0]'h).toNat = 115 := fun _ => rfl
    have kb1 : ∀ h, ((⟨#[115, 100, 108, 99, 109]⟩ : ByteArray)[1]'h).toNat = 100 := fun _ => rfl
    have kb2 : ∀ h, ((⟨#[115, 100, 108, 99, 109]⟩ : ByteArray)[2]'h).toNat = 108 := fun _ => rfl
    have kb3 : ∀ h, ((⟨#[115, 100, 108, 99, 109]⟩ : ByteArray)[3]'h).toNat = 99 := fun _ => rfl
    have kb4 : ∀ h, ((⟨#[115, 100, 108, 99, 109]⟩ : ByteArray)[4]'h).toNat = 109 := fun _ => rfl
    clear HK0
    go_loop [7, 23] (fun tv iv => HeadR low tv iv) (fun _ iv => 5 - (intOf iv).toNat)
    case atStart => exact .inl ⟨rfl, rfl⟩
    case round =>
      unfold HeadR at hrel
      rcases hrel with ⟨rfl, rfl⟩ | ⟨rfl, rfl⟩ | ⟨rfl, rfl⟩ | ⟨rfl, rfl⟩ | ⟨rfl, rfl⟩ | ⟨rfl, rfl⟩
      · by_cases hl : low = 115
        · have tl : ((115 : Int) == (low : Int)) = true := beq_iff_eq.2 (by omega)
          have HE := Lib.hid (wantK_hit0 low hl)
          clear hl
          go_wp2_with fail
          exact ⟨.inr (.inl ⟨rfl, by rw [HE.out]; rfl⟩), by simp [intOf]⟩
        · have tl : ((115 : Int) == (low : Int)) = false := beq_eq_false_iff_ne.2 (by omega)
          have HE := Lib.hid (wantK_miss0 low hl)
          clear hl
          go_wp2_with fail
          exact ⟨.inr (.inl ⟨rfl, by rw [HE.out]⟩), by simp [intOf]⟩
      · by_cases hl : low = 100
        · have tl : ((100 : Int) == (low : Int)) = true := beq_iff_eq.2 (by omega)
          have HE := Lib.hid (wantK_hit1 low hl)
          clear hl
          go_wp2_with fail
          exact ⟨.inr (.inr (.inl ⟨rfl, by rw [HE.out]; rfl⟩)), by simp [intOf]⟩
        · have tl : ((100 : Int) == (low : Int)) = false := beq_eq_false_iff_ne.2 (by omega)
          have HE := Lib.hid (wantK_miss1 low hl)
          clear hl
          go_wp2_with fail
          exact ⟨.inr (.inr (.inl ⟨rfl, by rw [HE.out]⟩)), by simp [intOf]⟩
      · by_cases hl : low = 108
        · have tl : ((108 : Int) == (low : Int)) = true := beq_iff_eq.2 (by omega)
          have HE := Lib.hid (wantK_hit2 low hl)
          clear hl
          go_wp2_with fail
          exact ⟨.inr (.inr (.inr (.inl ⟨rfl, by rw [HE.out]; rfl⟩))), by simp [intOf]⟩
        · have tl : ((108 : Int) == (low : Int)) = false := beq_eq_false_iff_ne.2 (by omega)
          have HE := Lib.hid (wantK_miss2 low hl)
          clear hl
          go_wp2_with fail
          exact ⟨.inr (.inr (.inr (.inl ⟨rfl, by rw [HE.out]⟩))), by simp [intOf]⟩
      · by_cases hl : low = 99
        · have tl : ((99 : Int) == (low : Int)) = true := beq_iff_eq.2 (by omega)
          have HE := Lib.hid (wantK_hit3 low hl)
          clear hl
          go_wp2_with fail
          exact ⟨.inr (.inr (.inr (.inr (.inl ⟨rfl, by rw [HE.out]; rfl⟩)))), by simp [intOf]⟩
        · have tl : ((99 : Int) == (low : Int)) = false := beq_eq_false_iff_ne.2 (by omega)
          have HE := Lib.hid (wantK_miss3 low hl)
          clear hl
          go_wp2_with fail
          exact ⟨.inr (.inr (.inr (.inr (.inl ⟨rfl, by rw [HE.out]⟩)))), by simp [intOf]⟩
      · by_cases hl : low = 109
        · have tl : ((109 : Int) == (low : Int)) = true := beq_iff_eq.2 (by omega)
          have HE := Lib.hid (wantK_hit4 low hl)
          clear hl
          go_wp2_with fail
          exact ⟨.inr (.inr (.inr (.inr (.inr (⟨rfl, by rw [HE.out]; rfl⟩))))), by simp [intOf]⟩
        · have tl : ((109 : Int) == (low : Int)) = false := beq_eq_false_iff_ne.2 (by omega)
          have HE := Lib.hid (wantK_miss4 low hl)
          clear hl
          go_wp2_with fail
          exact ⟨.inr (.inr (.inr (.inr (.inr (⟨rfl, by rw [HE.out]⟩))))), by simp [intOf]⟩
      · skip
        obtain ⟨want, HW⟩ : ∃ n, Hid (n = wantK low 5) := ⟨_, rfl⟩
        rw [← HW.out]
        have hw5 : want < 6 := by have := HW.out; have := wantK_lt low 5; omega
        by_cases hz : want = 0
        · have tz : ((want : Int) == 0) = true := beq_iff_eq.2 (by omega)
          have tn : ((want : Int) != 0) = false := bne_eq_false_iff_eq.2 (by omega)
          by_cases h117 : low = 117
          · have t117 : ((low : Int) != 117) = false := bne_eq_false_iff_eq.2 (by omega)
            have HP : Hid (∀ k, setL c k = notP (kindP (want : Int)) k) := fun k => by
              unfold setL
              rw [← HL.out, ← HW.out]
              rw [if_neg (by omega)]
            have HOK : Hid (okL c = true) := by
              show _ = _
              unfold okL
              rw [← HL.out, ← HW.out]
              rw [hz]; simp [h117]
            have hz1 : want < 1 := by omega
            clear hz
            clear h117
            have HU : Hid (SetIn w1 (w.heap.size + 1) 24 (uptoP (setL c) 0)) := HS0.out.congr (upto_zero _)
            go_wp2_with fail
            go_loopw [10] (fun kv wr => ∃ k : Nat, k ≤ 256 ∧ kv = .int .i64 k ∧ Hid (SetIn wr w.heap.size 24 noP) ∧ Hid (SetIn wr (w.heap.size + 1) 24 (uptoP (setL c) k)) ∧ Hid (Below w.heap.size w wr)) (fun kv _ => 256 - (intOf kv).toNat)
            case atStart => exact ⟨0, by omega, rfl, HA0.out, HU.out, HB0.out⟩
            case round =>
              clear HA0 HS0 HU HB0 q0 q1 q2 q3 q4
              obtain ⟨k, hk, rfl, HA, HS, HB⟩ := hrel
              by_cases hkl : k < 256
              · have ec : IntKind.u8.wrap (k : Int) = (k : Int) := by rw [IntKind.wrap_u8]; omega
                by_cases h65 : 65 ≤ k
                · have h65i : (65 : Int) ≤ (k : Int) := by omega
                  by_cases h90 : k ≤ 90
                  · have h90i : (k : Int) ≤ 90 := by omega
                    have hkp : kindP (want : Int) k = true := by unfold kindP; rw [if_pos (by omega)]; exact decide_eq_true ⟨h65, h90⟩
                    have hp : setL c k = false := by rw [HP.out]; unfold notP; rw [hkp]; rfl
                    have HS2 := Lib.hid (HS.out.congr (upto_out _ k hp))
                    go_wp2_with (go_at_call 99; refine (cls_any _ _ (by omega) (by omega)).mono ?_; rintro e w' ⟨rfl, rfl⟩)
                    exact ⟨⟨k + 1, by omega, by go_num, HA.out, HS2.out, HB.out⟩, by simp [intOf]; try omega⟩
                  · have h90i : ¬ (k : Int) ≤ 90 := by omega
                    have hkp : kindP (want : Int) k = false := by unfold kindP; rw [if_pos (by omega)]; exact decide_eq_false (fun h => h90 h.2)
                    have hp : setL c k = true := by rw [HP.out]; unfold notP; rw [hkp]; rfl
                    go_wp2_with (first
                      | (go_at_call 99; refine (cls_any _ _ (by omega) (by omega)).mono ?_; rintro e w' ⟨rfl, rfl⟩)
                      | (go_at_call 124; refine (put_any _ (w.heap.size + 1) k _ _ (by exact HS.out) hkl).mono ?_; rintro e w2 ⟨rfl, hs2, ho2⟩))
                    have HS2 := Lib.hid (hs2.congr (upto_in _ k hp))
                    have HA2 := Lib.hid (HA.out.keep (ho2.block _ HA.out.lt (by omega)))
                    have HB2 := Lib.hid (HB.out.trans (ho2.below (B := w.heap.size) (Nat.le_succ _) HB.out.size))
                    exact ⟨⟨k + 1, by omega, by go_num, HA2.out, HS2.out, HB2.out⟩, by simp [intOf]; try omega⟩
                · have h65i : ¬ (65 : Int) ≤ (k : Int) := by omega
                  have hkp : kindP (want : Int) k = false := by unfold kindP; rw [if_pos (by omega)]; exact decide_eq_false (fun h => h65 h.1)
                  have hp : setL c k = true := by rw [HP.out]; unfold notP; rw [hkp]; rfl
                  go_wp2_with (first
                    | (go_at_call 99; refine (cls_any _ _ (by omega) (by omega)).mono ?_; rintro e w' ⟨rfl, rfl⟩)
                    | (go_at_call 124; refine (put_any _ (w.heap.size + 1) k _ _ (by exact HS.out) hkl).mono ?_; rintro e w2 ⟨rfl, hs2, ho2⟩))
                  have HS2 := Lib.hid (hs2.congr (upto_in _ k hp))
                  have HA2 := Lib.hid (HA.out.keep (ho2.block _ HA.out.lt (by omega)))
                  have HB2 := Lib.hid (HB.out.trans (ho2.below (B := w.heap.size) (Nat.le_succ _) HB.out.size))
                  exact ⟨⟨k + 1, by omega, by go_num, HA2.out, HS2.out, HB2.out⟩, by simp [intOf]; try omega⟩
              · obtain rfl : k = 256 := by omega
                have HS2 : Hid (SetIn wr (w.heap.size + 1) 24 (setL c)) := HS.out.congr (upto_all _)
                go_wp2_with (first
                  | (refine wpList_load_row rfl 24 (.tmp 4) rfl ((w.heap.size + 1)) rfl 24 (setC (setL c)).toArray (0, 0) _ HS2.out Tryd.underlying24 rfl (by rw [rset_size, setC_size]) ?_)
                  | (refine wpList_store_row rfl 24 (.tmp 2) (.tmp 75) rfl (w.heap.size) (setC (setL c)).toArray rfl rfl 24 (setC noP).toArray HA.out (by rw [rset_size, setC_size]) (by simp only [setC_size]) (setC_one _) ?_))
                exact bodyPost_ret (v := .tuple #[.agg (setC (setL c)).toArray, .bool true]) (rres_set_tmp Tryd.results123 _ _ w.heap.size 24 (setL c) _ rfl rfl (HA.out.row (setL c))) rfl ⟨⟨setL c, fun _ => rfl, by rw [HOK.out]⟩, below_setRow HB.out (Nat.le_refl _) _⟩
          · have t117 : ((low : Int) != 117) = true := bne_iff_ne.2 (by omega)
            have HOK : Hid (okL c = false) := by
              show _ = _
              unfold okL
              rw [← HL.out, ← HW.out, hz]
              simp [h117]
            clear hz
            go_wp2_with (first
              | (refine wpList_load_row rfl 24 (.tmp 4) rfl ((w.heap.size + 1)) rfl 24 (setC noP).toArray (0, 0) _ HS0.out Tryd.underlying24 rfl (by rw [rset_size, setC_size]) ?_)
              | (refine wpList_store_row rfl 24 (.tmp 2) (.tmp 41) rfl (w.heap.size) (setC noP).toArray rfl rfl 24 (setC noP).toArray HA0.out (by rw [rset_size, setC_size]) (by simp only [setC_size]) (setC_one _) ?_))
            exact bodyPost_ret (v := .tuple #[.agg (setC noP).toArray, .bool false]) (rres_set_tmp Tryd.results123 _ _ w.heap.size 24 noP _ rfl rfl (HA0.out.row noP)) rfl ⟨⟨noP, fun h => by rw [HOK.out] at h; exact absurd h Bool.false_ne_true, by rw [HOK.out]⟩, below_setRow HB0.out (Nat.le_refl _) _⟩
        · have tz : ((want : Int) == 0) = false := beq_eq_false_iff_ne.2 (by omega)
          have tn : ((want : Int) != 0) = true := bne_iff_ne.2 (by omega)
          have HP : Hid (∀ k, setL c k = notP (kindP (want : Int)) k) := fun k => by
            unfold setL
            rw [← HL.out, ← HW.out]
            rw [if_neg (by omega)]
          have HOK : Hid (okL c = true) := by
            show _ = _
            unfold okL
            rw [← HL.out, ← HW.out]
            simp [hz]
          have hz1 : 0 < want := by omega
          clear hz
          skip
          have HU : Hid (SetIn w1 (w.heap.size + 1) 24 (uptoP (setL c) 0)) := HS0.out.congr (upto_zero _)
          go_wp2_with fail
          go_loopw [10] (fun kv wr => ∃ k : Nat, k ≤ 256 ∧ kv = .int .i64 k ∧ Hid (SetIn wr w.heap.size 24 noP) ∧ Hid (SetIn wr (w.heap.size + 1) 24 (uptoP (setL c) k)) ∧ Hid (Below w.heap.size w wr)) (fun kv _ => 256 - (intOf kv).toNat)
          case atStart => exact ⟨0, by omega, rfl, HA0.out, HU.out, HB0.out⟩
          case round =>
            clear HA0 HS0 HU HB0 q0 q1 q2 q3 q4
            obtain ⟨k, hk, rfl, HA, HS, HB⟩ := hrel
            by_cases hkl : k < 256
            · have ec : IntKind.u8.wrap (k : Int) = (k : Int) := by rw [IntKind.wrap_u8]; omega
              by_cases hcl : clsN (k : Int) = (want : Int)
              · have tcl : (clsN (k : Int) == (want : Int)) = true := beq_iff_eq.2 hcl
                have hkp : kindP (want : Int) k = true := by unfold kindP; rw [if_neg (by omega)]; exact decide_eq_true hcl
                clear hcl
                have hp : setL c k = false := by rw [HP.out]; unfold notP; rw [hkp]; rfl
                have HS2 := Lib.hid (HS.out.congr (upto_out _ k hp))
                go_wp2_with (go_at_call 99; refine (cls_any _ _ (by omega) (by omega)).mono ?_; rintro e w' ⟨rfl, rfl⟩)
                exact ⟨⟨k + 1, by omega, by go_num, HA.out, HS2.out, HB.out⟩, by simp [intOf]; try omega⟩
              · have tcl : (clsN (k : Int) == (want : Int)) = false := beq_eq_false_iff_ne.2 hcl
                have hkp : kindP (want : Int) k = false := by unfold kindP; rw [if_neg (by omega)]; exact decide_eq_false hcl
                clear hcl
                have hp : setL c k = true := by rw [HP.out]; unfold notP; rw [hkp]; rfl
                go_wp2_with (first
                  | (go_at_call 99; refine (cls_any _ _ (by omega) (by omega)).mono ?_; rintro e w' ⟨rfl, rfl⟩)
                  | (go_at_call 124; refine (put_any _ (w.heap.size + 1) k _ _ (by exact HS.out) hkl).mono ?_; rintro e w2 ⟨rfl, hs2, ho2⟩))
                have HS2 := Lib.hid (hs2.congr (upto_in _ k hp))
                have HA2 := Lib.hid (HA.out.keep (ho2.block _ HA.out.lt (by omega)))
                have HB2 := Lib.hid (HB.out.trans (ho2.below (B := w.heap.size) (Nat.le_succ _) HB.out.size))
                exact ⟨⟨k + 1, by omega, by go_num, HA2.out, HS2.out, HB2.out⟩, by simp [intOf]; try omega⟩
            · obtain rfl : k = 256 := by omega
              have HS2 : Hid (SetIn wr (w.heap.size + 1) 24 (setL c)) := HS.out.congr (upto_all _)
              go_wp2_with (first
                | (refine wpList_load_row rfl 24 (.tmp 4) rfl ((w.heap.size + 1)) rfl 24 (setC (setL c)).toArray (0, 0) _ HS2.out Tryd.underlying24 rfl (by rw [rset_size, setC_size]) ?_)
                | (refine wpList_store_row rfl 24 (.tmp 2) (.tmp 75) rfl (w.heap.size) (setC (setL c)).toArray rfl rfl 24 (setC noP).toArray HA.out (by rw [rset_size, setC_size]) (by simp only [setC_size]) (setC_one _) ?_))
              exact bodyPost_ret (v := .tuple #[.agg (setC (setL c)).toArray, .bool true]) (rres_set_tmp Tryd.results123 _ _ w.heap.size 24 (setL c) _ rfl rfl (HA.out.row (setL c))) rfl ⟨⟨setL c, fun _ => rfl, by rw [HOK.out]⟩, below_setRow HB.out (Nat.le_refl _) _⟩
  · have HL : Hid (c = lowN c) := by show _ = _; unfold lowN; rw [if_neg hup]
    have hu3 : ((65 : Int) ≤ (c : Int)) ∧ ¬ ((c : Int) ≤ 90) ∨ ¬ ((65 : Int) ≤ (c : Int)) := by omega
    clear hup
    rcases hu3 with ⟨hu1, hu2⟩ | hu1
    all_goals
      go_wp2_with fail
      skip
      generalize ((w.alloc (.cells #[.int .u8 0, .int .u8 0, .int .u8 0, .int .u8 0, .int .u8 0, .int .u8 0, .int .u8 0, .int .u8 0, .int .u8 0, .int .u8 0, .int .u8 0, .int .u8 0, .int .u8 0, .int .u8 0, .int .u8 0, .int .u8 0, .int .u8 0, .int .u8 0, .int .u8 0, .int .u8 0, .int .u8 0, .int .u8 0, .int .u8 0, .int .u8 0, .int .u8 0, .int .u8 0, .int .u8 0, .int .u8 0, .int .u8 0, .int .u8 0, .int .u8 0, .int .u8 0] 24)).alloc (.cells #[.int .u8 0, .int .u8 0, .int .u8 0, .int .u8 0, .int .u8 0, .int .u8 0, .int .u8 0, .int .u8 0, .int .u8 0, .int .u8 0, .int .u8 0, .int .u8 0, .int .u8 0, .int .u8 0, .int .u8 0, .int .u8 0, .int .u8 0, .int .u8 0, .int .u8 0, .int .u8 0, .int .u8 0, .int .u8 0, .int .u8 0, .int .u8 0, .int .u8 0, .int .u8 0, .int .u8 0, .int .u8 0, .int .u8 0, .int .u8 0, .int .u8 0, .int .u8 0] 24)).alloc (.cells #[.int .i64 2, .int .i64 3, .int .i64 4, .int .i64 1, .int .i64 5] 3) = w1 at HA0 HS0 HB0 HK0
      have q0 : w1.cell? ⟨w.heap.size + 2, 0, none⟩ = some (.int .i64 2) := by rw [cell_of_row _ _ _ _ _ _ HK0.out]; rfl
      have q1 : w1.cell? ⟨w.heap.size + 2, 1, none⟩ = some (.int .i64 3) := by rw [cell_of_row _ _ _ _ _ _ HK0.out]; rfl
      have q2 : w1.cell? ⟨w.heap.size + 2, 2, none⟩ = some (.int .i64 4) := by rw [cell_of_row _ _ _ _ _ _ HK0.out]; rfl
      have q3 : w1.cell? ⟨w.heap.size + 2, 3, none⟩ = some (.int .i64 1) := by rw [cell_of_row _ _ _ _ _ _ HK0.out]; rfl
      have q4 : w1.cell? ⟨w.heap.size + 2, 4, none⟩ = some (.int .i64 5) := by rw [cell_of_row _ _ _ _ _ _ HK0.out]; rfl
      have kb0 : ∀ h, ((⟨#[115, 100, 108, 99, 109]⟩ : ByteArray)[0]'h).toNat = 115 := fun _ => rfl
      have kb1 : ∀ h, ((⟨#[115, 100, 108, 99, 109]⟩ : ByteArray)[1]'h).toNat = 100 := fun _ => rfl
      have kb2 : ∀ h, ((⟨#[115, 100, 108, 99, 109]⟩ : ByteArray)[2]'h).toNat = 108 := fun _ => rfl
      have kb3 : ∀ h, ((⟨#[115, 100, 108, 99, 109]⟩ : ByteArray)[3]'h).toNat = 99 := fun _ => rfl
      have kb4 : ∀ h, ((⟨#[115, 100, 108, 99, 109]⟩ : ByteArray)[4]'h).toNat = 109 := fun _ => rfl
      clear HK0
      go_loop [7, 23] (fun tv iv => HeadR c tv iv) (fun _ iv => 5 - (intOf iv).toNat)
      case atStart => exact .inl ⟨rfl, rfl⟩
      case round =>
        unfold HeadR at hrel
        rcases hrel with ⟨rfl, rfl⟩ | ⟨rfl, rfl⟩ | ⟨rfl, rfl⟩ | ⟨rfl, rfl⟩ | ⟨rfl, rfl⟩ | ⟨rfl, rfl⟩
        · by_cases hl : c = 115
          · have tl : ((115 : Int) == (c : Int)) = true := beq_iff_eq.2 (by omega)
            have HE := Lib.hid (wantK_hit0 c hl)
            clear hl
            go_wp2_with fail
            exact ⟨.inr (.inl ⟨rfl, by rw [HE.out]; rfl⟩), by simp [intOf]⟩
          · have tl : ((115 : Int) == (c : Int)) = false := beq_eq_false_iff_ne.2 (by omega)
            have HE := Lib.hid (wantK_miss0 c hl)
            clear hl
            go_wp2_with fail
            exact ⟨.inr (.inl ⟨rfl, by rw [HE.out]⟩), by simp [intOf]⟩
        · by_cases hl : c = 100
          · have tl : ((100 : Int) == (c : Int)) = true := beq_iff_eq.2 (by omega)
            have HE := Lib.hid (wantK_hit1 c hl)
            clear hl
            go_wp2_with fail
            exact ⟨.inr (.inr (.inl ⟨rfl, by rw [HE.out]; rfl⟩)), by simp [intOf]⟩
          · have tl : ((100 : Int) == (c : Int)) = false := beq_eq_false_iff_ne.2 (by omega)
            have HE := Lib.hid (wantK_miss1 c hl)
            clear hl
            go_wp2_with fail
            exact ⟨.inr (.inr (.inl ⟨rfl, by rw [HE.out]⟩)), by simp [intOf]⟩
        · by_cases hl : c = 108
          · have tl : ((108 : Int) == (c : Int)) = true := beq_iff_eq.2 (by omega)
            have HE := Lib.hid (wantK_hit2 c hl)
            clear hl
            go_wp2_with fail
            exact ⟨.inr (.inr (.inr (.inl ⟨rfl, by rw [HE.out]; rfl⟩))), by simp [intOf]⟩
          · have tl : ((108 : Int) == (c : Int)) = false := beq_eq_false_iff_ne.2 (by omega)
            have HE := Lib.hid (wantK_miss2 c hl)
            clear hl
            go_wp2_with fail
            exact ⟨.inr (.inr (.inr (.inl ⟨rfl, by rw [HE.out]⟩))), by simp [intOf]⟩
        · by_cases hl : c = 99
          · have tl : ((99 : Int) == (c : Int)) = true := beq_iff_eq.2 (by omega)
            have HE := Lib.hid (wantK_hit3 c hl)
            clear hl
            go_wp2_with fail
            exact ⟨.inr (.inr (.inr (.inr (.inl ⟨rfl, by rw [HE.out]; rfl⟩)))), by simp [intOf]⟩
          · have tl : ((99 : Int) == (c : Int)) = false := beq_eq_false_iff_ne.2 (by omega)
            have HE := Lib.hid (wantK_miss3 c hl)
            clear hl
            go_wp2_with fail
            exact ⟨.inr (.inr (.inr (.inr (.inl ⟨rfl, by rw [HE.out]⟩)))), by simp [intOf]⟩
        · by_cases hl : c = 109
          · have tl : ((109 : Int) == (c : Int)) = true := beq_iff_eq.2 (by omega)
            have HE := Lib.hid (wantK_hit4 c hl)
            clear hl
            go_wp2_with fail
            exact ⟨.inr (.inr (.inr (.inr (.inr (⟨rfl, by rw [HE.out]; rfl⟩))))), by simp [intOf]⟩
          · have tl : ((109 : Int) == (c : Int)) = false := beq_eq_false_iff_ne.2 (by omega)
            have HE := Lib.hid (wantK_miss4 c hl)
            clear hl
            go_wp2_with fail
            exact ⟨.inr (.inr (.inr (.inr (.inr (⟨rfl, by rw [HE.out]⟩))))), by simp [intOf]⟩
        · skip
          obtain ⟨want, HW⟩ : ∃ n, Hid (n = wantK c 5) := ⟨_, rfl⟩
          rw [← HW.out]
          have hw5 : want < 6 := by have := HW.out; have := wantK_lt c 5; omega
          by_cases hz : want = 0
          · have tz : ((want : Int) == 0) = true := beq_iff_eq.2 (by omega)
            have tn : ((want : Int) != 0) = false := bne_eq_false_iff_eq.2 (by omega)
            by_cases h117 : c = 117
            · have t117 : ((c : Int) != 117) = false := bne_eq_false_iff_eq.2 (by omega)
              have HP : Hid (∀ k, setL c k = kindP (want : Int) k) := fun k => by
                unfold setL
                rw [← HL.out, ← HW.out]
                rw [if_pos rfl]
              have HOK : Hid (okL c = true) := by
                show _ = _
                unfold okL
                rw [← HL.out, ← HW.out]
                rw [hz]; simp [h117]
              have hz1 : want < 1 := by omega
              clear hz
              clear h117
              have HU : Hid (SetIn w1 (w.heap.size + 1) 24 (uptoP (setL c) 0)) := HS0.out.congr (upto_zero _)
              go_wp2_with fail
              go_loopw [10] (fun kv wr => ∃ k : Nat, k ≤ 256 ∧ kv = .int .i64 k ∧ Hid (SetIn wr w.heap.size 24 noP) ∧ Hid (SetIn wr (w.heap.size + 1) 24 (uptoP (setL c) k)) ∧ Hid (Below w.heap.size w wr)) (fun kv _ => 256 - (intOf kv).toNat)
              case atStart => exact ⟨0, by omega, rfl, HA0.out, HU.out, HB0.out⟩
              case round =>
                clear HA0 HS0 HU HB0 q0 q1 q2 q3 q4
                obtain ⟨k, hk, rfl, HA, HS, HB⟩ := hrel
                by_cases hkl : k < 256
                · have ec : IntKind.u8.wrap (k : Int) = (k : Int) := by rw [IntKind.wrap_u8]; omega
                  by_cases h65 : 65 ≤ k
                  · have h65i : (65 : Int) ≤ (k : Int) := by omega
                    by_cases h90 : k ≤ 90
                    · have h90i : (k : Int) ≤ 90 := by omega
                      have hkp : kindP (want : Int) k = true := by unfold kindP; rw [if_pos (by omega)]; exact decide_eq_true ⟨h65, h90⟩
                      have hp : setL c k = true := by rw [HP.out]; exact hkp
                      go_wp2_with (first
                        | (go_at_call 99; refine (cls_any _ _ (by omega) (by omega)).mono ?_; rintro e w' ⟨rfl, rfl⟩)
                        | (go_at_call 124; refine (put_any _ (w.heap.size + 1) k _ _ (by exact HS.out) hkl).mono ?_; rintro e w2 ⟨rfl, hs2, ho2⟩))
                      have HS2 := Lib.hid (hs2.congr (upto_in _ k hp))
                      have HA2 := Lib.hid (HA.out.keep (ho2.block _ HA.out.lt (by omega)))
                      have HB2 := Lib.hid (HB.out.trans (ho2.below (B := w.heap.size) (Nat.le_succ _) HB.out.size))
                      exact ⟨⟨k + 1, by omega, by go_num, HA2.out, HS2.out, HB2.out⟩, by simp [intOf]; try omega⟩
                    · have h90i : ¬ (k : Int) ≤ 90 := by omega
                      have hkp : kindP (want : Int) k = false := by unfold kindP; rw [if_pos (by omega)]; exact decide_eq_false (fun h => h90 h.2)
                      have hp : setL c k = false := by rw [HP.out]; exact hkp
                      have HS2 := Lib.hid (HS.out.congr (upto_out _ k hp))
                      go_wp2_with (go_at_call 99; refine (cls_any _ _ (by omega) (by omega)).mono ?_; rintro e w' ⟨rfl, rfl⟩)
                      exact ⟨⟨k + 1, by omega, by go_num, HA.out, HS2.out, HB.out⟩, by simp [intOf]; try omega⟩
                  · have h65i : ¬ (65 : Int) ≤ (k : Int) := by omega
                    have hkp : kindP (want : Int) k = false := by unfold kindP; rw [if_pos (by omega)]; exact decide_eq_false (fun h => h65 h.1)
                    have hp : setL c k = false := by rw [HP.out]; exact hkp
                    have HS2 := Lib.hid (HS.out.congr (upto_out _ k hp))
                    go_wp2_with (go_at_call 99; refine (cls_any _ _ (by omega) (by omega)).mono ?_; rintro e w' ⟨rfl, rfl⟩)
                    exact ⟨⟨k + 1, by omega, by go_num, HA.out, HS2.out, HB.out⟩, by simp [intOf]; try omega⟩
                · obtain rfl : k = 256 := by omega
                  have HS2 : Hid (SetIn wr (w.heap.size + 1) 24 (setL c)) := HS.out.congr (upto_all _)
                  go_wp2_with (first
                    | (refine wpList_load_row rfl 24 (.tmp 4) rfl ((w.heap.size + 1)) rfl 24 (setC (setL c)).toArray (0, 0) _ HS2.out Tryd.underlying24 rfl (by rw [rset_size, setC_size]) ?_)
                    | (refine wpList_store_row rfl 24 (.tmp 2) (.tmp 75) rfl (w.heap.size) (setC (setL c)).toArray rfl rfl 24 (setC noP).toArray HA.out (by rw [rset_size, setC_size]) (by simp only [setC_size]) (setC_one _) ?_))
                  exact bodyPost_ret (v := .tuple #[.agg (setC (setL c)).toArray, .bool true]) (rres_set_tmp Tryd.results123 _ _ w.heap.size 24 (setL c) _ rfl rfl (HA.out.row (setL c))) rfl ⟨⟨setL c, fun _ => rfl, by rw [HOK.out]⟩, below_setRow HB.out (Nat.le_refl _) _⟩
            · have t117 : ((c : Int) != 117) = true := bne_iff_ne.2 (by omega)
              have HOK : Hid (okL c = false) := by
                show _ = _
                unfold okL
                rw [← HL.out, ← HW.out, hz]
                simp [h117]
              clear hz
              go_wp2_with (first
                | (refine wpList_load_row rfl 24 (.tmp 4) rfl ((w.heap.size + 1)) rfl 24 (setC noP).toArray (0, 0) _ HS0.out Tryd.underlying24 rfl (by rw [rset_size, setC_size]) ?_)
                | (refine wpList_store_row rfl 24 (.tmp 2) (.tmp 41) rfl (w.heap.size) (setC noP).toArray rfl rfl 24 (setC noP).toArray HA0.out (by rw [rset_size, setC_size]) (by simp only [setC_size]) (setC_one _) ?_))
              exact bodyPost_ret (v := .tuple #[.agg (setC noP).toArray, .bool false]) (rres_set_tmp Tryd.results123 _ _ w.heap.size 24 noP _ rfl rfl (HA0.out.row noP)) rfl ⟨⟨noP, fun h => by rw [HOK.out] at h; exact absurd h Bool.false_ne_true, by rw [HOK.out]⟩, below_setRow HB0.out (Nat.le_refl _) _⟩
          · have tz : ((want : Int) == 0) = false := beq_eq_false_iff_ne.2 (by omega)
            have tn : ((want : Int) != 0) = true := bne_iff_ne.2 (by omega)
            have HP : Hid (∀ k, setL c k = kindP (want : Int) k) := fun k => by
              unfold setL
              rw [← HL.out, ← HW.out]
              rw [if_pos rfl]
            have HOK : Hid (okL c = true) := by
              show _ = _
              unfold okL
              rw [← HL.out, ← HW.out]
              simp [hz]
            have hz1 : 0 < want := by omega
            clear hz
            skip
            have HU : Hid (SetIn w1 (w.heap.size + 1) 24 (uptoP (setL c) 0)) := HS0.out.congr (upto_zero _)
            go_wp2_with fail
            go_loopw [10] (fun kv wr => ∃ k : Nat, k ≤ 256 ∧ kv = .int .i64 k ∧ Hid (SetIn wr w.heap.size 24 noP) ∧ Hid (SetIn wr (w.heap.size + 1) 24 (uptoP (setL c) k)) ∧ Hid (Below w.heap.size w wr)) (fun kv _ => 256 - (intOf kv).toNat)
            case atStart => exact ⟨0, by omega, rfl, HA0.out, HU.out, HB0.out⟩
            case round =>
              clear HA0 HS0 HU HB0 q0 q1 q2 q3 q4
              obtain ⟨k, hk, rfl, HA, HS, HB⟩ := hrel
              by_cases hkl : k < 256
              · have ec : IntKind.u8.wrap (k : Int) = (k : Int) := by rw [IntKind.wrap_u8]; omega
                by_cases hcl : clsN (k : Int) = (want : Int)
                · have tcl : (clsN (k : Int) == (want : Int)) = true := beq_iff_eq.2 hcl
                  have hkp : kindP (want : Int) k = true := by unfold kindP; rw [if_neg (by omega)]; exact decide_eq_true hcl
                  clear hcl
                  have hp : setL c k = true := by rw [HP.out]; exact hkp
                  go_wp2_with (first
                    | (go_at_call 99; refine (cls_any _ _ (by omega) (by omega)).mono ?_; rintro e w' ⟨rfl, rfl⟩)
                    | (go_at_call 124; refine (put_any _ (w.heap.size + 1) k _ _ (by exact HS.out) hkl).mono ?_; rintro e w2 ⟨rfl, hs2, ho2⟩))
                  have HS2 := Lib.hid (hs2.congr (upto_in _ k hp))
                  have HA2 := Lib.hid (HA.out.keep (ho2.block _ HA.out.lt (by omega)))
                  have HB2 := Lib.hid (HB.out.trans (ho2.below (B := w.heap.size) (Nat.le_succ _) HB.out.size))
                  exact ⟨⟨k + 1, by omega, by go_num, HA2.out, HS2.out, HB2.out⟩, by simp [intOf]; try omega⟩
                · have tcl : (clsN (k : Int) == (want : Int)) = false := beq_eq_false_iff_ne.2 hcl
                  have hkp : kindP (want : Int) k = false := by unfold kindP; rw [if_neg (by omega)]; exact decide_eq_false hcl
                  clear hcl
                  have hp : setL c k = false := by rw [HP.out]; exact hkp
                  have HS2 := Lib.hid (HS.out.congr (upto_out _ k hp))
                  go_wp2_with (go_at_call 99; refine (cls_any _ _ (by omega) (by omega)).mono ?_; rintro e w' ⟨rfl, rfl⟩)
                  exact ⟨⟨k + 1, by omega, by go_num, HA.out, HS2.out, HB.out⟩, by simp [intOf]; try omega⟩
              · obtain rfl : k = 256 := by omega
                have HS2 : Hid (SetIn wr (w.heap.size + 1) 24 (setL c)) := HS.out.congr (upto_all _)
                go_wp2_with (first
                  | (refine wpList_load_row rfl 24 (.tmp 4) rfl ((w.heap.size + 1)) rfl 24 (setC (setL c)).toArray (0, 0) _ HS2.out Tryd.underlying24 rfl (by rw [rset_size, setC_size]) ?_)
                  | (refine wpList_store_row rfl 24 (.tmp 2) (.tmp 75) rfl (w.heap.size) (setC (setL c)).toArray rfl rfl 24 (setC noP).toArray HA.out (by rw [rset_size, setC_size]) (by simp only [setC_size]) (setC_one _) ?_))
                exact bodyPost_ret (v := .tuple #[.agg (setC (setL c)).toArray, .bool true]) (rres_set_tmp Tryd.results123 _ _ w.heap.size 24 (setL c) _ rfl rfl (HA.out.row (setL c))) rfl ⟨⟨setL c, fun _ => rfl, by rw [HOK.out]⟩, below_setRow HB.out (Nat.le_refl _) _⟩

def inSp (s : ByteArray) (b : Nat) : Bool := s.data.toList.any fun c => c.toNat == b
set_option maxRecDepth 100000 in
set_option maxHeartbeats 1000000 in
theorem in_any (s : ByteArray) (b : Nat) (w : World) (hs : s.size ≤ maxLen) :
    Calls Tryd.prog 135 #[.string s, .int .u8 b] w fun e w' => e = .returned (.bool (inSp s b)) ∧ w = w' := by
  unfold maxLen at hs
  go_enter Tryd.func135, Tryd.ntmps135
  go_wp2_with fail
  go_loop [5] (fun iv => ∃ k : Nat, k ≤ s.size ∧ iv = .int .i64 k ∧ Hid (∀ j, j < k → bt s j ≠ b)) (fun iv => s.size - (intOf iv).toNat)
  case atStart => exact ⟨0, by omega, rfl, fun j h => absurd h (Nat.not_lt_zero j)⟩
  case round =>
    obtain ⟨k, hk, rfl, HN⟩ := hrel
    by_cases hlt : k < s.size
    · by_cases hb : s[k].toNat = b
      · have tb : ((s[k].toNat : Int) == (b : Int)) = true := beq_iff_eq.2 (by omega)
        have HR : Hid ((inSp s b) = true) := by
          unfold inSp
          refine List.any_eq_true.2 ⟨s[k], ?_, by simpa using hb⟩
          rw [show s[k] = s.data.toList[k]'(by simpa using hlt) from rfl]
          exact List.getElem_mem _
        clear hb
        go_wp2_with fail
        go_ret
        exact ⟨ret_bool HR.out.symm, rfl⟩
      · have tb : ((s[k].toNat : Int) == (b : Int)) = false := beq_eq_false_iff_ne.2 (by omega)
        have HN2 : Hid (∀ j, j < k + 1 → bt s j ≠ b) := fun j hj => by
          by_cases hjk : j = k
          · subst hjk; rw [bt_get s j hlt]; exact hb
          · exact HN.out j (by omega)
        clear hb
        go_wp2_with fail
        exact ⟨⟨k + 1, by omega, by go_num, HN2.out⟩, by simp [intOf]; try omega⟩
    · have HR : Hid ((inSp s b) = false) := by
        unfold inSp
        refine List.any_eq_false.2 fun x hx => ?_
        obtain ⟨j, hj, rfl⟩ := List.mem_iff_getElem.1 hx
        have h1 : j < s.size := by simpa using hj
        have := HN.out j (by omega)
        rw [bt_get s j h1] at this
        simp only [beq_iff_eq]
        exact this
      go_wp2_with fail
      go_ret
      exact ⟨ret_bool HR.out.symm, rfl⟩

end Go.Proofs.YtpboaadjbkaidaaDoor

namespace Go.Proofs.YtpboaadjbkaidaaDoor
set_option maxRecDepth 100000
open Go.RowKit

theorem cls_byte (x : UInt8) (w : World) : Calls Tryd.prog 99 #[.int .u8 x.toNat] w fun e w' => e = .returned (.int .i64 (clsN x.toNat)) ∧ w = w' :=
  cls_any _ _ (by omega) (by have := x.toNat_lt; omega)
def plainB (sp : ByteArray) (b : Nat) : Bool := wrB b && !inSp sp b
set_option maxRecDepth 100000 in
set_option maxHeartbeats 1000000 in
theorem plain_any (b : Nat) (sp : ByteArray) (w : World) (hb : b < 256) (hs : sp.size ≤ maxLen) :
    Calls Tryd.prog 125 #[.int .u8 b, .string sp] w fun e w' => e = .returned (.bool (plainB sp b)) ∧ w = w' := by
  have HI := Lib.hid (fun w => in_any sp b w hs)
  by_cases h4 : clsN (b : Int) = 4
  · have HP : Hid (plainB sp b = !inSp sp b) := by
      show _ = _
      unfold plainB wrB
      rw [h4]
      simp
    have t4 : (clsN (b : Int) == 4) = true := by rw [h4]; rfl
    clear h4
    generalize inSp sp b = z at HP HI
    go_enter Tryd.func125, Tryd.ntmps125
    go_wp2_with (first
      | (go_at_call 99; refine (cls_any _ _ (by omega) (by omega)).mono ?_; rintro e w' ⟨rfl, rfl⟩)
      | (go_at_call 135; refine (HI.out _).mono ?_; rintro e w' ⟨rfl, rfl⟩))
    go_ret
    exact ⟨ret_bool (by rw [HP.out]; try rfl), rfl⟩
  have t4 : (clsN (b : Int) == 4) = false := by simpa using h4
  clear h4
  by_cases h3 : clsN (b : Int) = 3
  · have HP : Hid (plainB sp b = !inSp sp b) := by
      show _ = _
      unfold plainB wrB
      rw [h3]
      simp
    have t3 : (clsN (b : Int) == 3) = true := by rw [h3]; rfl
    clear h3
    generalize inSp sp b = z at HP HI
    go_enter Tryd.func125, Tryd.ntmps125
    go_wp2_with (first
      | (go_at_call 99; refine (cls_any _ _ (by omega) (by omega)).mono ?_; rintro e w' ⟨rfl, rfl⟩)
      | (go_at_call 135; refine (HI.out _).mono ?_; rintro e w' ⟨rfl, rfl⟩))
    go_ret
    exact ⟨ret_bool (by rw [HP.out]; try rfl), rfl⟩
  have t3 : (clsN (b : Int) == 3) = false := by simpa using h3
  clear h3
  by_cases h5 : clsN (b : Int) = 5
  · have HP : Hid (plainB sp b = !inSp sp b) := by
      show _ = _
      unfold plainB wrB
      rw [h5]
      simp
    have t5 : (clsN (b : Int) == 5) = true := by rw [h5]; rfl
    clear h5
    generalize inSp sp b = z at HP HI
    go_enter Tryd.func125, Tryd.ntmps125
    go_wp2_with (first
      | (go_at_call 99; refine (cls_any _ _ (by omega) (by omega)).mono ?_; rintro e w' ⟨rfl, rfl⟩)
      | (go_at_call 135; refine (HI.out _).mono ?_; rintro e w' ⟨rfl, rfl⟩))
    go_ret
    exact ⟨ret_bool (by rw [HP.out]; try rfl), rfl⟩
  have t5 : (clsN (b : Int) == 5) = false := by simpa using h5
  clear h5
  have HP : Hid (plainB sp b = false) := by
    show _ = _
    unfold plainB wrB
    rw [t4, t3, t5]
    rfl
  generalize inSp sp b = z at HI
  go_enter Tryd.func125, Tryd.ntmps125
  go_wp2_with (first
    | (go_at_call 99; refine (cls_any _ _ (by omega) (by omega)).mono ?_; rintro e w' ⟨rfl, rfl⟩)
    | (go_at_call 135; refine (HI.out _).mono ?_; rintro e w' ⟨rfl, rfl⟩))
  go_ret
  exact ⟨ret_bool (by rw [HP.out]; try rfl), rfl⟩

/-- A single byte of a member at i: the byte, the offset behind it, the offset of a fault or -1. -/
def rsF (s : ByteArray) (i : Nat) : Nat × Nat × Int :=
  if s.size ≤ i then (0, 0, (s.size : Int))
  else if bt s i = 92 then
    if s.size ≤ i + 1 then (0, 0, (s.size : Int))
    else if clsN (bt s (i + 1) : Int) ≠ 5 then (0, 0, ((i + 1 : Nat) : Int))
    else (bt s (i + 1), i + 2, -1)
  else if plainB (⟨#[92, 93, 91, 94, 45]⟩ : ByteArray) (bt s i) = true then (bt s i, i + 1, -1)
  else (0, 0, (i : Int))

set_option maxRecDepth 100000 in
set_option maxHeartbeats 2000000 in
theorem rsingle_any (s : ByteArray) (i : Nat) (w : World) (hs : s.size ≤ 2147483648) (hi : i ≤ 2147483648) :
    Calls Tryd.prog 134 #[.string s, .int .i64 i] w fun e w' => e = .returned (.tuple #[.int .u8 (rsF s i).1, .int .i64 (rsF s i).2.1, .int .i64 (rsF s i).2.2]) ∧ w = w' := by
  by_cases h0 : s.size ≤ i
  · have HR : Hid (rsF s i = (0, 0, (s.size : Int))) := by show _ = _; unfold rsF; rw [if_pos h0]
    have h0i : (s.size : Int) ≤ (i : Int) := by omega
    go_enter Tryd.func134, Tryd.ntmps134
    go_wp2_with fail
    go_ret3
    exact ⟨by (rw [HR.out] <;> rfl), rfl⟩
  have hi : i < s.size := by omega
  have hii : (i : Int) < (s.size : Int) := by omega
  have hin : ¬ ((s.size : Int) ≤ (i : Int)) := by omega
  obtain ⟨c, HC⟩ : ∃ c, Hid (c = bt s i) := ⟨_, rfl⟩
  have hc2 : c < 256 := by rw [HC.out]; exact bt_lt s i
  have hg : s[i].toNat = c := by rw [HC.out, bt_get s i hi]
  by_cases h92 : c = 92
  · have t92 : ((s[i].toNat : Int) == 92) = true := beq_iff_eq.2 (by omega)
    clear hg
    by_cases h1 : s.size ≤ i + 1
    · have HR : Hid (rsF s i = (0, 0, (s.size : Int))) := by show _ = _; unfold rsF; rw [if_neg h0, ← HC.out, if_pos h92, if_pos h1]
      have h1i : (s.size : Int) ≤ (i : Int) + 1 := by omega
      clear h92 h0
      go_enter Tryd.func134, Tryd.ntmps134
      go_wp2_with fail
      go_ret3
      exact ⟨by (rw [HR.out] <;> rfl), rfl⟩
    have h1j : i + 1 < s.size := by omega
    have h1i : ¬ (s.size : Int) ≤ (i : Int) + 1 := by omega
    obtain ⟨d, HD⟩ : ∃ d, Hid (d = bt s (i + 1)) := ⟨_, rfl⟩
    have hd2 : d < 256 := by rw [HD.out]; exact bt_lt s (i + 1)
    have hgd : Hid (∀ h, (s[((i : Int) + 1).toNat]'h).toNat = d) := fun h => by
      rw [HD.out, bt_get s (i + 1) h1j]
      have : ((i : Int) + 1).toNat = i + 1 := by omega
      simp only [this]
    by_cases h5 : clsN (d : Int) = 5
    · have HR : Hid (rsF s i = (d, i + 2, -1)) := by show _ = _; unfold rsF; rw [if_neg h0, ← HC.out, if_pos h92, if_neg h1, ← HD.out, if_neg (by simp [h5])]
      have t5 : (clsN (d : Int) != 5) = false := by simpa using h5
      rw [HD.out, bt_get s (i + 1) h1j] at t5
      clear h92 h0 h1 h5
      go_enter Tryd.func134, Tryd.ntmps134
      go_wp2_with (go_at_call 99; refine (cls_byte _ _).mono ?_; rintro e w' ⟨rfl, rfl⟩)
      go_ret3
      exact ⟨by (rw [HR.out, HD.out, bt_get s (i + 1) h1j] <;> rfl), rfl⟩
    · have HR : Hid (rsF s i = (0, 0, ((i + 1 : Nat) : Int))) := by show _ = _; unfold rsF; rw [if_neg h0, ← HC.out, if_pos h92, if_neg h1, ← HD.out, if_pos h5]
      have t5 : (clsN (d : Int) != 5) = true := by simpa using h5
      rw [HD.out, bt_get s (i + 1) h1j] at t5
      clear h92 h0 h1 h5
      go_enter Tryd.func134, Tryd.ntmps134
      go_wp2_with (go_at_call 99; refine (cls_byte _ _).mono ?_; rintro e w' ⟨rfl, rfl⟩)
      go_ret3
      exact ⟨by (rw [HR.out] <;> rfl), rfl⟩
  have t92 : ((s[i].toNat : Int) == 92) = false := beq_eq_false_iff_ne.2 (by omega)
  have HPL := Lib.hid (fun w => plain_any c (⟨#[92, 93, 91, 94, 45]⟩ : ByteArray) w hc2 (by decide))
  have hgc : (s[i].toNat : Int) = (c : Int) := by omega
  by_cases hp : plainB (⟨#[92, 93, 91, 94, 45]⟩ : ByteArray) c = true
  · have HR : Hid (rsF s i = (c, i + 1, -1)) := by show _ = _; unfold rsF; rw [if_neg h0, ← HC.out, if_neg h92, if_pos hp]
    rw [hp] at HPL
    clear hp h92 h0 hg
    go_enter Tryd.func134, Tryd.ntmps134
    go_wp2_with (go_at_call 125; refine (HPL.out _).mono ?_; rintro e w' ⟨rfl, rfl⟩)
    go_ret3
    exact ⟨by (rw [HR.out] <;> rfl), rfl⟩
  · have HR : Hid (rsF s i = (0, 0, (i : Int))) := by show _ = _; unfold rsF; rw [if_neg h0, ← HC.out, if_neg h92, if_neg hp]
    rw [Bool.not_eq_true _ |>.mp hp] at HPL
    clear hp h92 h0 hg
    go_enter Tryd.func134, Tryd.ntmps134
    go_wp2_with (go_at_call 125; refine (HPL.out _).mono ?_; rintro e w' ⟨rfl, rfl⟩)
    go_ret3
    exact ⟨by (rw [HR.out] <;> rfl), rfl⟩

end Go.Proofs.YtpboaadjbkaidaaDoor

namespace Go.Proofs.YtpboaadjbkaidaaDoor
set_option maxRecDepth 100000
open Go.RowKit

theorem plain_in : ∀ b : Fin 256, b.val ≠ 92 → plainB (⟨#[92, 93, 91, 94, 45]⟩ : ByteArray) b.val = (wrB b.val && !inIn b.val) := by
  intro b hb
  unfold plainB inSp inIn
  congr 2
  simp only [List.any_cons, List.any_nil, Bool.or_false]
  rw [show ((92 : UInt8).toNat == b.val) = false from by simp; omega]
  simp only [Bool.false_or]
  rw [Bool.eq_iff_iff]
  simp
  omega
theorem plain_out (b : Nat) : plainB (⟨#[42, 43, 63, 40, 41, 124, 93, 123, 125]⟩ : ByteArray) b = (wrB b && !inOut b) := by
  unfold plainB inSp inOut
  congr 2
  simp only [List.any_cons, List.any_nil, Bool.or_false]
  rw [Bool.eq_iff_iff]
  simp
  omega
theorem okL_cls (c : Nat) (hc : c < 256) (h : okL c = true) : clsN (c : Int) = 4 := by
  have h1 := class_none ⟨c, hc⟩
  simp only [h] at h1
  exact classP_letter ⟨c, hc⟩ h1.symm
theorem classP_okL (c : Nat) (hc : c < 256) (h : ¬ okL c = true) : classP c = none := by
  have h1 := class_none ⟨c, hc⟩
  simp only at h1
  rw [Bool.not_eq_true] at h
  rw [h] at h1
  cases hp : classP c with
  | none => rfl
  | some p => rw [hp] at h1; exact absurd h1 (by simp)
theorem esc_cls (s : ByteArray) (j : Nat) (h1 : j + 1 < s.size) (hok : okL (bt s (j + 1)) = true) : escF s j = ⟨setL (bt s (j + 1)), bt s (j + 1), false, j + 2, false⟩ := by
  have hb := bt_lt s (j + 1)
  have h4 := okL_cls _ hb hok
  unfold escF
  rw [if_pos h1, if_neg (by rw [h4]; decide), class_some _ hb hok]
theorem single_ref (s : ByteArray) (j : Nat) (hj : j < s.size) :
    ((rsF s j).2.2 = -1 ∧ (rsF s j).1 < 256 ∧ singleF s j = ⟨oneP (rsF s j).1, (rsF s j).1, true, (rsF s j).2.1, false⟩) ∨
      ∃ k : Nat, (rsF s j).2.2 = (k : Int) ∧ ((singleF s j).bad = true ∧ (singleF s j).j = k ∨ (singleF s j).bad = false ∧ (singleF s j).one = false ∧ k = j + 1 ∧ bt s j = 92 ∧ j + 1 < s.size ∧ okL (bt s (j + 1)) = true) := by
  have hb := bt_lt s (j + 1)
  have hb0 := bt_lt s j
  unfold rsF
  rw [if_neg (by omega)]
  by_cases h92 : bt s j = 92
  · rw [if_pos h92]
    have e : singleF s j = escF s j := by unfold singleF; rw [if_pos h92]
    by_cases h1 : s.size ≤ j + 1
    · rw [if_pos h1]
      refine .inr ⟨s.size, rfl, .inl ?_⟩
      rw [e]
      unfold escF
      rw [if_neg (by omega)]
      exact ⟨rfl, by show j + 1 = s.size; omega⟩
    · rw [if_neg h1]
      by_cases h5 : clsN (bt s (j + 1) : Int) = 5
      · rw [if_neg (by simpa using h5)]
        refine .inl ⟨rfl, hb, ?_⟩
        rw [e]
        unfold escF
        rw [if_pos (by omega), if_pos h5]
      · rw [if_pos h5]
        refine .inr ⟨j + 1, rfl, ?_⟩
        rw [e]
        by_cases hok : okL (bt s (j + 1)) = true
        · rw [esc_cls s j (by omega) hok]
          exact .inr ⟨rfl, rfl, rfl, h92, by omega, hok⟩
        · unfold escF
          rw [if_pos (by omega), if_neg h5, classP_okL _ hb hok]
          exact .inl ⟨rfl, rfl⟩
  · rw [if_neg h92]
    have hp := plain_in ⟨bt s j, hb0⟩ h92
    simp only at hp
    rw [hp]
    unfold singleF
    rw [if_neg h92]
    by_cases hw : wrB (bt s j) = true ∧ inIn (bt s j) = false
    · rw [if_pos hw, if_pos (by rw [hw.1, hw.2]; rfl)]
      exact .inl ⟨rfl, hb0, rfl⟩
    · rw [if_neg hw, if_neg (by simpa using hw)]
      exact .inr ⟨j, rfl, .inl ⟨rfl, rfl⟩⟩
theorem member_cls (s : ByteArray) (j : Nat) (p : Nat → Bool) (h92 : bt s j = 92) (h1 : j + 1 < s.size) (hok : okL (bt s (j + 1)) = true) :
    memberF s j p = (orP p (setL (bt s (j + 1))), j + 2, false) := by
  have e : singleF s j = ⟨setL (bt s (j + 1)), bt s (j + 1), false, j + 2, false⟩ := by
    unfold singleF
    rw [if_pos h92, esc_cls s j h1 hok]
  unfold memberF
  rw [e]
  simp
/-- The same member, read as the reference reads it. -/
def rmem2 (s : ByteArray) (p : Nat → Bool) (x nx : Nat) : (Nat → Bool) × Nat × Bool :=
  if nx < s.size ∧ bt s nx = 45 then
    if 0 ≤ (rsF s (nx + 1)).2.2 then (p, (rsF s (nx + 1)).2.2.toNat, true)
    else if (rsF s (nx + 1)).1 < x then (p, nx + 1, true)
    else (orP p (rng x ((rsF s (nx + 1)).1 + 1)), (rsF s (nx + 1)).2.1, false)
  else (orP p (rng x (x + 1)), nx, false)
def rmemF (s : ByteArray) (j : Nat) (p : Nat → Bool) : (Nat → Bool) × Nat × Bool :=
  if 0 ≤ (rsF s j).2.2 then (p, (rsF s j).2.2.toNat, true) else rmem2 s p (rsF s j).1 (rsF s j).2.1
theorem one_rng (p : Nat → Bool) (x : Nat) : orP p (oneP x) = orP p (rng x (x + 1)) := by
  funext n
  unfold orP oneP addP noP rng
  congr 1
  rw [Bool.or_false, Bool.eq_iff_iff]
  simp
  omega
theorem member_ref (s : ByteArray) (j : Nat) (p : Nat → Bool) (hj : j < s.size) (hc : ¬ (bt s j = 92 ∧ j + 1 < s.size ∧ okL (bt s (j + 1)) = true)) : memberF s j p = rmemF s j p := by
  rcases single_ref s j hj with ⟨h1, _, h2⟩ | ⟨k, h1, h2⟩
  · unfold memberF rmemF rmem2
    rw [h2, h1]
    rw [if_neg (show ¬ (⟨oneP (rsF s j).1, (rsF s j).1, true, (rsF s j).2.1, false⟩ : SR).bad = true from Bool.false_ne_true), if_neg (show ¬ (0 : Int) ≤ -1 by decide)]
    simp only [true_and]
    by_cases h3 : (rsF s j).2.1 < s.size ∧ bt s (rsF s j).2.1 = 45
    · rw [if_pos h3, if_pos h3]
      by_cases h4 : (rsF s j).2.1 + 1 < s.size
      · rw [if_pos h4]
        rcases single_ref s _ h4 with ⟨g1, _, g2⟩ | ⟨m, g1, g2⟩
        · rw [g2, g1]
          rw [if_neg (show ¬ (⟨oneP (rsF s ((rsF s j).2.1 + 1)).1, (rsF s ((rsF s j).2.1 + 1)).1, true, (rsF s ((rsF s j).2.1 + 1)).2.1, false⟩ : SR).bad = true from Bool.false_ne_true), if_neg (show ¬ (0 : Int) ≤ -1 by decide)]
          rw [if_neg (show ¬ (⟨oneP (rsF s ((rsF s j).2.1 + 1)).1, (rsF s ((rsF s j).2.1 + 1)).1, true, (rsF s ((rsF s j).2.1 + 1)).2.1, false⟩ : SR).one = false from fun h => Bool.noConfusion h)]
        · rw [g1, if_pos (show (0 : Int) ≤ (m : Int) by omega)]
          rcases g2 with ⟨g2, g3⟩ | ⟨g2, g3, g4, _⟩
          · rw [if_pos g2, g3]
            rfl
          · rw [if_neg (by rw [g2]; decide), if_pos g3, g4]
            rfl
      · rw [if_neg h4]
        have e : rsF s ((rsF s j).2.1 + 1) = (0, 0, (s.size : Int)) := by unfold rsF; rw [if_pos (by have := h4; unfold rsF at this; omega)]
        rw [e, if_pos (show (0 : Int) ≤ (s.size : Int) by omega)]
        have : (rsF s j).2.1 + 1 = s.size := by omega
        rw [this]
        rfl
    · rw [if_neg h3, if_neg h3, one_rng]
  · rcases h2 with ⟨h2, h3⟩ | ⟨_, _, _, h4⟩
    · unfold memberF rmemF
      rw [if_pos h2, h1, if_pos (by omega), h3]
      rfl
    · exact absurd h4 hc
theorem rs_ok (s : ByteArray) (j : Nat) (h : (rsF s j).2.2 < 0) : (rsF s j).2.2 = -1 ∧ (rsF s j).1 < 256 ∧ j < (rsF s j).2.1 ∧ (rsF s j).2.1 ≤ s.size := by
  have hb := bt_lt s (j + 1)
  have hb0 := bt_lt s j
  revert h
  unfold rsF
  split
  · intro h; exact absurd h (by simp only; omega)
  · split
    · split
      · intro h; exact absurd h (by simp only; omega)
      · split
        · intro h; exact absurd h (by simp only; omega)
        · intro _; exact ⟨rfl, hb, by simp only; omega, by simp only; omega⟩
    · split
      · intro _; exact ⟨rfl, hb0, by simp only; omega, by simp only; omega⟩
      · intro h; exact absurd h (by simp only; omega)
theorem rs_bad (s : ByteArray) (j : Nat) (hj : j ≤ s.size) (h : ¬ (rsF s j).2.2 < 0) : ∃ k : Nat, (rsF s j).2.2 = (k : Int) ∧ k ≤ s.size := by
  revert h
  unfold rsF
  split
  · exact fun _ => ⟨s.size, rfl, Nat.le_refl _⟩
  · split
    · split
      · exact fun _ => ⟨s.size, rfl, Nat.le_refl _⟩
      · split
        · exact fun _ => ⟨j + 1, rfl, by omega⟩
        · intro h; exact absurd (show (-1 : Int) < 0 by decide) h
    · split
      · intro h; exact absurd (show (-1 : Int) < 0 by decide) h
      · exact fun _ => ⟨j, rfl, hj⟩

/-- What the reference's readers of sets give. -/
def RetSet (w : World) (r : SR) (e : Ending) (w' : World) : Prop :=
  (∃ p, (r.bad = false → ∀ n, n < 256 → p n = r.p n) ∧ e = .returned (.tuple #[.agg (setC p).toArray, .int .i64 ((if r.bad = true then 0 else r.j : Nat) : Int), .int .i64 (if r.bad = true then (r.j : Int) else -1)])) ∧ Below w.heap.size w w'

end Go.Proofs.YtpboaadjbkaidaaDoor

namespace Go.Proofs.YtpboaadjbkaidaaDoor
set_option maxRecDepth 100000
open Go.RowKit

theorem rclass_ok (c : Nat) (w : World) (hc : c < 256) (h : okL c = true) :
    Calls Tryd.prog 123 #[.int .u8 c] w fun e w' => e = .returned (.tuple #[.agg (setC (setL c)).toArray, .bool true]) ∧ Below w.heap.size w w' :=
  (rclass_any c w hc).mono fun e w' ⟨⟨p, hp, he⟩, hb⟩ => ⟨by rw [he, hp h, h], hb⟩
theorem rclass_no (c : Nat) (w : World) (hc : c < 256) (h : okL c = false) :
    Calls Tryd.prog 123 #[.int .u8 c] w fun e w' => (∃ p, e = .returned (.tuple #[.agg (setC p).toArray, .bool false])) ∧ Below w.heap.size w w' :=
  (rclass_any c w hc).mono fun e w' ⟨⟨p, hp, he⟩, hb⟩ => ⟨⟨p, by rw [he, h]⟩, hb⟩
theorem rres_set3 {fn : Func} {p u v : Tmp} (h : fn.results = #[.cell p 24, .tmp u, .tmp v]) (tmps : Array Value) (w : World) (g : Nat) (t : TypeId) (q : Nat → Bool) (x y : Value) (hp : tmps.getD p undef = .pointer (some ⟨g, 0, none⟩)) (hu : tmps.getD u undef = x) (hv : tmps.getD v undef = y) (hs : SetIn w g t q) :
    (results fn tmps).run Tryd.prog w = .ok (.tuple #[.agg (setC q).toArray, x, y]) w := by
  rw [results_cell_tmp2 h, hp, hu, hv]
  have hl := run_loadVar_row (P := Tryd.prog) w g t 24 (setC q).toArray (0, 0) _ hs Tryd.underlying24 rfl (by rw [rset_size, setC_size])
  simp [asAddr, Result.andThen, hl]
def neg94 (s : ByteArray) (i : Nat) : Bool := decide (i + 1 < s.size ∧ bt s (i + 1) = 94)
def cls92 (s : ByteArray) (j : Nat) : Bool := decide (bt s j = 92 ∧ j + 1 < s.size)
/-- What follows behind a member. -/
def goM (s : ByteArray) (f : Nat) (R : (Nat → Bool) × Nat × Bool) : (Nat → Bool) × Nat × Bool := if R.2.2 = true then (noP, R.2.1, true) else memsF s f R.2.1 true R.1

set_option maxRecDepth 100000 in
set_option maxHeartbeats 16000000 in
theorem rbrackets_any (w : World) (s : ByteArray) (i : Nat) (hi : i < s.size) (hs : s.size ≤ 2147483648) :
    Calls Tryd.prog 122 #[.string s, .int .i64 i] w (RetSet w (bracketsF s i)) := by
  have HA0 : Hid (SetIn ((w.alloc (.cells #[.int .u8 0, .int .u8 0, .int .u8 0, .int .u8 0, .int .u8 0, .int .u8 0, .int .u8 0, .int .u8 0, .int .u8 0, .int .u8 0, .int .u8 0, .int .u8 0, .int .u8 0, .int .u8 0, .int .u8 0, .int .u8 0, .int .u8 0, .int .u8 0, .int .u8 0, .int .u8 0, .int .u8 0, .int .u8 0, .int .u8 0, .int .u8 0, .int .u8 0, .int .u8 0, .int .u8 0, .int .u8 0, .int .u8 0, .int .u8 0, .int .u8 0, .int .u8 0] 24)).alloc (.cells #[.int .u8 0, .int .u8 0, .int .u8 0, .int .u8 0, .int .u8 0, .int .u8 0, .int .u8 0, .int .u8 0, .int .u8 0, .int .u8 0, .int .u8 0, .int .u8 0, .int .u8 0, .int .u8 0, .int .u8 0, .int .u8 0, .int .u8 0, .int .u8 0, .int .u8 0, .int .u8 0, .int .u8 0, .int .u8 0, .int .u8 0, .int .u8 0, .int .u8 0, .int .u8 0, .int .u8 0, .int .u8 0, .int .u8 0, .int .u8 0, .int .u8 0, .int .u8 0] 24)) w.heap.size 24 noP) := (zero_in w 24).keep (Below.heap_alloc _ _ _ (by simp))
  have HS0 : Hid (SetIn ((w.alloc (.cells #[.int .u8 0, .int .u8 0, .int .u8 0, .int .u8 0, .int .u8 0, .int .u8 0, .int .u8 0, .int .u8 0, .int .u8 0, .int .u8 0, .int .u8 0, .int .u8 0, .int .u8 0, .int .u8 0, .int .u8 0, .int .u8 0, .int .u8 0, .int .u8 0, .int .u8 0, .int .u8 0, .int .u8 0, .int .u8 0, .int .u8 0, .int .u8 0, .int .u8 0, .int .u8 0, .int .u8 0, .int .u8 0, .int .u8 0, .int .u8 0, .int .u8 0, .int .u8 0] 24)).alloc (.cells #[.int .u8 0, .int .u8 0, .int .u8 0, .int .u8 0, .int .u8 0, .int .u8 0, .int .u8 0, .int .u8 0, .int .u8 0, .int .u8 0, .int .u8 0, .int .u8 0, .int .u8 0, .int .u8 0, .int .u8 0, .int .u8 0, .int .u8 0, .int .u8 0, .int .u8 0, .int .u8 0, .int .u8 0, .int .u8 0, .int .u8 0, .int .u8 0, .int .u8 0, .int .u8 0, .int .u8 0, .int .u8 0, .int .u8 0, .int .u8 0, .int .u8 0, .int .u8 0] 24)) (w.heap.size + 1) 24 noP) := by
    have h := zero_in (w.alloc (.cells #[.int .u8 0, .int .u8 0, .int .u8 0, .int .u8 0, .int .u8 0, .int .u8 0, .int .u8 0, .int .u8 0, .int .u8 0, .int .u8 0, .int .u8 0, .int .u8 0, .int .u8 0, .int .u8 0, .int .u8 0, .int .u8 0, .int .u8 0, .int .u8 0, .int .u8 0, .int .u8 0, .int .u8 0, .int .u8 0, .int .u8 0, .int .u8 0, .int .u8 0, .int .u8 0, .int .u8 0, .int .u8 0, .int .u8 0, .int .u8 0, .int .u8 0, .int .u8 0] 24)) 24
    rw [show (w.alloc (.cells #[.int .u8 0, .int .u8 0, .int .u8 0, .int .u8 0, .int .u8 0, .int .u8 0, .int .u8 0, .int .u8 0, .int .u8 0, .int .u8 0, .int .u8 0, .int .u8 0, .int .u8 0, .int .u8 0, .int .u8 0, .int .u8 0, .int .u8 0, .int .u8 0, .int .u8 0, .int .u8 0, .int .u8 0, .int .u8 0, .int .u8 0, .int .u8 0, .int .u8 0, .int .u8 0, .int .u8 0, .int .u8 0, .int .u8 0, .int .u8 0, .int .u8 0, .int .u8 0] 24)).heap.size = w.heap.size + 1 by simp] at h
    exact h
  have HB0 := Lib.hid (((Below.refl w.heap.size w).alloc (Nat.le_refl _) (.cells #[.int .u8 0, .int .u8 0, .int .u8 0, .int .u8 0, .int .u8 0, .int .u8 0, .int .u8 0, .int .u8 0, .int .u8 0, .int .u8 0, .int .u8 0, .int .u8 0, .int .u8 0, .int .u8 0, .int .u8 0, .int .u8 0, .int .u8 0, .int .u8 0, .int .u8 0, .int .u8 0, .int .u8 0, .int .u8 0, .int .u8 0, .int .u8 0, .int .u8 0, .int .u8 0, .int .u8 0, .int .u8 0, .int .u8 0, .int .u8 0, .int .u8 0, .int .u8 0] 24)).alloc (by simp) (.cells #[.int .u8 0, .int .u8 0, .int .u8 0, .int .u8 0, .int .u8 0, .int .u8 0, .int .u8 0, .int .u8 0, .int .u8 0, .int .u8 0, .int .u8 0, .int .u8 0, .int .u8 0, .int .u8 0, .int .u8 0, .int .u8 0, .int .u8 0, .int .u8 0, .int .u8 0, .int .u8 0, .int .u8 0, .int .u8 0, .int .u8 0, .int .u8 0, .int .u8 0, .int .u8 0, .int .u8 0, .int .u8 0, .int .u8 0, .int .u8 0, .int .u8 0, .int .u8 0] 24))
  obtain ⟨fin, HFI⟩ : ∃ fin, Hid (bracketsF s i = fin) := ⟨_, rfl⟩
  rw [HFI.out]
  go_enter Tryd.func122, Tryd.ntmps122
  go_upto_region 2 with fail
  generalize (w.alloc (.cells #[.int .u8 0, .int .u8 0, .int .u8 0, .int .u8 0, .int .u8 0, .int .u8 0, .int .u8 0, .int .u8 0, .int .u8 0, .int .u8 0, .int .u8 0, .int .u8 0, .int .u8 0, .int .u8 0, .int .u8 0, .int .u8 0, .int .u8 0, .int .u8 0, .int .u8 0, .int .u8 0, .int .u8 0, .int .u8 0, .int .u8 0, .int .u8 0, .int .u8 0, .int .u8 0, .int .u8 0, .int .u8 0, .int .u8 0, .int .u8 0, .int .u8 0, .int .u8 0] 24)).alloc (.cells #[.int .u8 0, .int .u8 0, .int .u8 0, .int .u8 0, .int .u8 0, .int .u8 0, .int .u8 0, .int .u8 0, .int .u8 0, .int .u8 0, .int .u8 0, .int .u8 0, .int .u8 0, .int .u8 0, .int .u8 0, .int .u8 0, .int .u8 0, .int .u8 0, .int .u8 0, .int .u8 0, .int .u8 0, .int .u8 0, .int .u8 0, .int .u8 0, .int .u8 0, .int .u8 0, .int .u8 0, .int .u8 0, .int .u8 0, .int .u8 0, .int .u8 0, .int .u8 0] 24) = w1 at HA0 HS0 HB0 ⊢
  go_upto_region 3 with fail
  go_cut [32] (fun v wx => v = .bool (neg94 s i) ∧ w1 = wx)
  case first =>
    by_cases h1 : i + 1 < s.size
    · have h1i : (i : Int) + 1 < (s.size : Int) := by omega
      by_cases h94 : s[i + 1].toNat = 94
      · have t94 : ((s[i + 1].toNat : Int) == 94) = true := beq_iff_eq.2 (by omega)
        have HD : Hid (neg94 s i = true) := decide_eq_true ⟨h1, by rw [bt_get s (i + 1) h1]; exact h94⟩
        clear h94
        go_wp2_with fail
        go_meet
        exact ⟨by rw [HD.out], rfl⟩
      · have t94 : ((s[i + 1].toNat : Int) == 94) = false := beq_eq_false_iff_ne.2 (by omega)
        have HD : Hid (neg94 s i = false) := decide_eq_false (fun h => h94 (by rw [← bt_get s (i + 1) h1]; exact h.2))
        clear h94
        go_wp2_with fail
        go_meet
        exact ⟨by rw [HD.out], rfl⟩
    · have h1i : ¬ (i : Int) + 1 < (s.size : Int) := by omega
      have HD : Hid (neg94 s i = false) := decide_eq_false (fun h => h1 h.1)
      go_wp2_with fail
      go_meet
      exact ⟨by rw [HD.out], rfl⟩
  case rest =>
    obtain ⟨rfl, rfl⟩ := hcut
    go_upto_if 32 with fail
    go_cut [8, 9] (fun v8 v9 wx => ∃ (j0 : Nat) (inv : Bool), v8 = .int .i64 j0 ∧ v9 = .bool inv ∧ j0 ≤ s.size ∧ Hid (bracketsF s i = finishF inv (memsF s (s.size + 1) j0 false noP)) ∧ w1 = wx)
    case first =>
      by_cases h94 : i + 1 < s.size ∧ bt s (i + 1) = 94
      · have t94 : neg94 s i = true := decide_eq_true h94
        rw [t94]
        have HBR : Hid (bracketsF s i = finishF true (memsF s (s.size + 1) (i + 2) false noP)) := by show _ = _; unfold bracketsF; rw [if_pos h94]
        have h1 := h94.1
        clear h94
        go_wp2_with fail
        go_meet
        exact ⟨i + 2, true, by go_num, rfl, by omega, HBR.out, rfl⟩
      · have t94 : neg94 s i = false := decide_eq_false h94
        rw [t94]
        have HBR : Hid (bracketsF s i = finishF false (memsF s (s.size + 1) (i + 1) false noP)) := by show _ = _; unfold bracketsF; rw [if_neg h94]
        clear h94
        go_wp2_with fail
        go_meet
        exact ⟨i + 1, false, by go_num, rfl, by omega, HBR.out, rfl⟩
    case rest =>
      obtain ⟨j0, inv, rfl, rfl, hj0, HBR, rfl⟩ := hcut
      obtain ⟨V, HV⟩ : ∃ V, Hid (V = memsF s (s.size + 1) j0 false noP) := ⟨_, rfl⟩
      have HF0 : Hid (fin = finishF inv V) := by show _ = _; rw [← HFI.out, HV.out]; exact HBR.out
      clear HBR
      have HV0 : Hid (memsF s (s.size + 1) j0 (decide (0 < 0)) noP = V) := HV.out.symm
      clear HV HFI
      go_wp2_with fail
      go_loopg [8, 10] (s.size - j0) (fun n jv mv wr => ∃ (j m : Nat) (p : Nat → Bool) (f : Nat), jv = .int .i64 j ∧ mv = .int .i64 m ∧ j ≤ s.size ∧ m ≤ j ∧ Hid (SetIn wr w.heap.size 24 noP) ∧ Hid (SetIn wr (w.heap.size + 1) 24 p) ∧ Hid (Below w.heap.size w wr) ∧ Hid (s.size - j < f ∧ memsF s f j (decide (0 < m)) p = V) ∧ s.size - j ≤ n)
      case atStart => exact ⟨j0, 0, noP, s.size + 1, rfl, rfl, by omega, by omega, HA0.out, HS0.out, HB0.out, ⟨by omega, HV0.out⟩, by omega⟩
      case round =>
        clear HA0 HS0 HB0 HV0
        obtain ⟨j, m, p, f, rfl, rfl, hj, hm, HA, HS, HB, HX, hgk⟩ := hrel
        obtain ⟨f', HF'⟩ : ∃ f', Hid (f = f' + 1) := ⟨f - 1, by have := HX.out.1; show _ = _; omega⟩
        by_cases hlt : j < s.size
        · have hlti : (j : Int) < (s.size : Int) := by omega
          have hlte : ¬ (s.size : Int) ≤ (j : Int) := by omega
          have HX1 : Hid (s.size - j < f' + 1 ∧ (if bt s j = 93 ∧ decide (0 < m) = true then (p, j + 1, false) else goM s f' (memberF s j p)) = V) := by
            have h := HX.out
            rw [HF'.out] at h
            unfold memsF at h
            rw [if_pos hlt] at h
            exact h
          clear HX HF'
          by_cases hex : bt s j = 93 ∧ 0 < m
          · have HVE : Hid (V = (p, j + 1, false)) := by show _ = _; rw [← HX1.out.2, if_pos ⟨hex.1, decide_eq_true hex.2⟩]
            have h93 : s[j].toNat = 93 := by rw [← bt_get s j hlt]; exact hex.1
            have t93 : ((s[j].toNat : Int) == 93) = true := beq_iff_eq.2 (by omega)
            have hm0i : (0 : Int) < (m : Int) := by omega
            clear HX1 hex h93
            cases hinv : inv with
            | true =>
              subst hinv
              have HF : Hid (fin = ⟨notP p, 0, false, j + 1, false⟩) := by show _ = _; rw [HF0.out, HVE.out]; rfl
              clear HVE HF0
              go_wp2_with fail
              obtain ⟨wo, rfl⟩ : ∃ wo : World, wo = wr := ⟨_, rfl⟩
              have HM0 : Hid (SetIn wo (w.heap.size + 1) 24 (mixP p (notP p) 0)) := HS.out.congr fun n _ => by unfold mixP; rw [if_neg (by omega)]
              clear HS
              go_loopg [140] 32 (fun n kv wr => ∃ k : Nat, k ≤ 32 ∧ kv = .int .i64 k ∧ Hid (SetIn wr w.heap.size 24 noP) ∧ Hid (SetIn wr (w.heap.size + 1) 24 (mixP p (notP p) k)) ∧ Hid (Below w.heap.size w wr) ∧ 32 - k ≤ n)
              case atStart => exact ⟨0, by omega, rfl, HA.out, HM0.out, HB.out, by omega⟩
              case round =>
                clear HA HM0 HB
                obtain ⟨k, hk, rfl, HA, HS, HB, hgn⟩ := hrel
                by_cases hkl : k < 32
                · have q2 := HS.out.cell k hkl
                  have qf := HS.out.free k
                  rw [mix_byte, if_neg (by omega)] at q2
                  have HS2 := Lib.hid (HS.out.mix hkl)
                  have HNT := Lib.hid (not_byte p k)
                  have hv := byteOf_lt p k
                  generalize byteOf p k = v at q2 HNT hv
                  go_wp2_with fail
                  rw [show IntKind.u8.max = 255 from rfl, HNT.out]
                  go_roundg (32 - (k + 1))
                  case measure => omega
                  case rel => exact ⟨k + 1, by omega, by go_num, HA.out.keep (Below.heap_setCell _ _ _ _ (by show w.heap.size ≠ w.heap.size + 1; omega)), HS2.out, HB.out.setCell (p := ⟨w.heap.size + 1, k, none⟩) (Nat.le_succ _) _, Nat.le_refl _⟩
                · obtain rfl : k = 32 := by omega
                  have HI : Hid (SetIn wr (w.heap.size + 1) 24 (notP p)) := HS.out.congr fun n hn => by unfold mixP; rw [if_pos (by omega)]
                  go_wp2_with (first
                    | (refine wpList_load_row rfl 24 (.tmp 7) rfl ((w.heap.size + 1)) rfl 24 (setC (notP p)).toArray (0, 0) _ HI.out Tryd.underlying24 rfl (by rw [rset_size, setC_size]) ?_)
                    | (refine wpList_store_row rfl 24 (.tmp 4) (.tmp 150) rfl (w.heap.size) (setC (notP p)).toArray rfl rfl 24 (setC noP).toArray HA.out (by rw [rset_size, setC_size]) (by simp only [setC_size]) (setC_one _) ?_))
                  exact bodyPost_ret (v := .tuple #[.agg (setC (notP p)).toArray, .int .i64 ((j + 1 : Nat) : Int), .int .i64 (-1)]) (rres_set3 Tryd.results122 _ _ w.heap.size 24 (notP p) _ _ rfl rfl rfl (HA.out.row (notP p))) rfl ⟨⟨(notP p), by rw [HF.out]; exact fun _ _ _ => rfl, by (rw [HF.out] <;> rfl)⟩, below_setRow HB.out (Nat.le_refl _) _⟩
            | false =>
              subst hinv
              have HF : Hid (fin = ⟨p, 0, false, j + 1, false⟩) := by show _ = _; rw [HF0.out, HVE.out]; rfl
              clear HVE HF0
              go_wp2_with (first
                | (refine wpList_load_row rfl 24 (.tmp 7) rfl ((w.heap.size + 1)) rfl 24 (setC p).toArray (0, 0) _ HS.out Tryd.underlying24 rfl (by rw [rset_size, setC_size]) ?_)
                | (refine wpList_store_row rfl 24 (.tmp 4) (.tmp 150) rfl (w.heap.size) (setC p).toArray rfl rfl 24 (setC noP).toArray HA.out (by rw [rset_size, setC_size]) (by simp only [setC_size]) (setC_one _) ?_))
              exact bodyPost_ret (v := .tuple #[.agg (setC p).toArray, .int .i64 ((j + 1 : Nat) : Int), .int .i64 (-1)]) (rres_set3 Tryd.results122 _ _ w.heap.size 24 p _ _ rfl rfl rfl (HA.out.row p)) rfl ⟨⟨p, by rw [HF.out]; exact fun _ _ _ => rfl, by (rw [HF.out] <;> rfl)⟩, below_setRow HB.out (Nat.le_refl _) _⟩
          · have HX0 : Hid (s.size - j < f' + 1 ∧ goM s f' (memberF s j p) = V) := by
              have h := HX1.out
              rw [if_neg (fun e => hex ⟨e.1, of_decide_eq_true e.2⟩)] at h
              exact h
            clear HX1
            go_upto_region 7 with fail
            go_cut [49] (fun v wx => v = .bool false ∧ wr = wx)
            case first =>
              by_cases h93 : s[j].toNat = 93
              · have t93 : ((s[j].toNat : Int) == 93) = true := beq_iff_eq.2 (by omega)
                have hm0i : ¬ (0 : Int) < (m : Int) := fun h => hex ⟨by rw [bt_get s j hlt]; exact h93, by omega⟩
                have hm0b : decide (0 < m) = false := decide_eq_false (by omega)
                clear h93 hex
                go_wp2_with fail
                go_meet
                exact ⟨rfl, rfl⟩
              · have t93 : ((s[j].toNat : Int) == 93) = false := beq_eq_false_iff_ne.2 (by omega)
                clear h93 hex
                go_wp2_with fail
                go_meet
                exact ⟨rfl, rfl⟩
            case rest =>
              obtain ⟨rfl, rfl⟩ := hcut
              clear hex
              go_upto_region 9 with fail
              go_cut [62] (fun v wx => v = .bool (cls92 s j) ∧ wr = wx)
              case first =>
                by_cases h92 : s[j].toNat = 92
                · have t92 : ((s[j].toNat : Int) == 92) = true := beq_iff_eq.2 (by omega)
                  have h92' : bt s j = 92 := by rw [bt_get s j hlt]; exact h92
                  by_cases h1 : j + 1 < s.size
                  · have h1i : (j : Int) + 1 < (s.size : Int) := by omega
                    have HD : Hid (cls92 s j = true) := decide_eq_true ⟨h92', h1⟩
                    clear h92 h92'
                    go_wp2_with fail
                    go_meet
                    exact ⟨by rw [HD.out], rfl⟩
                  · have h1i : ¬ (j : Int) + 1 < (s.size : Int) := by omega
                    have HD : Hid (cls92 s j = false) := decide_eq_false (fun h => h1 h.2)
                    clear h92 h92'
                    go_wp2_with fail
                    go_meet
                    exact ⟨by rw [HD.out], rfl⟩
                · have t92 : ((s[j].toNat : Int) == 92) = false := beq_eq_false_iff_ne.2 (by omega)
                  have HD : Hid (cls92 s j = false) := decide_eq_false (fun h => h92 (by rw [← bt_get s j hlt]; exact h.1))
                  clear h92
                  go_wp2_with fail
                  go_meet
                  exact ⟨by rw [HD.out], rfl⟩
              case rest =>
                obtain ⟨rfl, rfl⟩ := hcut
                go_upto_if 62 with fail
                go_cut [8, 11, 12] (fun v8 v11 v12 wx => ∃ q11 q12, v8 = .int .i64 j ∧ v11 = q11 ∧ v12 = q12 ∧ Hid (SetIn wx w.heap.size 24 noP) ∧ Hid (SetIn wx (w.heap.size + 1) 24 p) ∧ Hid (Below w.heap.size w wx) ∧ Hid (s.size - j < f' + 1 ∧ goM s f' (rmemF s j p) = V))
                case first =>
                  by_cases hcl : bt s j = 92 ∧ j + 1 < s.size
                  · have tcl : cls92 s j = true := decide_eq_true hcl
                    rw [tcl]
                    have h1 := hcl.2
                    have h1i : (j : Int) + 1 < (s.size : Int) := by omega
                    by_cases hok : okL (bt s (j + 1)) = true
                    · have HXE : Hid (s.size - (j + 2) < f' ∧ memsF s f' (j + 2) true (orP p (setL (bt s (j + 1)))) = V) := by
                        have h := HX0.out
                        rw [member_cls s j p hcl.1 h1 hok] at h
                        exact ⟨by omega, h.2⟩
                      have HCL := Lib.hid (fun w => rclass_ok (bt s (j + 1)) w (bt_lt _ _) hok)
                      rw [show bt s (j + 1) = s[j + 1].toNat from bt_get s (j + 1) h1] at HCL HXE
                      clear HX0 hok hcl
                      generalize setL (s[j + 1].toNat) = q at HXE HCL
                      go_upto_region 12 with (first
                        | (go_at_call 123; refine (HCL.out _).mono ?_; rintro e w3 ⟨rfl, hb3⟩)
                        | (refine wpList_store_row rfl 24 (.tmp 11) (.tmp 69) rfl (w3.heap.size) (setC q).toArray rfl rfl 24 (setC noP).toArray (zero_in w3 24) (by rw [rset_size, setC_size]) (by simp only [setC_size]) (setC_one _) ?_))
                      have hsz3 := HB.out.size
                      have hlt3 := HS.out.lt
                      have hsz4 := hb3.size
                      have HA5 : Hid (SetIn ((w3.alloc (.cells #[.int .u8 0, .int .u8 0, .int .u8 0, .int .u8 0, .int .u8 0, .int .u8 0, .int .u8 0, .int .u8 0, .int .u8 0, .int .u8 0, .int .u8 0, .int .u8 0, .int .u8 0, .int .u8 0, .int .u8 0, .int .u8 0, .int .u8 0, .int .u8 0, .int .u8 0, .int .u8 0, .int .u8 0, .int .u8 0, .int .u8 0, .int .u8 0, .int .u8 0, .int .u8 0, .int .u8 0, .int .u8 0, .int .u8 0, .int .u8 0, .int .u8 0, .int .u8 0] 24)).setRow w3.heap.size (setC q).toArray) w.heap.size 24 noP) := ((HA.out.below hb3).keep (Below.heap_alloc _ _ _ (by omega))).keep (setRow_other _ _ _ _ (by omega))
                      have HS5 : Hid (SetIn ((w3.alloc (.cells #[.int .u8 0, .int .u8 0, .int .u8 0, .int .u8 0, .int .u8 0, .int .u8 0, .int .u8 0, .int .u8 0, .int .u8 0, .int .u8 0, .int .u8 0, .int .u8 0, .int .u8 0, .int .u8 0, .int .u8 0, .int .u8 0, .int .u8 0, .int .u8 0, .int .u8 0, .int .u8 0, .int .u8 0, .int .u8 0, .int .u8 0, .int .u8 0, .int .u8 0, .int .u8 0, .int .u8 0, .int .u8 0, .int .u8 0, .int .u8 0, .int .u8 0, .int .u8 0] 24)).setRow w3.heap.size (setC q).toArray) (w.heap.size + 1) 24 p) := ((HS.out.below hb3).keep (Below.heap_alloc _ _ _ (by omega))).keep (setRow_other _ _ _ _ (by omega))
                      have HC5 : Hid (SetIn ((w3.alloc (.cells #[.int .u8 0, .int .u8 0, .int .u8 0, .int .u8 0, .int .u8 0, .int .u8 0, .int .u8 0, .int .u8 0, .int .u8 0, .int .u8 0, .int .u8 0, .int .u8 0, .int .u8 0, .int .u8 0, .int .u8 0, .int .u8 0, .int .u8 0, .int .u8 0, .int .u8 0, .int .u8 0, .int .u8 0, .int .u8 0, .int .u8 0, .int .u8 0, .int .u8 0, .int .u8 0, .int .u8 0, .int .u8 0, .int .u8 0, .int .u8 0, .int .u8 0, .int .u8 0] 24)).setRow w3.heap.size (setC q).toArray) w3.heap.size 24 q) := (zero_in w3 24).row q
                      have HB5 : Hid (Below w.heap.size w ((w3.alloc (.cells #[.int .u8 0, .int .u8 0, .int .u8 0, .int .u8 0, .int .u8 0, .int .u8 0, .int .u8 0, .int .u8 0, .int .u8 0, .int .u8 0, .int .u8 0, .int .u8 0, .int .u8 0, .int .u8 0, .int .u8 0, .int .u8 0, .int .u8 0, .int .u8 0, .int .u8 0, .int .u8 0, .int .u8 0, .int .u8 0, .int .u8 0, .int .u8 0, .int .u8 0, .int .u8 0, .int .u8 0, .int .u8 0, .int .u8 0, .int .u8 0, .int .u8 0, .int .u8 0] 24)).setRow w3.heap.size (setC q).toArray)) := below_setRow ((HB.out.trans (hb3.mono (by omega))).alloc (by omega) _) (by omega) _
                      have hg : w.heap.size + 1 < w3.heap.size := by omega
                      clear HA HS HB hb3 HCL hsz3 hlt3 hsz4
                      generalize hw3 : w3.heap.size = g at HA5 HS5 HC5 HB5 hg ⊢
                      generalize (w3.alloc (.cells #[.int .u8 0, .int .u8 0, .int .u8 0, .int .u8 0, .int .u8 0, .int .u8 0, .int .u8 0, .int .u8 0, .int .u8 0, .int .u8 0, .int .u8 0, .int .u8 0, .int .u8 0, .int .u8 0, .int .u8 0, .int .u8 0, .int .u8 0, .int .u8 0, .int .u8 0, .int .u8 0, .int .u8 0, .int .u8 0, .int .u8 0, .int .u8 0, .int .u8 0, .int .u8 0, .int .u8 0, .int .u8 0, .int .u8 0, .int .u8 0, .int .u8 0, .int .u8 0] 24)).setRow g (setC q).toArray = w5 at HA5 HS5 HC5 HB5 ⊢
                      clear hw3
                      go_wp2_with fail
                      obtain ⟨wo, rfl⟩ : ∃ wo : World, wo = w5 := ⟨_, rfl⟩
                      have HM0 : Hid (SetIn wo (w.heap.size + 1) 24 (mixP p (orP p q) 0)) := HS5.out.congr fun n _ => by unfold mixP; rw [if_neg (by omega)]
                      clear HS5
                      go_loopg [72] 32 (fun n kv wr => ∃ k : Nat, k ≤ 32 ∧ kv = .int .i64 k ∧ Hid (SetIn wr w.heap.size 24 noP) ∧ Hid (SetIn wr (w.heap.size + 1) 24 (mixP p (orP p q) k)) ∧ Hid (SetIn wr g 24 q) ∧ Hid (Below w.heap.size w wr) ∧ 32 - k ≤ n)
                      case atStart => exact ⟨0, by omega, rfl, HA5.out, HM0.out, HC5.out, HB5.out, by omega⟩
                      case round =>
                        clear HA5 HM0 HC5 HB5
                        obtain ⟨k, hk, rfl, HA, HS, HC, HB, hgn⟩ := hrel
                        by_cases hkl : k < 32
                        · have q1 := HC.out.cell k hkl
                          have q2 := HS.out.cell k hkl
                          have qf := HS.out.free k
                          rw [mix_byte, if_neg (by omega)] at q2
                          have HM := Lib.hid (HS.out.mix hkl)
                          have HOR := Lib.hid (or_byte p q k)
                          have hv := byteOf_lt p k
                          have hu := byteOf_lt q k
                          generalize byteOf p k = v at q2 HOR hv
                          generalize byteOf q k = u at q1 HOR hu
                          go_wp2_with fail
                          go_region
                          all_goals
                            go_wp2_with fail
                            rw [HOR.out]
                            go_roundg (32 - (k + 1))
                            case measure => omega
                            case rel => exact ⟨k + 1, by omega, by go_num, (HA.out.keep (Below.heap_setCell _ _ _ _ (by show w.heap.size ≠ w.heap.size + 1; omega))), HM.out, (HC.out.keep (Below.heap_setCell _ _ _ _ (by show g ≠ w.heap.size + 1; omega))), below_drewN (HB.out.setCell (p := ⟨w.heap.size + 1, k, none⟩) (Nat.le_succ _) _) 1, Nat.le_refl _⟩
                        · obtain rfl : k = 32 := by omega
                          have HI : Hid (SetIn wr (w.heap.size + 1) 24 (orP p q)) := HS.out.congr fun n hn => by unfold mixP; rw [if_pos (by omega)]
                          go_wp2_with fail
                          go_roundg (s.size - (j + 2))
                          case measure => omega
                          case rel => exact ⟨(j + 2), m + 1, (orP p q), f', by first | rfl | go_num, by first | rfl | go_num, by omega, by omega, HA.out, HI.out, HB.out, HXE.out, Nat.le_refl _⟩
                    · have hok' : okL (bt s (j + 1)) = false := by simpa using hok
                      have HCL := Lib.hid (fun w => rclass_no (bt s (j + 1)) w (bt_lt _ _) hok')
                      rw [show bt s (j + 1) = s[j + 1].toNat from bt_get s (j + 1) h1] at HCL
                      have HX1 : Hid (s.size - j < f' + 1 ∧ goM s f' (rmemF s j p) = V) := by
                        have h := HX0.out
                        rw [member_ref s j p hlt (fun h => hok h.2.2)] at h
                        exact h
                      clear HX0
                      clear hok hok' hcl
                      go_wp2_with (first
                        | (go_at_call 123; refine (HCL.out _).mono ?_; rintro e w3 ⟨⟨q, rfl⟩, hb3⟩)
                        | (refine wpList_store_row rfl 24 (.tmp 11) (.tmp 69) rfl (w3.heap.size) (setC q).toArray rfl rfl 24 (setC noP).toArray (zero_in w3 24) (by rw [rset_size, setC_size]) (by simp only [setC_size]) (setC_one _) ?_))
                      have hsz3 := HB.out.size
                      have hlt3 := HS.out.lt
                      have hsz4 := hb3.size
                      have HA5 : Hid (SetIn ((w3.alloc (.cells #[.int .u8 0, .int .u8 0, .int .u8 0, .int .u8 0, .int .u8 0, .int .u8 0, .int .u8 0, .int .u8 0, .int .u8 0, .int .u8 0, .int .u8 0, .int .u8 0, .int .u8 0, .int .u8 0, .int .u8 0, .int .u8 0, .int .u8 0, .int .u8 0, .int .u8 0, .int .u8 0, .int .u8 0, .int .u8 0, .int .u8 0, .int .u8 0, .int .u8 0, .int .u8 0, .int .u8 0, .int .u8 0, .int .u8 0, .int .u8 0, .int .u8 0, .int .u8 0] 24)).setRow w3.heap.size (setC q).toArray) w.heap.size 24 noP) := ((HA.out.below hb3).keep (Below.heap_alloc _ _ _ (by omega))).keep (setRow_other _ _ _ _ (by omega))
                      have HS5 : Hid (SetIn ((w3.alloc (.cells #[.int .u8 0, .int .u8 0, .int .u8 0, .int .u8 0, .int .u8 0, .int .u8 0, .int .u8 0, .int .u8 0, .int .u8 0, .int .u8 0, .int .u8 0, .int .u8 0, .int .u8 0, .int .u8 0, .int .u8 0, .int .u8 0, .int .u8 0, .int .u8 0, .int .u8 0, .int .u8 0, .int .u8 0, .int .u8 0, .int .u8 0, .int .u8 0, .int .u8 0, .int .u8 0, .int .u8 0, .int .u8 0, .int .u8 0, .int .u8 0, .int .u8 0, .int .u8 0] 24)).setRow w3.heap.size (setC q).toArray) (w.heap.size + 1) 24 p) := ((HS.out.below hb3).keep (Below.heap_alloc _ _ _ (by omega))).keep (setRow_other _ _ _ _ (by omega))
                      have HC5 : Hid (SetIn ((w3.alloc (.cells #[.int .u8 0, .int .u8 0, .int .u8 0, .int .u8 0, .int .u8 0, .int .u8 0, .int .u8 0, .int .u8 0, .int .u8 0, .int .u8 0, .int .u8 0, .int .u8 0, .int .u8 0, .int .u8 0, .int .u8 0, .int .u8 0, .int .u8 0, .int .u8 0, .int .u8 0, .int .u8 0, .int .u8 0, .int .u8 0, .int .u8 0, .int .u8 0, .int .u8 0, .int .u8 0, .int .u8 0, .int .u8 0, .int .u8 0, .int .u8 0, .int .u8 0, .int .u8 0] 24)).setRow w3.heap.size (setC q).toArray) w3.heap.size 24 q) := (zero_in w3 24).row q
                      have HB5 : Hid (Below w.heap.size w ((w3.alloc (.cells #[.int .u8 0, .int .u8 0, .int .u8 0, .int .u8 0, .int .u8 0, .int .u8 0, .int .u8 0, .int .u8 0, .int .u8 0, .int .u8 0, .int .u8 0, .int .u8 0, .int .u8 0, .int .u8 0, .int .u8 0, .int .u8 0, .int .u8 0, .int .u8 0, .int .u8 0, .int .u8 0, .int .u8 0, .int .u8 0, .int .u8 0, .int .u8 0, .int .u8 0, .int .u8 0, .int .u8 0, .int .u8 0, .int .u8 0, .int .u8 0, .int .u8 0, .int .u8 0] 24)).setRow w3.heap.size (setC q).toArray)) := below_setRow ((HB.out.trans (hb3.mono (by omega))).alloc (by omega) _) (by omega) _
                      have hg : w.heap.size + 1 < w3.heap.size := by omega
                      clear HA HS HB hb3 HCL hsz3 hlt3 hsz4
                      generalize hw3 : w3.heap.size = g at HA5 HS5 HC5 HB5 hg ⊢
                      generalize (w3.alloc (.cells #[.int .u8 0, .int .u8 0, .int .u8 0, .int .u8 0, .int .u8 0, .int .u8 0, .int .u8 0, .int .u8 0, .int .u8 0, .int .u8 0, .int .u8 0, .int .u8 0, .int .u8 0, .int .u8 0, .int .u8 0, .int .u8 0, .int .u8 0, .int .u8 0, .int .u8 0, .int .u8 0, .int .u8 0, .int .u8 0, .int .u8 0, .int .u8 0, .int .u8 0, .int .u8 0, .int .u8 0, .int .u8 0, .int .u8 0, .int .u8 0, .int .u8 0, .int .u8 0] 24)).setRow g (setC q).toArray = w5 at HA5 HS5 HC5 HB5 ⊢
                      clear hw3
                      go_meet
                      exact ⟨_, _, rfl, rfl, rfl, HA5.out, HS5.out, HB5.out, HX1.out⟩
                  · have tcl : cls92 s j = false := decide_eq_false hcl
                    rw [tcl]
                    have HX1 : Hid (s.size - j < f' + 1 ∧ goM s f' (rmemF s j p) = V) := by
                      have h := HX0.out
                      rw [member_ref s j p hlt (fun h => hcl ⟨h.1, h.2.1⟩)] at h
                      exact h
                    clear HX0
                    clear hcl
                    go_wp2_with fail
                    go_meet
                    exact ⟨_, _, rfl, rfl, rfl, HA.out, HS.out, HB.out, HX1.out⟩
                case rest =>
                  clear HA HS HB HX0
                  obtain ⟨q11, q12, rfl, rfl, rfl, HA, HS, HB, HX1⟩ := hcut
                  have HR1 := Lib.hid (fun w => rsingle_any s j w hs (by omega))
                  have HOK1 := Lib.hid (rs_ok s j)
                  have HBAD1 := Lib.hid (rs_bad s j (by omega))
                  obtain ⟨⟨x, nx, bd⟩, HD1⟩ : ∃ r, Hid (r = rsF s j) := ⟨_, rfl⟩
                  rw [← HD1.out] at HOK1 HBAD1 HR1
                  go_upto_region 19 with (go_at_call 134; refine (HR1.out _).mono ?_; rintro e w' ⟨rfl, rfl⟩)
                  by_cases hbd : bd < 0
                  · obtain ⟨e1, hx, hn1, hn2⟩ := HOK1.out (by first | exact hbd | omega)
                    try simp only at e1 hx hn1 hn2
                    subst e1
                    clear HOK1 HBAD1 hbd
                    by_cases hnx : nx < s.size
                    · have hnxi : (nx : Int) < (s.size : Int) := by omega
                      by_cases h45 : s[nx].toNat = 45
                      · have t45 : ((s[nx].toNat : Int) == 45) = true := beq_iff_eq.2 (by omega)
                        have H45 : Hid (nx < s.size ∧ bt s nx = 45) := ⟨hnx, by rw [bt_get s nx hnx]; exact h45⟩
                        clear h45
                        have HR2 := Lib.hid (fun w => rsingle_any s (nx + 1) w hs (by omega))
                        have HOK2 := Lib.hid (rs_ok s (nx + 1))
                        have HBAD2 := Lib.hid (rs_bad s (nx + 1) (by omega))
                        obtain ⟨⟨y, ny, be⟩, HD2⟩ : ∃ r, Hid (r = rsF s (nx + 1)) := ⟨_, rfl⟩
                        rw [← HD2.out] at HOK2 HBAD2 HR2
                        by_cases hbe : be < 0
                        · obtain ⟨e2, hy, hm1, hm2⟩ := HOK2.out (by first | exact hbe | omega)
                          try simp only at e2 hy hm1 hm2
                          subst e2
                          clear HOK2 HBAD2 hbe
                          by_cases hyx : y < x
                          · have hyxi : (y : Int) < (x : Int) := by omega
                            have HF : Hid (fin = badR (nx + 1)) := by
                              show _ = _
                              have e : rmemF s j p = (p, nx + 1, true) := by
                                unfold rmemF rmem2
                                rw [← HD1.out, if_neg (show ¬ (0 : Int) ≤ -1 by decide), if_pos H45.out, ← HD2.out, if_neg (show ¬ (0 : Int) ≤ -1 by decide), if_pos hyx]
                                try rfl
                              have h := HX1.out.2
                              rw [e] at h
                              rw [HF0.out, ← h]
                              rfl
                            clear HX1 HF0 HD1 HD2 H45
                            go_wp2_with (first
                              | (go_at_call 134; refine (HR2.out _).mono ?_; rintro e w' ⟨rfl, rfl⟩)
                              | (refine wpList_load_row rfl 24 (.tmp 7) rfl ((w.heap.size + 1)) rfl 24 (setC p).toArray (0, 0) _ HS.out Tryd.underlying24 rfl (by rw [rset_size, setC_size]) ?_)
                              | (refine wpList_store_row rfl 24 (.tmp 4) (.tmp 125) rfl (w.heap.size) (setC p).toArray rfl rfl 24 (setC noP).toArray HA.out (by rw [rset_size, setC_size]) (by simp only [setC_size]) (setC_one _) ?_))
                            exact bodyPost_ret (v := .tuple #[.agg (setC p).toArray, .int .i64 0, .int .i64 ((nx + 1 : Nat) : Int)]) (rres_set3 Tryd.results122 _ _ w.heap.size 24 p _ _ rfl rfl rfl (HA.out.row p)) rfl ⟨⟨p, by rw [HF.out]; exact fun h => Bool.noConfusion h, by (rw [HF.out] <;> rfl)⟩, below_setRow HB.out (Nat.le_refl _) _⟩
                          · have hyxi : ¬ (y : Int) < (x : Int) := by omega
                            have HXE : Hid (s.size - ny < f' ∧ memsF s f' ny true (orP p (rng x (y + 1))) = V) := by
                              have e : rmemF s j p = ((orP p (rng x (y + 1))), ny, false) := by
                                unfold rmemF rmem2
                                rw [← HD1.out, if_neg (show ¬ (0 : Int) ≤ -1 by decide), if_pos H45.out, ← HD2.out, if_neg (show ¬ (0 : Int) ≤ -1 by decide), if_neg hyx]
                              have h := HX1.out.2
                              rw [e] at h
                              exact ⟨by have := HX1.out.1; omega, h⟩
                            clear HX1 HD1 HD2 H45
                            obtain ⟨wo, rfl⟩ : ∃ wo : World, wo = wc := ⟨_, rfl⟩
                            have HR0 : Hid (SetIn wo (w.heap.size + 1) 24 (orP p (rng x x))) := HS.out.congr (rng_none p x)
                            clear HS
                            go_wp2_with (go_at_call 134; refine (HR2.out _).mono ?_; rintro e w' ⟨rfl, rfl⟩)
                            go_loopg [19] (y + 1 - x) (fun n bv wr => ∃ b : Nat, x ≤ b ∧ b ≤ y + 1 ∧ bv = .int .i64 b ∧ Hid (SetIn wr w.heap.size 24 noP) ∧ Hid (SetIn wr (w.heap.size + 1) 24 (orP p (rng x b))) ∧ Hid (Below w.heap.size w wr) ∧ y + 1 - b ≤ n)
                            case atStart => exact ⟨x, Nat.le_refl _, by omega, rfl, HA.out, HR0.out, HB.out, Nat.le_refl _⟩
                            case round =>
                              clear HA HR0 HB
                              obtain ⟨b, hb1, hb2, rfl, HA, HS, HB, hgb⟩ := hrel
                              by_cases hbl : b < y + 1
                              · have hbi : (b : Int) ≤ (y : Int) := by omega
                                have ec : IntKind.u8.wrap (b : Int) = (b : Int) := by rw [IntKind.wrap_u8]; omega
                                go_wp2_with (go_at_call 124; refine (put_any _ (w.heap.size + 1) b _ _ (by exact HS.out) (by omega)).mono ?_; rintro e w2 ⟨rfl, hs2, ho2⟩)
                                have HS2 := Lib.hid (hs2.congr (rng_add p x b hb1))
                                have HA2 := Lib.hid (HA.out.keep (ho2.block _ HA.out.lt (by omega)))
                                have HB2 := Lib.hid (HB.out.trans (ho2.below (B := w.heap.size) (Nat.le_succ _) HB.out.size))
                                go_wp2_with fail
                                go_roundg (y + 1 - (b + 1))
                                case measure => omega
                                case rel => exact ⟨b + 1, by omega, by omega, by go_num, HA2.out, HS2.out, HB2.out, Nat.le_refl _⟩
                              · obtain rfl : b = y + 1 := by omega
                                have hbi : ¬ ((y + 1 : Nat) : Int) ≤ (y : Int) := by omega
                                go_wp2_with fail
                                go_roundg (s.size - ny)
                                case measure => omega
                                case rel => exact ⟨ny, m + 1, (orP p (rng x (y + 1))), f', by first | rfl | go_num, by first | rfl | go_num, by omega, by omega, HA.out, HS.out, HB.out, HXE.out, Nat.le_refl _⟩
                        · obtain ⟨k, e2, hk⟩ := HBAD2.out (by first | exact hbe | omega)
                          try simp only at e2
                          subst e2
                          have HF : Hid (fin = badR (k)) := by
                            show _ = _
                            have e : rmemF s j p = (p, k, true) := by
                              unfold rmemF rmem2
                              rw [← HD1.out, if_neg (show ¬ (0 : Int) ≤ -1 by decide), if_pos H45.out, ← HD2.out, if_pos (show (0 : Int) ≤ (k : Int) by omega)]
                              try rfl
                            have h := HX1.out.2
                            rw [e] at h
                            rw [HF0.out, ← h]
                            rfl
                          clear HX1 HF0 HOK2 HBAD2 hbe HD1 HD2 H45
                          go_wp2_with (first
                            | (go_at_call 134; refine (HR2.out _).mono ?_; rintro e w' ⟨rfl, rfl⟩)
                            | (refine wpList_load_row rfl 24 (.tmp 7) rfl ((w.heap.size + 1)) rfl 24 (setC p).toArray (0, 0) _ HS.out Tryd.underlying24 rfl (by rw [rset_size, setC_size]) ?_)
                            | (refine wpList_store_row rfl 24 (.tmp 4) (.tmp 120) rfl (w.heap.size) (setC p).toArray rfl rfl 24 (setC noP).toArray HA.out (by rw [rset_size, setC_size]) (by simp only [setC_size]) (setC_one _) ?_))
                          exact bodyPost_ret (v := .tuple #[.agg (setC p).toArray, .int .i64 0, .int .i64 ((k : Nat) : Int)]) (rres_set3 Tryd.results122 _ _ w.heap.size 24 p _ _ rfl rfl rfl (HA.out.row p)) rfl ⟨⟨p, by rw [HF.out]; exact fun h => Bool.noConfusion h, by (rw [HF.out] <;> rfl)⟩, below_setRow HB.out (Nat.le_refl _) _⟩
                      · have t45 : ((s[nx].toNat : Int) == 45) = false := beq_eq_false_iff_ne.2 (by omega)
                        have h45' : ¬ (nx < s.size ∧ bt s nx = 45) := fun h => h45 (by rw [← bt_get s nx hnx]; exact h.2)
                        have HXE : Hid (s.size - nx < f' ∧ memsF s f' nx true (orP p (rng x (x + 1))) = V) := by
                          have e : rmemF s j p = ((orP p (rng x (x + 1))), nx, false) := by
                            unfold rmemF rmem2
                            rw [← HD1.out, if_neg (show ¬ (0 : Int) ≤ -1 by decide), if_neg h45']
                          have h := HX1.out.2
                          rw [e] at h
                          exact ⟨by have := HX1.out.1; omega, h⟩
                        clear h45 h45' HX1 HD1
                        obtain ⟨wo, rfl⟩ : ∃ wo : World, wo = wc := ⟨_, rfl⟩
                        have HR0 : Hid (SetIn wo (w.heap.size + 1) 24 (orP p (rng x x))) := HS.out.congr (rng_none p x)
                        clear HS
                        go_wp2_with fail
                        go_loopg [19] (x + 1 - x) (fun n bv wr => ∃ b : Nat, x ≤ b ∧ b ≤ x + 1 ∧ bv = .int .i64 b ∧ Hid (SetIn wr w.heap.size 24 noP) ∧ Hid (SetIn wr (w.heap.size + 1) 24 (orP p (rng x b))) ∧ Hid (Below w.heap.size w wr) ∧ x + 1 - b ≤ n)
                        case atStart => exact ⟨x, Nat.le_refl _, by omega, rfl, HA.out, HR0.out, HB.out, Nat.le_refl _⟩
                        case round =>
                          clear HA HR0 HB
                          obtain ⟨b, hb1, hb2, rfl, HA, HS, HB, hgb⟩ := hrel
                          by_cases hbl : b < x + 1
                          · have hbi : (b : Int) ≤ (x : Int) := by omega
                            have ec : IntKind.u8.wrap (b : Int) = (b : Int) := by rw [IntKind.wrap_u8]; omega
                            go_wp2_with (go_at_call 124; refine (put_any _ (w.heap.size + 1) b _ _ (by exact HS.out) (by omega)).mono ?_; rintro e w2 ⟨rfl, hs2, ho2⟩)
                            have HS2 := Lib.hid (hs2.congr (rng_add p x b hb1))
                            have HA2 := Lib.hid (HA.out.keep (ho2.block _ HA.out.lt (by omega)))
                            have HB2 := Lib.hid (HB.out.trans (ho2.below (B := w.heap.size) (Nat.le_succ _) HB.out.size))
                            go_wp2_with fail
                            go_roundg (x + 1 - (b + 1))
                            case measure => omega
                            case rel => exact ⟨b + 1, by omega, by omega, by go_num, HA2.out, HS2.out, HB2.out, Nat.le_refl _⟩
                          · obtain rfl : b = x + 1 := by omega
                            have hbi : ¬ ((x + 1 : Nat) : Int) ≤ (x : Int) := by omega
                            go_wp2_with fail
                            go_roundg (s.size - nx)
                            case measure => omega
                            case rel => exact ⟨nx, m + 1, (orP p (rng x (x + 1))), f', by first | rfl | go_num, by first | rfl | go_num, by omega, by omega, HA.out, HS.out, HB.out, HXE.out, Nat.le_refl _⟩
                    · have hnxi : ¬ (nx : Int) < (s.size : Int) := by omega
                      have h45' : ¬ (nx < s.size ∧ bt s nx = 45) := fun h => hnx h.1
                      have HXE : Hid (s.size - nx < f' ∧ memsF s f' nx true (orP p (rng x (x + 1))) = V) := by
                        have e : rmemF s j p = ((orP p (rng x (x + 1))), nx, false) := by
                          unfold rmemF rmem2
                          rw [← HD1.out, if_neg (show ¬ (0 : Int) ≤ -1 by decide), if_neg h45']
                        have h := HX1.out.2
                        rw [e] at h
                        exact ⟨by have := HX1.out.1; omega, h⟩
                      clear h45' HX1 HD1
                      obtain ⟨wo, rfl⟩ : ∃ wo : World, wo = wc := ⟨_, rfl⟩
                      have HR0 : Hid (SetIn wo (w.heap.size + 1) 24 (orP p (rng x x))) := HS.out.congr (rng_none p x)
                      clear HS
                      go_wp2_with fail
                      go_loopg [19] (x + 1 - x) (fun n bv wr => ∃ b : Nat, x ≤ b ∧ b ≤ x + 1 ∧ bv = .int .i64 b ∧ Hid (SetIn wr w.heap.size 24 noP) ∧ Hid (SetIn wr (w.heap.size + 1) 24 (orP p (rng x b))) ∧ Hid (Below w.heap.size w wr) ∧ x + 1 - b ≤ n)
                      case atStart => exact ⟨x, Nat.le_refl _, by omega, rfl, HA.out, HR0.out, HB.out, Nat.le_refl _⟩
                      case round =>
                        clear HA HR0 HB
                        obtain ⟨b, hb1, hb2, rfl, HA, HS, HB, hgb⟩ := hrel
                        by_cases hbl : b < x + 1
                        · have hbi : (b : Int) ≤ (x : Int) := by omega
                          have ec : IntKind.u8.wrap (b : Int) = (b : Int) := by rw [IntKind.wrap_u8]; omega
                          go_wp2_with (go_at_call 124; refine (put_any _ (w.heap.size + 1) b _ _ (by exact HS.out) (by omega)).mono ?_; rintro e w2 ⟨rfl, hs2, ho2⟩)
                          have HS2 := Lib.hid (hs2.congr (rng_add p x b hb1))
                          have HA2 := Lib.hid (HA.out.keep (ho2.block _ HA.out.lt (by omega)))
                          have HB2 := Lib.hid (HB.out.trans (ho2.below (B := w.heap.size) (Nat.le_succ _) HB.out.size))
                          go_wp2_with fail
                          go_roundg (x + 1 - (b + 1))
                          case measure => omega
                          case rel => exact ⟨b + 1, by omega, by omega, by go_num, HA2.out, HS2.out, HB2.out, Nat.le_refl _⟩
                        · obtain rfl : b = x + 1 := by omega
                          have hbi : ¬ ((x + 1 : Nat) : Int) ≤ (x : Int) := by omega
                          go_wp2_with fail
                          go_roundg (s.size - nx)
                          case measure => omega
                          case rel => exact ⟨nx, m + 1, (orP p (rng x (x + 1))), f', by first | rfl | go_num, by first | rfl | go_num, by omega, by omega, HA.out, HS.out, HB.out, HXE.out, Nat.le_refl _⟩
                  · obtain ⟨k, e1, hk⟩ := HBAD1.out (by first | exact hbd | omega)
                    try simp only at e1
                    subst e1
                    have HF : Hid (fin = badR (k)) := by
                      show _ = _
                      have e : rmemF s j p = (p, k, true) := by
                        unfold rmemF 
                        rw [← HD1.out, if_pos (show (0 : Int) ≤ (k : Int) by omega)]
                        try rfl
                      have h := HX1.out.2
                      rw [e] at h
                      rw [HF0.out, ← h]
                      rfl
                    clear HX1 HF0 HOK1 HBAD1 hbd HD1
                    go_wp2_with (first
                      | fail
                      | (refine wpList_load_row rfl 24 (.tmp 7) rfl ((w.heap.size + 1)) rfl 24 (setC p).toArray (0, 0) _ HS.out Tryd.underlying24 rfl (by rw [rset_size, setC_size]) ?_)
                      | (refine wpList_store_row rfl 24 (.tmp 4) (.tmp 95) rfl (w.heap.size) (setC p).toArray rfl rfl 24 (setC noP).toArray HA.out (by rw [rset_size, setC_size]) (by simp only [setC_size]) (setC_one _) ?_))
                    exact bodyPost_ret (v := .tuple #[.agg (setC p).toArray, .int .i64 0, .int .i64 ((k : Nat) : Int)]) (rres_set3 Tryd.results122 _ _ w.heap.size 24 p _ _ rfl rfl rfl (HA.out.row p)) rfl ⟨⟨p, by rw [HF.out]; exact fun h => Bool.noConfusion h, by (rw [HF.out] <;> rfl)⟩, below_setRow HB.out (Nat.le_refl _) _⟩
        · have hlte : (s.size : Int) ≤ (j : Int) := by omega
          have HVE : Hid (V = (noP, j, true)) := by
            have h := HX.out.2
            rw [HF'.out] at h
            unfold memsF at h
            rw [if_neg hlt] at h
            exact h.symm
          have HF : Hid (fin = badR s.size) := by show _ = _; rw [HF0.out, HVE.out, show j = s.size by omega]; rfl
          clear HVE HX HF' HF0
          go_wp2_with (first
            | (refine wpList_load_row rfl 24 (.tmp 7) rfl ((w.heap.size + 1)) rfl 24 (setC p).toArray (0, 0) _ HS.out Tryd.underlying24 rfl (by rw [rset_size, setC_size]) ?_)
            | (refine wpList_store_row rfl 24 (.tmp 4) (.tmp 39) rfl (w.heap.size) (setC p).toArray rfl rfl 24 (setC noP).toArray HA.out (by rw [rset_size, setC_size]) (by simp only [setC_size]) (setC_one _) ?_))
          exact bodyPost_ret (v := .tuple #[.agg (setC p).toArray, .int .i64 0, .int .i64 (s.size : Int)]) (rres_set3 Tryd.results122 _ _ w.heap.size 24 p _ _ rfl rfl rfl (HA.out.row p)) rfl ⟨⟨p, by rw [HF.out]; exact fun h => Bool.noConfusion h, by (rw [HF.out] <;> rfl)⟩, below_setRow HB.out (Nat.le_refl _) _⟩

end Go.Proofs.YtpboaadjbkaidaaDoor

namespace Go.Proofs.YtpboaadjbkaidaaDoor
set_option maxRecDepth 100000
open Go.RowKit

theorem full_byte (k : Nat) : byteOf (notP noP) k = 255 := by simp [byteOf, b2n, notP, noP]
theorem RetSet.ok {w w' : World} {r : SR} {e : Ending} (h : RetSet w r e w') (hb : r.bad = false) : e = .returned (.tuple #[.agg (setC r.p).toArray, .int .i64 (r.j : Nat), .int .i64 (-1)]) ∧ Below w.heap.size w w' := by
  obtain ⟨⟨p, hp, he⟩, hw⟩ := h
  rw [setC_congr (hp hb), hb] at he
  exact ⟨he, hw⟩
theorem RetSet.no {w w' : World} {r : SR} {e : Ending} (h : RetSet w r e w') (hb : r.bad = true) : (∃ p, e = .returned (.tuple #[.agg (setC p).toArray, .int .i64 0, .int .i64 (r.j : Nat)])) ∧ Below w.heap.size w w' := by
  obtain ⟨⟨p, _, he⟩, hw⟩ := h
  rw [hb] at he
  exact ⟨⟨p, he⟩, hw⟩

set_option maxRecDepth 100000 in
set_option maxHeartbeats 8000000 in
theorem rset_any (w : World) (s : ByteArray) (i : Nat) (hi : i < s.size) (hs : s.size ≤ 2147483648) :
    Calls Tryd.prog 114 #[.string s, .int .i64 i] w (RetSet w (outF s i)) := by
  have HA0 : Hid (SetIn ((w.alloc (.cells #[.int .u8 0, .int .u8 0, .int .u8 0, .int .u8 0, .int .u8 0, .int .u8 0, .int .u8 0, .int .u8 0, .int .u8 0, .int .u8 0, .int .u8 0, .int .u8 0, .int .u8 0, .int .u8 0, .int .u8 0, .int .u8 0, .int .u8 0, .int .u8 0, .int .u8 0, .int .u8 0, .int .u8 0, .int .u8 0, .int .u8 0, .int .u8 0, .int .u8 0, .int .u8 0, .int .u8 0, .int .u8 0, .int .u8 0, .int .u8 0, .int .u8 0, .int .u8 0] 24)).alloc (.cells #[.int .u8 0, .int .u8 0, .int .u8 0, .int .u8 0, .int .u8 0, .int .u8 0, .int .u8 0, .int .u8 0, .int .u8 0, .int .u8 0, .int .u8 0, .int .u8 0, .int .u8 0, .int .u8 0, .int .u8 0, .int .u8 0, .int .u8 0, .int .u8 0, .int .u8 0, .int .u8 0, .int .u8 0, .int .u8 0, .int .u8 0, .int .u8 0, .int .u8 0, .int .u8 0, .int .u8 0, .int .u8 0, .int .u8 0, .int .u8 0, .int .u8 0, .int .u8 0] 24)) w.heap.size 24 noP) := (zero_in w 24).keep (Below.heap_alloc _ _ _ (by simp))
  have HS0 : Hid (SetIn ((w.alloc (.cells #[.int .u8 0, .int .u8 0, .int .u8 0, .int .u8 0, .int .u8 0, .int .u8 0, .int .u8 0, .int .u8 0, .int .u8 0, .int .u8 0, .int .u8 0, .int .u8 0, .int .u8 0, .int .u8 0, .int .u8 0, .int .u8 0, .int .u8 0, .int .u8 0, .int .u8 0, .int .u8 0, .int .u8 0, .int .u8 0, .int .u8 0, .int .u8 0, .int .u8 0, .int .u8 0, .int .u8 0, .int .u8 0, .int .u8 0, .int .u8 0, .int .u8 0, .int .u8 0] 24)).alloc (.cells #[.int .u8 0, .int .u8 0, .int .u8 0, .int .u8 0, .int .u8 0, .int .u8 0, .int .u8 0, .int .u8 0, .int .u8 0, .int .u8 0, .int .u8 0, .int .u8 0, .int .u8 0, .int .u8 0, .int .u8 0, .int .u8 0, .int .u8 0, .int .u8 0, .int .u8 0, .int .u8 0, .int .u8 0, .int .u8 0, .int .u8 0, .int .u8 0, .int .u8 0, .int .u8 0, .int .u8 0, .int .u8 0, .int .u8 0, .int .u8 0, .int .u8 0, .int .u8 0] 24)) (w.heap.size + 1) 24 noP) := by
    have h := zero_in (w.alloc (.cells #[.int .u8 0, .int .u8 0, .int .u8 0, .int .u8 0, .int .u8 0, .int .u8 0, .int .u8 0, .int .u8 0, .int .u8 0, .int .u8 0, .int .u8 0, .int .u8 0, .int .u8 0, .int .u8 0, .int .u8 0, .int .u8 0, .int .u8 0, .int .u8 0, .int .u8 0, .int .u8 0, .int .u8 0, .int .u8 0, .int .u8 0, .int .u8 0, .int .u8 0, .int .u8 0, .int .u8 0, .int .u8 0, .int .u8 0, .int .u8 0, .int .u8 0, .int .u8 0] 24)) 24
    rw [show (w.alloc (.cells #[.int .u8 0, .int .u8 0, .int .u8 0, .int .u8 0, .int .u8 0, .int .u8 0, .int .u8 0, .int .u8 0, .int .u8 0, .int .u8 0, .int .u8 0, .int .u8 0, .int .u8 0, .int .u8 0, .int .u8 0, .int .u8 0, .int .u8 0, .int .u8 0, .int .u8 0, .int .u8 0, .int .u8 0, .int .u8 0, .int .u8 0, .int .u8 0, .int .u8 0, .int .u8 0, .int .u8 0, .int .u8 0, .int .u8 0, .int .u8 0, .int .u8 0, .int .u8 0] 24)).heap.size = w.heap.size + 1 by simp] at h
    exact h
  have HB0 := Lib.hid (((Below.refl w.heap.size w).alloc (Nat.le_refl _) (.cells #[.int .u8 0, .int .u8 0, .int .u8 0, .int .u8 0, .int .u8 0, .int .u8 0, .int .u8 0, .int .u8 0, .int .u8 0, .int .u8 0, .int .u8 0, .int .u8 0, .int .u8 0, .int .u8 0, .int .u8 0, .int .u8 0, .int .u8 0, .int .u8 0, .int .u8 0, .int .u8 0, .int .u8 0, .int .u8 0, .int .u8 0, .int .u8 0, .int .u8 0, .int .u8 0, .int .u8 0, .int .u8 0, .int .u8 0, .int .u8 0, .int .u8 0, .int .u8 0] 24)).alloc (by simp) (.cells #[.int .u8 0, .int .u8 0, .int .u8 0, .int .u8 0, .int .u8 0, .int .u8 0, .int .u8 0, .int .u8 0, .int .u8 0, .int .u8 0, .int .u8 0, .int .u8 0, .int .u8 0, .int .u8 0, .int .u8 0, .int .u8 0, .int .u8 0, .int .u8 0, .int .u8 0, .int .u8 0, .int .u8 0, .int .u8 0, .int .u8 0, .int .u8 0, .int .u8 0, .int .u8 0, .int .u8 0, .int .u8 0, .int .u8 0, .int .u8 0, .int .u8 0, .int .u8 0] 24))
  have hii : (i : Int) < (s.size : Int) := by omega
  go_enter Tryd.func114, Tryd.ntmps114
  go_upto_region 2 with fail
  generalize (w.alloc (.cells #[.int .u8 0, .int .u8 0, .int .u8 0, .int .u8 0, .int .u8 0, .int .u8 0, .int .u8 0, .int .u8 0, .int .u8 0, .int .u8 0, .int .u8 0, .int .u8 0, .int .u8 0, .int .u8 0, .int .u8 0, .int .u8 0, .int .u8 0, .int .u8 0, .int .u8 0, .int .u8 0, .int .u8 0, .int .u8 0, .int .u8 0, .int .u8 0, .int .u8 0, .int .u8 0, .int .u8 0, .int .u8 0, .int .u8 0, .int .u8 0, .int .u8 0, .int .u8 0] 24)).alloc (.cells #[.int .u8 0, .int .u8 0, .int .u8 0, .int .u8 0, .int .u8 0, .int .u8 0, .int .u8 0, .int .u8 0, .int .u8 0, .int .u8 0, .int .u8 0, .int .u8 0, .int .u8 0, .int .u8 0, .int .u8 0, .int .u8 0, .int .u8 0, .int .u8 0, .int .u8 0, .int .u8 0, .int .u8 0, .int .u8 0, .int .u8 0, .int .u8 0, .int .u8 0, .int .u8 0, .int .u8 0, .int .u8 0, .int .u8 0, .int .u8 0, .int .u8 0, .int .u8 0] 24) = w1 at HA0 HS0 HB0 ⊢
  obtain ⟨c, HC⟩ : ∃ c, Hid (c = bt s i) := ⟨_, rfl⟩
  have hg : s[i].toNat = c := by rw [HC.out, bt_get s i hi]
  have hcc : c < 256 := by rw [HC.out]; exact bt_lt s i
  by_cases h46 : c = 46
  · have t46 : ((s[i].toNat : Int) == 46) = true := beq_iff_eq.2 (by omega)
    have HF : Hid (outF s i = ⟨notP noP, 0, false, i + 1, false⟩) := by
      show _ = _
      unfold outF
      rw [← HC.out, if_pos h46]
    clear h46 hg
    go_wp2_with fail
    obtain ⟨wo, rfl⟩ : ∃ wo : World, wo = w1 := ⟨_, rfl⟩
    have HM0 : Hid (SetIn wo (w.heap.size + 1) 24 (mixP noP (notP noP) 0)) := HS0.out.congr fun n _ => by unfold mixP; rw [if_neg (by omega)]
    clear HS0
    go_loopg [16] 32 (fun n kv wr => ∃ k : Nat, k ≤ 32 ∧ kv = .int .i64 k ∧ Hid (SetIn wr w.heap.size 24 noP) ∧ Hid (SetIn wr (w.heap.size + 1) 24 (mixP noP (notP noP) k)) ∧ Hid (Below w.heap.size w wr) ∧ 32 - k ≤ n)
    case atStart => exact ⟨0, by omega, rfl, HA0.out, HM0.out, HB0.out, by omega⟩
    case round =>
      clear HA0 HM0 HB0
      obtain ⟨k, hk, rfl, HA, HS, HB, hgn⟩ := hrel
      by_cases hkl : k < 32
      · have q2 := HS.out.cell k hkl
        have qf := HS.out.free k
        rw [mix_byte, if_neg (by omega)] at q2
        have HS2 := Lib.hid (HS.out.mix hkl)
        rw [full_byte k] at HS2
        generalize byteOf noP k = v at q2
        go_wp2_with fail
        go_roundg (32 - (k + 1))
        case measure => omega
        case rel => exact ⟨k + 1, by omega, by go_num, HA.out.keep (Below.heap_setCell _ _ _ _ (by show w.heap.size ≠ w.heap.size + 1; omega)), HS2.out, HB.out.setCell (p := ⟨w.heap.size + 1, k, none⟩) (Nat.le_succ _) _, Nat.le_refl _⟩
      · obtain rfl : k = 32 := by omega
        have HI : Hid (SetIn wr (w.heap.size + 1) 24 (notP noP)) := HS.out.congr fun n hn => by unfold mixP; rw [if_pos (by omega)]
        go_wp2_with (first
          | (refine wpList_load_row rfl 24 (.tmp 7) rfl ((w.heap.size + 1)) rfl 24 (setC (notP noP)).toArray (0, 0) _ HI.out Tryd.underlying24 rfl (by rw [rset_size, setC_size]) ?_)
          | (refine wpList_store_row rfl 24 (.tmp 4) (.tmp 22) rfl (w.heap.size) (setC (notP noP)).toArray rfl rfl 24 (setC noP).toArray HA.out (by rw [rset_size, setC_size]) (by simp only [setC_size]) (setC_one _) ?_))
        exact bodyPost_ret (v := .tuple #[.agg (setC (notP noP)).toArray, .int .i64 ((i + 1 : Nat) : Int), .int .i64 (-1)]) (rres_set3 Tryd.results114 _ _ w.heap.size 24 (notP noP) _ _ rfl rfl rfl (HA.out.row (notP noP))) rfl ⟨⟨(notP noP), by rw [HF.out]; exact fun _ _ _ => rfl, by (rw [HF.out] <;> rfl)⟩, below_setRow HB.out (Nat.le_refl _) _⟩
  have t46 : ((s[i].toNat : Int) == 46) = false := beq_eq_false_iff_ne.2 (by omega)
  by_cases h91 : c = 91
  · have t91 : ((s[i].toNat : Int) == 91) = true := beq_iff_eq.2 (by omega)
    have HF : Hid (outF s i = bracketsF s i) := by
      show _ = _
      unfold outF
      rw [← HC.out, if_neg h46, if_neg (by omega), if_pos h91]
    clear h46 h91 hg
    obtain ⟨r, HRR⟩ : ∃ r, Hid (bracketsF s i = r) := ⟨_, rfl⟩
    rw [HRR.out] at HF
    by_cases hb : r.bad = true
    · have HBR := Lib.hid ((rbrackets_any w1 s i hi hs).mono fun e w' h => RetSet.no h (by rw [HRR.out]; exact hb))
      rw [HRR.out] at HBR
      go_wp2_with (first
        | (go_at_call 122; refine HBR.out.mono ?_; rintro e w3 ⟨⟨p, rfl⟩, hb3⟩)
        | (refine wpList_store_row rfl 24 (.tmp 4) (.tmp 33) rfl (w.heap.size) (setC p).toArray rfl rfl 24 (setC noP).toArray (HA0.out.below hb3) (by rw [rset_size, setC_size]) (by simp only [setC_size]) (setC_one _) ?_))
      have HB3 := Lib.hid (HB0.out.trans (hb3.mono HB0.out.size))
      exact bodyPost_ret (v := .tuple #[.agg (setC p).toArray, .int .i64 0, .int .i64 (r.j : Nat)]) (rres_set3 Tryd.results114 _ _ w.heap.size 24 p _ _ rfl rfl rfl ((HA0.out.below hb3).row p)) rfl ⟨⟨p, by (rw [HF.out]; exact fun h => by rw [hb] at h; exact Bool.noConfusion h), by (rw [HF.out, hb] <;> rfl)⟩, below_setRow HB3.out (Nat.le_refl _) _⟩
    · have hb' : r.bad = false := by simpa using hb
      have HBR := Lib.hid ((rbrackets_any w1 s i hi hs).mono fun e w' h => RetSet.ok h (by rw [HRR.out]; exact hb'))
      rw [HRR.out] at HBR
      go_wp2_with (first
        | (go_at_call 122; refine HBR.out.mono ?_; rintro e w3 ⟨rfl, hb3⟩)
        | (refine wpList_store_row rfl 24 (.tmp 4) (.tmp 33) rfl (w.heap.size) (setC r.p).toArray rfl rfl 24 (setC noP).toArray (HA0.out.below hb3) (by rw [rset_size, setC_size]) (by simp only [setC_size]) (setC_one _) ?_))
      have HB3 := Lib.hid (HB0.out.trans (hb3.mono HB0.out.size))
      exact bodyPost_ret (v := .tuple #[.agg (setC r.p).toArray, .int .i64 (r.j : Nat), .int .i64 (-1)]) (rres_set3 Tryd.results114 _ _ w.heap.size 24 r.p _ _ rfl rfl rfl ((HA0.out.below hb3).row r.p)) rfl ⟨⟨r.p, by (rw [HF.out]; exact fun _ _ _ => rfl), by (rw [HF.out, hb'] <;> rfl)⟩, below_setRow HB3.out (Nat.le_refl _) _⟩
  have t91 : ((s[i].toNat : Int) == 91) = false := beq_eq_false_iff_ne.2 (by omega)
  by_cases h92 : c = 92
  · have t92 : ((s[i].toNat : Int) == 92) = true := beq_iff_eq.2 (by omega)
    have HE : Hid (outF s i = escF s i) := by
      show _ = _
      unfold outF
      rw [← HC.out, if_neg h46, if_pos h92]
    clear h46 h91 h92 hg
    by_cases h1 : i + 1 < s.size
    · have h1i : ¬ (s.size : Int) ≤ (i : Int) + 1 := by omega
      have h1j : (i : Int) + 1 < (s.size : Int) := by omega
      by_cases hok : okL (bt s (i + 1)) = true
      · have HF : Hid (outF s i = ⟨setL (bt s (i + 1)), bt s (i + 1), false, i + 2, false⟩) := by show _ = _; rw [HE.out, esc_cls s i h1 hok]
        have HCL := Lib.hid (fun w => rclass_ok (bt s (i + 1)) w (bt_lt _ _) hok)
        clear HE
        rw [show bt s (i + 1) = s[i + 1].toNat from bt_get s (i + 1) h1] at HCL HF
        clear hok
        generalize setL (s[i + 1].toNat) = q at HF HCL
        go_upto_region 15 with (first
          | (go_at_call 123; refine (HCL.out _).mono ?_; rintro e w3 ⟨rfl, hb3⟩)
          | (refine wpList_store_row rfl 24 (.tmp 9) (.tmp 55) rfl (w3.heap.size) (setC q).toArray rfl rfl 24 (setC noP).toArray (zero_in w3 24) (by rw [rset_size, setC_size]) (by simp only [setC_size]) (setC_one _) ?_))
        have HB := HB0
        have HA := HA0
        have HS := HS0
        have hsz3 := HB.out.size
        have hlt3 := HS.out.lt
        have hsz4 := hb3.size
        have HA5 : Hid (SetIn ((w3.alloc (.cells #[.int .u8 0, .int .u8 0, .int .u8 0, .int .u8 0, .int .u8 0, .int .u8 0, .int .u8 0, .int .u8 0, .int .u8 0, .int .u8 0, .int .u8 0, .int .u8 0, .int .u8 0, .int .u8 0, .int .u8 0, .int .u8 0, .int .u8 0, .int .u8 0, .int .u8 0, .int .u8 0, .int .u8 0, .int .u8 0, .int .u8 0, .int .u8 0, .int .u8 0, .int .u8 0, .int .u8 0, .int .u8 0, .int .u8 0, .int .u8 0, .int .u8 0, .int .u8 0] 24)).setRow w3.heap.size (setC q).toArray) w.heap.size 24 noP) := ((HA.out.below hb3).keep (Below.heap_alloc _ _ _ (by omega))).keep (setRow_other _ _ _ _ (by omega))
        have HS5 : Hid (SetIn ((w3.alloc (.cells #[.int .u8 0, .int .u8 0, .int .u8 0, .int .u8 0, .int .u8 0, .int .u8 0, .int .u8 0, .int .u8 0, .int .u8 0, .int .u8 0, .int .u8 0, .int .u8 0, .int .u8 0, .int .u8 0, .int .u8 0, .int .u8 0, .int .u8 0, .int .u8 0, .int .u8 0, .int .u8 0, .int .u8 0, .int .u8 0, .int .u8 0, .int .u8 0, .int .u8 0, .int .u8 0, .int .u8 0, .int .u8 0, .int .u8 0, .int .u8 0, .int .u8 0, .int .u8 0] 24)).setRow w3.heap.size (setC q).toArray) (w.heap.size + 1) 24 noP) := ((HS.out.below hb3).keep (Below.heap_alloc _ _ _ (by omega))).keep (setRow_other _ _ _ _ (by omega))
        have HC5 : Hid (SetIn ((w3.alloc (.cells #[.int .u8 0, .int .u8 0, .int .u8 0, .int .u8 0, .int .u8 0, .int .u8 0, .int .u8 0, .int .u8 0, .int .u8 0, .int .u8 0, .int .u8 0, .int .u8 0, .int .u8 0, .int .u8 0, .int .u8 0, .int .u8 0, .int .u8 0, .int .u8 0, .int .u8 0, .int .u8 0, .int .u8 0, .int .u8 0, .int .u8 0, .int .u8 0, .int .u8 0, .int .u8 0, .int .u8 0, .int .u8 0, .int .u8 0, .int .u8 0, .int .u8 0, .int .u8 0] 24)).setRow w3.heap.size (setC q).toArray) w3.heap.size 24 q) := (zero_in w3 24).row q
        have HB5 : Hid (Below w.heap.size w ((w3.alloc (.cells #[.int .u8 0, .int .u8 0, .int .u8 0, .int .u8 0, .int .u8 0, .int .u8 0, .int .u8 0, .int .u8 0, .int .u8 0, .int .u8 0, .int .u8 0, .int .u8 0, .int .u8 0, .int .u8 0, .int .u8 0, .int .u8 0, .int .u8 0, .int .u8 0, .int .u8 0, .int .u8 0, .int .u8 0, .int .u8 0, .int .u8 0, .int .u8 0, .int .u8 0, .int .u8 0, .int .u8 0, .int .u8 0, .int .u8 0, .int .u8 0, .int .u8 0, .int .u8 0] 24)).setRow w3.heap.size (setC q).toArray)) := below_setRow ((HB.out.trans (hb3.mono (by omega))).alloc (by omega) _) (by omega) _
        have hgg : w.heap.size + 1 < w3.heap.size := by omega
        clear HA HS HB HA0 HS0 HB0 hb3 HCL hsz3 hlt3 hsz4
        generalize hw3 : w3.heap.size = g at HA5 HS5 HC5 HB5 hgg ⊢
        generalize (w3.alloc (.cells #[.int .u8 0, .int .u8 0, .int .u8 0, .int .u8 0, .int .u8 0, .int .u8 0, .int .u8 0, .int .u8 0, .int .u8 0, .int .u8 0, .int .u8 0, .int .u8 0, .int .u8 0, .int .u8 0, .int .u8 0, .int .u8 0, .int .u8 0, .int .u8 0, .int .u8 0, .int .u8 0, .int .u8 0, .int .u8 0, .int .u8 0, .int .u8 0, .int .u8 0, .int .u8 0, .int .u8 0, .int .u8 0, .int .u8 0, .int .u8 0, .int .u8 0, .int .u8 0] 24)).setRow g (setC q).toArray = w5 at HA5 HS5 HC5 HB5 ⊢
        clear hw3
        go_wp2_with (first
          | (refine wpList_load_row rfl 24 (.tmp 9) rfl (g) rfl 24 (setC q).toArray (0, 0) _ HC5.out Tryd.underlying24 rfl (by rw [rset_size, setC_size]) ?_)
          | (refine wpList_store_row rfl 24 (.tmp 4) (.tmp 58) rfl (w.heap.size) (setC q).toArray rfl rfl 24 (setC noP).toArray HA5.out (by rw [rset_size, setC_size]) (by simp only [setC_size]) (setC_one _) ?_))
        exact bodyPost_ret (v := .tuple #[.agg (setC q).toArray, .int .i64 ((i + 2 : Nat) : Int), .int .i64 (-1)]) (rres_set3 Tryd.results114 _ _ w.heap.size 24 q _ _ rfl rfl rfl (HA5.out.row q)) rfl ⟨⟨q, by rw [HF.out]; exact fun _ _ _ => rfl, by (rw [HF.out] <;> rfl)⟩, below_setRow HB5.out (Nat.le_refl _) _⟩
      · have hok' : okL (bt s (i + 1)) = false := by simpa using hok
        have HCL := Lib.hid (fun w => rclass_no (bt s (i + 1)) w (bt_lt _ _) hok')
        rw [show bt s (i + 1) = s[i + 1].toNat from bt_get s (i + 1) h1] at HCL
        go_upto_region 15 with (first
          | (go_at_call 123; refine (HCL.out _).mono ?_; rintro e w3 ⟨⟨q, rfl⟩, hb3⟩)
          | (refine wpList_store_row rfl 24 (.tmp 9) (.tmp 55) rfl (w3.heap.size) (setC q).toArray rfl rfl 24 (setC noP).toArray (zero_in w3 24) (by rw [rset_size, setC_size]) (by simp only [setC_size]) (setC_one _) ?_))
        have HB := HB0
        have HA := HA0
        have HS := HS0
        have hsz3 := HB.out.size
        have hlt3 := HS.out.lt
        have hsz4 := hb3.size
        have HA5 : Hid (SetIn ((w3.alloc (.cells #[.int .u8 0, .int .u8 0, .int .u8 0, .int .u8 0, .int .u8 0, .int .u8 0, .int .u8 0, .int .u8 0, .int .u8 0, .int .u8 0, .int .u8 0, .int .u8 0, .int .u8 0, .int .u8 0, .int .u8 0, .int .u8 0, .int .u8 0, .int .u8 0, .int .u8 0, .int .u8 0, .int .u8 0, .int .u8 0, .int .u8 0, .int .u8 0, .int .u8 0, .int .u8 0, .int .u8 0, .int .u8 0, .int .u8 0, .int .u8 0, .int .u8 0, .int .u8 0] 24)).setRow w3.heap.size (setC q).toArray) w.heap.size 24 noP) := ((HA.out.below hb3).keep (Below.heap_alloc _ _ _ (by omega))).keep (setRow_other _ _ _ _ (by omega))
        have HS5 : Hid (SetIn ((w3.alloc (.cells #[.int .u8 0, .int .u8 0, .int .u8 0, .int .u8 0, .int .u8 0, .int .u8 0, .int .u8 0, .int .u8 0, .int .u8 0, .int .u8 0, .int .u8 0, .int .u8 0, .int .u8 0, .int .u8 0, .int .u8 0, .int .u8 0, .int .u8 0, .int .u8 0, .int .u8 0, .int .u8 0, .int .u8 0, .int .u8 0, .int .u8 0, .int .u8 0, .int .u8 0, .int .u8 0, .int .u8 0, .int .u8 0, .int .u8 0, .int .u8 0, .int .u8 0, .int .u8 0] 24)).setRow w3.heap.size (setC q).toArray) (w.heap.size + 1) 24 noP) := ((HS.out.below hb3).keep (Below.heap_alloc _ _ _ (by omega))).keep (setRow_other _ _ _ _ (by omega))
        have HC5 : Hid (SetIn ((w3.alloc (.cells #[.int .u8 0, .int .u8 0, .int .u8 0, .int .u8 0, .int .u8 0, .int .u8 0, .int .u8 0, .int .u8 0, .int .u8 0, .int .u8 0, .int .u8 0, .int .u8 0, .int .u8 0, .int .u8 0, .int .u8 0, .int .u8 0, .int .u8 0, .int .u8 0, .int .u8 0, .int .u8 0, .int .u8 0, .int .u8 0, .int .u8 0, .int .u8 0, .int .u8 0, .int .u8 0, .int .u8 0, .int .u8 0, .int .u8 0, .int .u8 0, .int .u8 0, .int .u8 0] 24)).setRow w3.heap.size (setC q).toArray) w3.heap.size 24 q) := (zero_in w3 24).row q
        have HB5 : Hid (Below w.heap.size w ((w3.alloc (.cells #[.int .u8 0, .int .u8 0, .int .u8 0, .int .u8 0, .int .u8 0, .int .u8 0, .int .u8 0, .int .u8 0, .int .u8 0, .int .u8 0, .int .u8 0, .int .u8 0, .int .u8 0, .int .u8 0, .int .u8 0, .int .u8 0, .int .u8 0, .int .u8 0, .int .u8 0, .int .u8 0, .int .u8 0, .int .u8 0, .int .u8 0, .int .u8 0, .int .u8 0, .int .u8 0, .int .u8 0, .int .u8 0, .int .u8 0, .int .u8 0, .int .u8 0, .int .u8 0] 24)).setRow w3.heap.size (setC q).toArray)) := below_setRow ((HB.out.trans (hb3.mono (by omega))).alloc (by omega) _) (by omega) _
        have hgg : w.heap.size + 1 < w3.heap.size := by omega
        clear HA HS HB HA0 HS0 HB0 hb3 HCL hsz3 hlt3 hsz4
        generalize hw3 : w3.heap.size = g at HA5 HS5 HC5 HB5 hgg ⊢
        generalize (w3.alloc (.cells #[.int .u8 0, .int .u8 0, .int .u8 0, .int .u8 0, .int .u8 0, .int .u8 0, .int .u8 0, .int .u8 0, .int .u8 0, .int .u8 0, .int .u8 0, .int .u8 0, .int .u8 0, .int .u8 0, .int .u8 0, .int .u8 0, .int .u8 0, .int .u8 0, .int .u8 0, .int .u8 0, .int .u8 0, .int .u8 0, .int .u8 0, .int .u8 0, .int .u8 0, .int .u8 0, .int .u8 0, .int .u8 0, .int .u8 0, .int .u8 0, .int .u8 0, .int .u8 0] 24)).setRow g (setC q).toArray = w5 at HA5 HS5 HC5 HB5 ⊢
        clear hw3
        clear HC5
        by_cases h5 : clsN (bt s (i + 1) : Int) = 5
        · have HF : Hid (outF s i = ⟨oneP (bt s (i + 1)), bt s (i + 1), true, i + 2, false⟩) := by show _ = _; rw [HE.out]; unfold escF; rw [if_pos h1, if_pos h5]
          have t5 : (clsN (bt s (i + 1) : Int) != 5) = false := by simpa using h5
          rw [bt_get s (i + 1) h1] at t5 HF
          clear h5 hok hok' HE
          go_wp2_with (first
            | (go_at_call 99; refine (cls_byte _ _).mono ?_; rintro e w' ⟨rfl, rfl⟩)
            | fail
            | (go_at_call 124; refine (put_any noP (w.heap.size + 1) s[i + 1].toNat _ _ (by exact HS5.out) (by first | omega | exact UInt8.toNat_lt _)).mono ?_; rintro e w2 ⟨rfl, hs2, ho2⟩)
            | (refine wpList_load_row rfl 24 (.tmp 7) rfl ((w.heap.size + 1)) rfl 24 (setC (oneP (s[i + 1].toNat))).toArray (0, 0) _ hs2 Tryd.underlying24 rfl (by rw [rset_size, setC_size]) ?_)
            | (refine wpList_store_row rfl 24 (.tmp 4) (.tmp 75) rfl (w.heap.size) (setC (oneP (s[i + 1].toNat))).toArray rfl rfl 24 (setC noP).toArray (HA5.out.keep (ho2.block _ HA5.out.lt (by omega))) (by rw [rset_size, setC_size]) (by simp only [setC_size]) (setC_one _) ?_))
          have HB6 := Lib.hid (HB5.out.trans (ho2.below (B := w.heap.size) (Nat.le_succ _) HB5.out.size))
          exact bodyPost_ret (v := .tuple #[.agg (setC (oneP (s[i + 1].toNat))).toArray, .int .i64 ((i + 2 : Nat) : Int), .int .i64 (-1)]) (rres_set3 Tryd.results114 _ _ w.heap.size 24 (oneP (s[i + 1].toNat)) _ _ rfl rfl rfl ((HA5.out.keep (ho2.block _ HA5.out.lt (by omega))).row (oneP (s[i + 1].toNat)))) rfl ⟨⟨(oneP (s[i + 1].toNat)), by rw [HF.out]; exact fun _ _ _ => rfl, by (rw [HF.out] <;> rfl)⟩, below_setRow HB6.out (Nat.le_refl _) _⟩
        · have HF : Hid (outF s i = badR (i + 1)) := by show _ = _; rw [HE.out]; unfold escF; rw [if_pos h1, if_neg h5, classP_okL _ (bt_lt _ _) hok]
          have t5 : (clsN (bt s (i + 1) : Int) != 5) = true := by simpa using h5
          rw [bt_get s (i + 1) h1] at t5
          clear h5 hok hok' HE
          go_wp2_with (first
            | (go_at_call 99; refine (cls_byte _ _).mono ?_; rintro e w' ⟨rfl, rfl⟩)
            | (refine wpList_load_row rfl 24 (.tmp 7) rfl ((w.heap.size + 1)) rfl 24 (setC noP).toArray (0, 0) _ HS5.out Tryd.underlying24 rfl (by rw [rset_size, setC_size]) ?_)
            | (refine wpList_store_row rfl 24 (.tmp 4) (.tmp 67) rfl (w.heap.size) (setC noP).toArray rfl rfl 24 (setC noP).toArray HA5.out (by rw [rset_size, setC_size]) (by simp only [setC_size]) (setC_one _) ?_))
          exact bodyPost_ret (v := .tuple #[.agg (setC noP).toArray, .int .i64 0, .int .i64 ((i + 1 : Nat) : Int)]) (rres_set3 Tryd.results114 _ _ w.heap.size 24 noP _ _ rfl rfl rfl (HA5.out.row noP)) rfl ⟨⟨noP, by rw [HF.out]; exact fun h => Bool.noConfusion h, by (rw [HF.out] <;> rfl)⟩, below_setRow HB5.out (Nat.le_refl _) _⟩
    · have h1i : (s.size : Int) ≤ (i : Int) + 1 := by omega
      have HF : Hid (outF s i = badR s.size) := by show _ = _; rw [HE.out]; unfold escF; rw [if_neg h1, show s.size = i + 1 by omega]
      clear HE
      go_wp2_with (first
        | (refine wpList_load_row rfl 24 (.tmp 7) rfl ((w.heap.size + 1)) rfl 24 (setC noP).toArray (0, 0) _ HS0.out Tryd.underlying24 rfl (by rw [rset_size, setC_size]) ?_)
        | (refine wpList_store_row rfl 24 (.tmp 4) (.tmp 46) rfl (w.heap.size) (setC noP).toArray rfl rfl 24 (setC noP).toArray HA0.out (by rw [rset_size, setC_size]) (by simp only [setC_size]) (setC_one _) ?_))
      exact bodyPost_ret (v := .tuple #[.agg (setC noP).toArray, .int .i64 0, .int .i64 (s.size : Int)]) (rres_set3 Tryd.results114 _ _ w.heap.size 24 noP _ _ rfl rfl rfl (HA0.out.row noP)) rfl ⟨⟨noP, by rw [HF.out]; exact fun h => Bool.noConfusion h, by (rw [HF.out] <;> rfl)⟩, below_setRow HB0.out (Nat.le_refl _) _⟩
  have t92 : ((s[i].toNat : Int) == 92) = false := beq_eq_false_iff_ne.2 (by omega)
  have HPL := Lib.hid (fun w => plain_any c (⟨#[42, 43, 63, 40, 41, 124, 93, 123, 125]⟩ : ByteArray) w hcc (by decide))
  rw [plain_out] at HPL
  by_cases hp : (wrB c && !inOut c) = true
  · have HF : Hid (outF s i = ⟨oneP c, c, true, i + 1, false⟩) := by
      show _ = _
      unfold outF
      rw [← HC.out, if_neg h46, if_neg h92, if_neg h91, if_pos (by simpa using hp)]
    rw [hp, ← hg] at HPL
    rw [← hg] at HF
    clear hp h46 h91 h92 hg HC hcc
    go_wp2_with (first
      | (go_at_call 99; refine (cls_byte _ _).mono ?_; rintro e w' ⟨rfl, rfl⟩)
      | (go_at_call 125; refine (HPL.out _).mono ?_; rintro e w' ⟨rfl, rfl⟩)
      | (go_at_call 124; refine (put_any noP (w.heap.size + 1) s[i].toNat _ _ (by exact HS0.out) (by first | omega | exact UInt8.toNat_lt _)).mono ?_; rintro e w2 ⟨rfl, hs2, ho2⟩)
      | (refine wpList_load_row rfl 24 (.tmp 7) rfl ((w.heap.size + 1)) rfl 24 (setC (oneP (s[i].toNat))).toArray (0, 0) _ hs2 Tryd.underlying24 rfl (by rw [rset_size, setC_size]) ?_)
      | (refine wpList_store_row rfl 24 (.tmp 4) (.tmp 87) rfl (w.heap.size) (setC (oneP (s[i].toNat))).toArray rfl rfl 24 (setC noP).toArray (HA0.out.keep (ho2.block _ HA0.out.lt (by omega))) (by rw [rset_size, setC_size]) (by simp only [setC_size]) (setC_one _) ?_))
    have HB6 := Lib.hid (HB0.out.trans (ho2.below (B := w.heap.size) (Nat.le_succ _) HB0.out.size))
    exact bodyPost_ret (v := .tuple #[.agg (setC (oneP (s[i].toNat))).toArray, .int .i64 ((i + 1 : Nat) : Int), .int .i64 (-1)]) (rres_set3 Tryd.results114 _ _ w.heap.size 24 (oneP (s[i].toNat)) _ _ rfl rfl rfl ((HA0.out.keep (ho2.block _ HA0.out.lt (by omega))).row (oneP (s[i].toNat)))) rfl ⟨⟨(oneP (s[i].toNat)), by rw [HF.out]; exact fun _ _ _ => rfl, by (rw [HF.out] <;> rfl)⟩, below_setRow HB6.out (Nat.le_refl _) _⟩
  · have HF : Hid (outF s i = badR i) := by
      show _ = _
      unfold outF
      rw [← HC.out, if_neg h46, if_neg h92, if_neg h91, if_neg (by simpa using hp)]
    rw [(Bool.not_eq_true _).mp hp, ← hg] at HPL
    clear hp h46 h91 h92 hg HC hcc
    go_wp2_with (first
      | (go_at_call 125; refine (HPL.out _).mono ?_; rintro e w' ⟨rfl, rfl⟩)
      | (refine wpList_load_row rfl 24 (.tmp 7) rfl ((w.heap.size + 1)) rfl 24 (setC noP).toArray (0, 0) _ HS0.out Tryd.underlying24 rfl (by rw [rset_size, setC_size]) ?_)
      | (refine wpList_store_row rfl 24 (.tmp 4) (.tmp 90) rfl (w.heap.size) (setC noP).toArray rfl rfl 24 (setC noP).toArray HA0.out (by rw [rset_size, setC_size]) (by simp only [setC_size]) (setC_one _) ?_))
    exact bodyPost_ret (v := .tuple #[.agg (setC noP).toArray, .int .i64 0, .int .i64 ((i : Nat) : Int)]) (rres_set3 Tryd.results114 _ _ w.heap.size 24 noP _ _ rfl rfl rfl (HA0.out.row noP)) rfl ⟨⟨noP, by rw [HF.out]; exact fun h => Bool.noConfusion h, by (rw [HF.out] <;> rfl)⟩, below_setRow HB0.out (Nat.le_refl _) _⟩

end Go.Proofs.YtpboaadjbkaidaaDoor

namespace Go.Proofs.YtpboaadjbkaidaaDoor
set_option maxRecDepth 100000
open Go.RowKit

set_option maxRecDepth 100000 in
theorem built_atom2 (p : Nat → Bool) : Tryd.prog.built 26 [(0, .agg (setC p).toArray), (1, .int .i64 1)] = some (atC ⟨p, 1, false⟩).toArray := by kernel_rfl
theorem wpList_buildAtom2 {ops : Array Oper} {rest : List Oper} {o : Oper} {a : Act} {w : World} {Q : Exit → Act → World → Prop} (hg : o.guard = none) (x : Operand) (ho : o.op = .build 26 #[(0, x), (1, .const (.int .i64 1))]) (p : Nat → Bool)
    (hx : a.eval x = .agg (setC p).toArray)
    (h : wpList Tryd.prog ops Q rest (a.put o.dst (.agg (atC ⟨p, 1, false⟩).toArray)) w) : wpList Tryd.prog ops Q (o :: rest) a w := by
  have hp : (Array.map (fun ((i, x) : Nat × Operand) => (i, a.eval x)) #[(0, x), (1, .const (.int .i64 1))]).toList = [(0, .agg (setC p).toArray), (1, .int .i64 1)] := by
    simp only [List.map_toArray, List.map_cons, List.map_nil, hx]
    rfl
  exact wpList_build hg 26 _ ho (by rw [hp, built_atom2]; rfl) (by rw [hp, built_atom2]; exact h)

set_option maxRecDepth 100000 in
set_option maxHeartbeats 8000000 in
theorem rparse_any (w : World) (s : ByteArray) (hs : s.size ≤ 2147483648) :
    Calls Tryd.prog 103 #[.string s] w (RetPar w (parseF s)) := by
  generalize hV : parseF s = V
  have HV : Hid (parseL s (s.size + 1) 0 [] = V) := hV
  clear hV
  go_enter Tryd.func103, Tryd.ntmps103
  go_wp2_with fail
  go_loopg [5, 6] 33 (fun n kv iv wr => ∃ (i : Nat) (l : List At), iv = .int .i64 i ∧ i ≤ s.size ∧ l.length ≤ 32 ∧ Hid (OwnE 26 atC 34 wr w.heap.size kv l) ∧ Hid (Below w.heap.size w wr) ∧ (∃ f, Hid (s.size - i < f ∧ parseL s f i l = V)) ∧ 33 - l.length ≤ n)
  case atStart => exact ⟨0, [], rfl, by omega, by simp, OwnE.nil, Below.refl _ _, ⟨s.size + 1, by omega, HV.out⟩, by simp⟩
  case round =>
    clear HV
    obtain ⟨i, l, rfl, hi, hl, HO, HB, ⟨f, HX⟩, hgk⟩ := hrel
    obtain ⟨A, cA, hkv⟩ := own_shape HO.out
    subst hkv
    obtain ⟨f', HF'⟩ : ∃ f', Hid (f = f' + 1) := ⟨f - 1, by have := HX.out.1; show _ = _; omega⟩
    by_cases hlt : i < s.size
    · have hlti : (i : Int) < (s.size : Int) := by omega
      have HX1 : Hid (s.size - i < f' + 1 ∧ (if 32 ≤ l.length then ([], i, 3) else if (outF s i).bad = true then ([], (outF s i).j, 2) else parseL s f' (quantF s (outF s i).j).2.2 (l ++ [⟨(outF s i).p, (quantF s (outF s i).j).1, (quantF s (outF s i).j).2.1⟩])) = V) := by
        have h := HX.out
        rw [HF'.out] at h
        unfold parseL at h
        rw [if_pos hlt] at h
        exact h
      clear HX HF'
      by_cases h32 : 32 ≤ l.length
      · have HVE : Hid (V = ([], i, 3)) := by show _ = _; rw [← HX1.out.2, if_pos h32]
        have t32 : ((l.length : Int) == 32) = true := beq_iff_eq.2 (by omega)
        go_wp2_with fail
        go_ret3
        rw [HVE.out]
        exact ⟨_, rfl, OwnE.nil, HB.out⟩
      · have HX2 : Hid (s.size - i < f' + 1 ∧ (if (outF s i).bad = true then ([], (outF s i).j, 2) else parseL s f' (quantF s (outF s i).j).2.2 (l ++ [⟨(outF s i).p, (quantF s (outF s i).j).1, (quantF s (outF s i).j).2.1⟩])) = V) := by
          have h := HX1.out
          rw [if_neg h32] at h
          exact h
        have t32 : ((l.length : Int) == 32) = false := beq_eq_false_iff_ne.2 (by omega)
        have HJ := Lib.hid (outF_ok s i hlt)
        obtain ⟨r, HRR⟩ : ∃ r, Hid (outF s i = r) := ⟨_, rfl⟩
        rw [HRR.out] at HX2 HJ
        clear HX1
        by_cases hb : r.bad = true
        · have HE := Lib.hid ((rset_any wr s i hlt hs).mono fun e w' h => RetSet.no h (by rw [HRR.out]; exact hb))
          rw [HRR.out] at HE
          have HVE : Hid (V = ([], r.j, 2)) := by show _ = _; rw [← HX2.out.2, if_pos hb]
          clear hb HX2 HJ HRR
          have hz0 := HB.out.size
          go_wp2_with (first
            | (go_at_call 114; refine HE.out.mono ?_; rintro e w3 ⟨⟨p, rfl⟩, hb3⟩)
            | (refine wpList_store_row rfl 24 (.tmp 7) (.tmp 23) rfl (w3.heap.size) (setC p).toArray rfl rfl 24 (setC noP).toArray (zero_in w3 24) (by rw [rset_size, setC_size]) (by simp only [setC_size]) (setC_one _) ?_))
          go_ret3
          rw [HVE.out]
          exact ⟨_, rfl, OwnE.nil, below_setRow ((HB.out.trans (hb3.mono hz0)).alloc (Nat.le_trans hz0 hb3.size) _) (Nat.le_trans hz0 hb3.size) _⟩
        · have hb' : r.bad = false := by simpa using hb
          have HE := Lib.hid ((rset_any wr s i hlt hs).mono fun e w' h => RetSet.ok h (by rw [HRR.out]; exact hb'))
          rw [HRR.out] at HE
          have hj1 : i < r.j := (HJ.out hb').1
          have hj2 : r.j ≤ s.size := (HJ.out hb').2
          have HX3 : Hid (s.size - i < f' + 1 ∧ parseL s f' (quantF s r.j).2.2 (l ++ [⟨r.p, (quantF s r.j).1, (quantF s r.j).2.1⟩]) = V) := by
            have h := HX2.out
            rw [if_neg hb] at h
            exact h
          clear hb hb' HX2 HJ HRR
          generalize r.j = j0 at HE hj1 hj2 HX3
          generalize r.p = p0 at HE HX3
          go_upto_region 9 with (first
            | (go_at_call 114; refine HE.out.mono ?_; rintro e w3 ⟨rfl, hb3⟩)
            | (refine wpList_store_row rfl 24 (.tmp 7) (.tmp 23) rfl (w3.heap.size) (setC p0).toArray rfl rfl 24 (setC noP).toArray (zero_in w3 24) (by rw [rset_size, setC_size]) (by simp only [setC_size]) (setC_one _) ?_))
          have hz0 := HB.out.size
          have hz3 := hb3.size
          have HC5 : Hid (SetIn ((w3.alloc (.cells #[.int .u8 0, .int .u8 0, .int .u8 0, .int .u8 0, .int .u8 0, .int .u8 0, .int .u8 0, .int .u8 0, .int .u8 0, .int .u8 0, .int .u8 0, .int .u8 0, .int .u8 0, .int .u8 0, .int .u8 0, .int .u8 0, .int .u8 0, .int .u8 0, .int .u8 0, .int .u8 0, .int .u8 0, .int .u8 0, .int .u8 0, .int .u8 0, .int .u8 0, .int .u8 0, .int .u8 0, .int .u8 0, .int .u8 0, .int .u8 0, .int .u8 0, .int .u8 0] 24)).setRow w3.heap.size (setC p0).toArray) w3.heap.size 24 p0) := (zero_in w3 24).row p0
          have HB5 : Hid (Below w.heap.size w ((w3.alloc (.cells #[.int .u8 0, .int .u8 0, .int .u8 0, .int .u8 0, .int .u8 0, .int .u8 0, .int .u8 0, .int .u8 0, .int .u8 0, .int .u8 0, .int .u8 0, .int .u8 0, .int .u8 0, .int .u8 0, .int .u8 0, .int .u8 0, .int .u8 0, .int .u8 0, .int .u8 0, .int .u8 0, .int .u8 0, .int .u8 0, .int .u8 0, .int .u8 0, .int .u8 0, .int .u8 0, .int .u8 0, .int .u8 0, .int .u8 0, .int .u8 0, .int .u8 0, .int .u8 0] 24)).setRow w3.heap.size (setC p0).toArray)) := below_setRow ((HB.out.trans (hb3.mono hz0)).alloc (by omega) _) (by omega) _
          have HO5 : Hid (OwnE 26 atC 34 ((w3.alloc (.cells #[.int .u8 0, .int .u8 0, .int .u8 0, .int .u8 0, .int .u8 0, .int .u8 0, .int .u8 0, .int .u8 0, .int .u8 0, .int .u8 0, .int .u8 0, .int .u8 0, .int .u8 0, .int .u8 0, .int .u8 0, .int .u8 0, .int .u8 0, .int .u8 0, .int .u8 0, .int .u8 0, .int .u8 0, .int .u8 0, .int .u8 0, .int .u8 0, .int .u8 0, .int .u8 0, .int .u8 0, .int .u8 0, .int .u8 0, .int .u8 0, .int .u8 0, .int .u8 0] 24)).setRow w3.heap.size (setC p0).toArray) w.heap.size (.slice A l.length cA) l) := own_same HO.out fun k hk => by
            have h1 := HO.out.lt k hk
            rw [setRow_other _ _ _ _ (by omega), Below.heap_alloc _ _ _ (by omega)]
            exact hb3.block k h1.2
          have hg5 : w.heap.size ≤ w3.heap.size := by omega
          have hs5 : ((w3.alloc (.cells #[.int .u8 0, .int .u8 0, .int .u8 0, .int .u8 0, .int .u8 0, .int .u8 0, .int .u8 0, .int .u8 0, .int .u8 0, .int .u8 0, .int .u8 0, .int .u8 0, .int .u8 0, .int .u8 0, .int .u8 0, .int .u8 0, .int .u8 0, .int .u8 0, .int .u8 0, .int .u8 0, .int .u8 0, .int .u8 0, .int .u8 0, .int .u8 0, .int .u8 0, .int .u8 0, .int .u8 0, .int .u8 0, .int .u8 0, .int .u8 0, .int .u8 0, .int .u8 0] 24)).setRow w3.heap.size (setC p0).toArray).heap.size = w3.heap.size + 1 := by simp
          clear HB HO HE hb3 hz0 hz3
          generalize hw3 : w3.heap.size = g7 at HC5 HB5 HO5 hg5 hs5 ⊢
          generalize (w3.alloc (.cells #[.int .u8 0, .int .u8 0, .int .u8 0, .int .u8 0, .int .u8 0, .int .u8 0, .int .u8 0, .int .u8 0, .int .u8 0, .int .u8 0, .int .u8 0, .int .u8 0, .int .u8 0, .int .u8 0, .int .u8 0, .int .u8 0, .int .u8 0, .int .u8 0, .int .u8 0, .int .u8 0, .int .u8 0, .int .u8 0, .int .u8 0, .int .u8 0, .int .u8 0, .int .u8 0, .int .u8 0, .int .u8 0, .int .u8 0, .int .u8 0, .int .u8 0, .int .u8 0] 24)).setRow g7 (setC p0).toArray = w5 at HC5 HB5 HO5 hs5 ⊢
          clear hw3
          have hg6 : w.heap.size ≤ w5.heap.size := by omega
          have HG : Hid (∀ k, (Value.slice A l.length cA).ownBlock = some k → k ≠ w5.heap.size) := fun k hk => by
            have h1 := HO5.out.lt k hk
            omega
          clear hs5
          go_upto_region 10 with (first
            | ((refine wpList_load_row rfl 24 (.tmp 7) rfl (g7) rfl 24 (setC p0).toArray (0, 0) _ HC5.out Tryd.underlying24 rfl (by rw [rset_size, setC_size]) ?_); refine wpList_buildAtom2 rfl (.tmp 29) rfl p0 rfl ?_)
            | (refine wpList_store_row rfl 26 (.tmp 10) (.tmp 30) rfl (w5.heap.size) (atC ⟨p0, 1, false⟩).toArray rfl rfl 26 (atC ⟨noP, 0, false⟩).toArray (at_zero w5) (by rw [atom_size, atC_size]) (by simp only [atC_size]) (atC_oneA _) ?_))
          have HA6 := Lib.hid ((at_zero w5).row ⟨p0, 1, false⟩)
          have HB6 : Hid (Below w.heap.size w ((w5.alloc (.cells #[.int .u8 0, .int .u8 0, .int .u8 0, .int .u8 0, .int .u8 0, .int .u8 0, .int .u8 0, .int .u8 0, .int .u8 0, .int .u8 0, .int .u8 0, .int .u8 0, .int .u8 0, .int .u8 0, .int .u8 0, .int .u8 0, .int .u8 0, .int .u8 0, .int .u8 0, .int .u8 0, .int .u8 0, .int .u8 0, .int .u8 0, .int .u8 0, .int .u8 0, .int .u8 0, .int .u8 0, .int .u8 0, .int .u8 0, .int .u8 0, .int .u8 0, .int .u8 0, .int .i64 0, .bool false] 26)).setRow w5.heap.size (atC ⟨p0, 1, false⟩).toArray)) := below_setRow (HB5.out.alloc hg6 _) hg6 _
          have HO6 : Hid (OwnE 26 atC 34 ((w5.alloc (.cells #[.int .u8 0, .int .u8 0, .int .u8 0, .int .u8 0, .int .u8 0, .int .u8 0, .int .u8 0, .int .u8 0, .int .u8 0, .int .u8 0, .int .u8 0, .int .u8 0, .int .u8 0, .int .u8 0, .int .u8 0, .int .u8 0, .int .u8 0, .int .u8 0, .int .u8 0, .int .u8 0, .int .u8 0, .int .u8 0, .int .u8 0, .int .u8 0, .int .u8 0, .int .u8 0, .int .u8 0, .int .u8 0, .int .u8 0, .int .u8 0, .int .u8 0, .int .u8 0, .int .i64 0, .bool false] 26)).setRow w5.heap.size (atC ⟨p0, 1, false⟩).toArray) w.heap.size (.slice A l.length cA) l) := own_same HO5.out fun k hk => by
            have h1 := HO5.out.lt k hk
            rw [setRow_other _ _ _ _ (by omega), Below.heap_alloc _ _ _ (by omega)]
          have hg3 := hg6
          clear HB5 HO5 HC5 hg5 hg6
          generalize hw5 : w5.heap.size = g at HA6 HB6 HO6 HG hg3 ⊢
          generalize (w5.alloc (.cells #[.int .u8 0, .int .u8 0, .int .u8 0, .int .u8 0, .int .u8 0, .int .u8 0, .int .u8 0, .int .u8 0, .int .u8 0, .int .u8 0, .int .u8 0, .int .u8 0, .int .u8 0, .int .u8 0, .int .u8 0, .int .u8 0, .int .u8 0, .int .u8 0, .int .u8 0, .int .u8 0, .int .u8 0, .int .u8 0, .int .u8 0, .int .u8 0, .int .u8 0, .int .u8 0, .int .u8 0, .int .u8 0, .int .u8 0, .int .u8 0, .int .u8 0, .int .u8 0, .int .i64 0, .bool false] 26)).setRow g (atC ⟨p0, 1, false⟩).toArray = w6 at HA6 HB6 HO6 ⊢
          clear hw5
          have r32 : w6.cell? ⟨g, 32, none⟩ = some (.int .i64 1) := HA6.out.mn
          have r33 : w6.cell? ⟨g, 33, none⟩ = some (.bool false) := HA6.out.many
          have g32 := HA6.out.free 32
          have g33 := HA6.out.free 33
          by_cases hj0 : j0 < s.size
          · have hj0i : (j0 : Int) < (s.size : Int) := by omega
            by_cases h42 : s[j0].toNat = 42
            · have t42 : ((s[j0].toNat : Int) == 42) = true := beq_iff_eq.2 (by omega)
              have h42' : bt s j0 = 42 := by rw [bt_get s j0 hj0]; exact h42
              clear h42
              have HQ : Hid (quantF s j0 = (0, true, j0 + 1)) := by
                show _ = _
                unfold quantF
                rw [if_pos hj0, if_pos h42']
              have HA7 : Hid (AtIn ((w6.setCell ⟨g, 32, none⟩ (.int .i64 0)).setCell ⟨g, 33, none⟩ (.bool true)) g ⟨p0, 0, true⟩) := ((HA6.out.setMn _).setMany _)
              have HB7 : Hid (Below w.heap.size w ((w6.setCell ⟨g, 32, none⟩ (.int .i64 0)).setCell ⟨g, 33, none⟩ (.bool true))) := (below_set (below_set HB6.out hg3 _ _) hg3 _ _)
              have HO7 : Hid (OwnE 26 atC 34 ((w6.setCell ⟨g, 32, none⟩ (.int .i64 0)).setCell ⟨g, 33, none⟩ (.bool true)) w.heap.size (.slice A l.length cA) l) := (own_setAt (own_setAt HO6.out HG.out _ _) HG.out _ _)
              go_upto_region 21 with fail
              clear HA6 HB6 HO6 r32 r33 g32 g33
              generalize (w6.setCell ⟨g, 32, none⟩ (.int .i64 0)).setCell ⟨g, 33, none⟩ (.bool true) = w7 at HA7 HB7 HO7 ⊢
              have hz7 : w.heap.size ≤ w7.heap.size := HB7.out.size
              go_wp2_with (first
                | (refine wpList_load_row rfl 26 (.tmp 10) rfl (g) rfl 26 (atC ⟨p0, 0, true⟩).toArray (0, 0) _ HA7.out Tryd.underlying26 rfl (by rw [atom_size, atC_size]) ?_)
                | (refine wpList_buildOne rfl (.tmp 55) (by rfl) ⟨p0, 0, true⟩ (by rfl) ?_)
                | (refine wpList_app1 rfl (.tmp 54) (.tmp 56) 28 26 rfl Tryd.underlying28 _ 34 48 atom_info rfl (by decide) w.heap.size (.slice A l.length cA) l.length (l.flatMap atC) rfl (own_below HO7.out ((Below.refl _ w7).alloc (Nat.le_refl _) _) (Nat.le_refl _)) ⟨w7.heap.size, 0, none⟩ 1 (atC ⟨p0, 0, true⟩) rfl (atC_len _) (cells_new w7 (atC ⟨p0, 0, true⟩) 26) (atC_one _) (by omega) (by decide) (by simp; omega) ?_; intro g2 cap w9 hown9 hbg9 hbel9 hgrow9))
              have HB9 := Lib.hid (hbel9 w.heap.size w (Nat.le_refl _) (HB7.out.alloc (by omega) _))
              have HO9 : Hid (OwnE 26 atC 34 w9 w.heap.size (.slice (some ⟨g2, 0, none⟩) (l.length + 1) cap) (l ++ [⟨p0, 0, true⟩])) := OwnE.snoc hown9
              have HXE : Hid (s.size - (j0 + 1) < f' ∧ parseL s f' (j0 + 1) (l ++ [⟨p0, 0, true⟩]) = V) := by
                have h := HX3.out
                rw [HQ.out] at h
                exact ⟨by omega, h.2⟩
              clear hown9 hbel9 hgrow9 HX3 HQ HA7 HB7 HO7
              go_roundg (33 - (l.length + 1))
              case measure => omega
              case rel => exact ⟨(j0 + 1), l ++ [(At.mk p0 0 true)], by first | rfl | go_num, by omega, by simp; omega, HO9.out, HB9.out, ⟨f', HXE.out⟩, by simp⟩
            · have t42 : ((s[j0].toNat : Int) == 42) = false := beq_eq_false_iff_ne.2 (by omega)
              have h42' : ¬ bt s j0 = 42 := by rw [bt_get s j0 hj0]; exact h42
              clear h42
              by_cases h43 : s[j0].toNat = 43
              · have t43 : ((s[j0].toNat : Int) == 43) = true := beq_iff_eq.2 (by omega)
                have h43' : bt s j0 = 43 := by rw [bt_get s j0 hj0]; exact h43
                clear h43
                have HQ : Hid (quantF s j0 = (1, true, j0 + 1)) := by
                  show _ = _
                  unfold quantF
                  rw [if_pos hj0, if_neg h42', if_pos h43']
                have HA7 : Hid (AtIn (w6.setCell ⟨g, 33, none⟩ (.bool true)) g ⟨p0, 1, true⟩) := (HA6.out.setMany _)
                have HB7 : Hid (Below w.heap.size w (w6.setCell ⟨g, 33, none⟩ (.bool true))) := (below_set HB6.out hg3 _ _)
                have HO7 : Hid (OwnE 26 atC 34 (w6.setCell ⟨g, 33, none⟩ (.bool true)) w.heap.size (.slice A l.length cA) l) := (own_setAt HO6.out HG.out _ _)
                go_upto_region 21 with fail
                clear HA6 HB6 HO6 r32 r33 g32 g33
                generalize w6.setCell ⟨g, 33, none⟩ (.bool true) = w7 at HA7 HB7 HO7 ⊢
                have hz7 : w.heap.size ≤ w7.heap.size := HB7.out.size
                go_wp2_with (first
                  | (refine wpList_load_row rfl 26 (.tmp 10) rfl (g) rfl 26 (atC ⟨p0, 1, true⟩).toArray (0, 0) _ HA7.out Tryd.underlying26 rfl (by rw [atom_size, atC_size]) ?_)
                  | (refine wpList_buildOne rfl (.tmp 55) (by rfl) ⟨p0, 1, true⟩ (by rfl) ?_)
                  | (refine wpList_app1 rfl (.tmp 54) (.tmp 56) 28 26 rfl Tryd.underlying28 _ 34 48 atom_info rfl (by decide) w.heap.size (.slice A l.length cA) l.length (l.flatMap atC) rfl (own_below HO7.out ((Below.refl _ w7).alloc (Nat.le_refl _) _) (Nat.le_refl _)) ⟨w7.heap.size, 0, none⟩ 1 (atC ⟨p0, 1, true⟩) rfl (atC_len _) (cells_new w7 (atC ⟨p0, 1, true⟩) 26) (atC_one _) (by omega) (by decide) (by simp; omega) ?_; intro g2 cap w9 hown9 hbg9 hbel9 hgrow9))
                have HB9 := Lib.hid (hbel9 w.heap.size w (Nat.le_refl _) (HB7.out.alloc (by omega) _))
                have HO9 : Hid (OwnE 26 atC 34 w9 w.heap.size (.slice (some ⟨g2, 0, none⟩) (l.length + 1) cap) (l ++ [⟨p0, 1, true⟩])) := OwnE.snoc hown9
                have HXE : Hid (s.size - (j0 + 1) < f' ∧ parseL s f' (j0 + 1) (l ++ [⟨p0, 1, true⟩]) = V) := by
                  have h := HX3.out
                  rw [HQ.out] at h
                  exact ⟨by omega, h.2⟩
                clear hown9 hbel9 hgrow9 HX3 HQ HA7 HB7 HO7
                go_roundg (33 - (l.length + 1))
                case measure => omega
                case rel => exact ⟨(j0 + 1), l ++ [(At.mk p0 1 true)], by first | rfl | go_num, by omega, by simp; omega, HO9.out, HB9.out, ⟨f', HXE.out⟩, by simp⟩
              · have t43 : ((s[j0].toNat : Int) == 43) = false := beq_eq_false_iff_ne.2 (by omega)
                have h43' : ¬ bt s j0 = 43 := by rw [bt_get s j0 hj0]; exact h43
                clear h43
                by_cases h63 : s[j0].toNat = 63
                · have t63 : ((s[j0].toNat : Int) == 63) = true := beq_iff_eq.2 (by omega)
                  have h63' : bt s j0 = 63 := by rw [bt_get s j0 hj0]; exact h63
                  clear h63
                  have HQ : Hid (quantF s j0 = (0, false, j0 + 1)) := by
                    show _ = _
                    unfold quantF
                    rw [if_pos hj0, if_neg h42', if_neg h43', if_pos h63']
                  have HA7 : Hid (AtIn (w6.setCell ⟨g, 32, none⟩ (.int .i64 0)) g ⟨p0, 0, false⟩) := (HA6.out.setMn _)
                  have HB7 : Hid (Below w.heap.size w (w6.setCell ⟨g, 32, none⟩ (.int .i64 0))) := (below_set HB6.out hg3 _ _)
                  have HO7 : Hid (OwnE 26 atC 34 (w6.setCell ⟨g, 32, none⟩ (.int .i64 0)) w.heap.size (.slice A l.length cA) l) := (own_setAt HO6.out HG.out _ _)
                  go_upto_region 21 with fail
                  clear HA6 HB6 HO6 r32 r33 g32 g33
                  generalize w6.setCell ⟨g, 32, none⟩ (.int .i64 0) = w7 at HA7 HB7 HO7 ⊢
                  have hz7 : w.heap.size ≤ w7.heap.size := HB7.out.size
                  go_wp2_with (first
                    | (refine wpList_load_row rfl 26 (.tmp 10) rfl (g) rfl 26 (atC ⟨p0, 0, false⟩).toArray (0, 0) _ HA7.out Tryd.underlying26 rfl (by rw [atom_size, atC_size]) ?_)
                    | (refine wpList_buildOne rfl (.tmp 55) (by rfl) ⟨p0, 0, false⟩ (by rfl) ?_)
                    | (refine wpList_app1 rfl (.tmp 54) (.tmp 56) 28 26 rfl Tryd.underlying28 _ 34 48 atom_info rfl (by decide) w.heap.size (.slice A l.length cA) l.length (l.flatMap atC) rfl (own_below HO7.out ((Below.refl _ w7).alloc (Nat.le_refl _) _) (Nat.le_refl _)) ⟨w7.heap.size, 0, none⟩ 1 (atC ⟨p0, 0, false⟩) rfl (atC_len _) (cells_new w7 (atC ⟨p0, 0, false⟩) 26) (atC_one _) (by omega) (by decide) (by simp; omega) ?_; intro g2 cap w9 hown9 hbg9 hbel9 hgrow9))
                  have HB9 := Lib.hid (hbel9 w.heap.size w (Nat.le_refl _) (HB7.out.alloc (by omega) _))
                  have HO9 : Hid (OwnE 26 atC 34 w9 w.heap.size (.slice (some ⟨g2, 0, none⟩) (l.length + 1) cap) (l ++ [⟨p0, 0, false⟩])) := OwnE.snoc hown9
                  have HXE : Hid (s.size - (j0 + 1) < f' ∧ parseL s f' (j0 + 1) (l ++ [⟨p0, 0, false⟩]) = V) := by
                    have h := HX3.out
                    rw [HQ.out] at h
                    exact ⟨by omega, h.2⟩
                  clear hown9 hbel9 hgrow9 HX3 HQ HA7 HB7 HO7
                  go_roundg (33 - (l.length + 1))
                  case measure => omega
                  case rel => exact ⟨(j0 + 1), l ++ [(At.mk p0 0 false)], by first | rfl | go_num, by omega, by simp; omega, HO9.out, HB9.out, ⟨f', HXE.out⟩, by simp⟩
                · have t63 : ((s[j0].toNat : Int) == 63) = false := beq_eq_false_iff_ne.2 (by omega)
                  have h63' : ¬ bt s j0 = 63 := by rw [bt_get s j0 hj0]; exact h63
                  clear h63
                  have HQ : Hid (quantF s j0 = (1, false, j0)) := by
                    show _ = _
                    unfold quantF
                    rw [if_pos hj0, if_neg h42', if_neg h43', if_neg h63']
                  go_upto_region 21 with fail
                  clear r32 r33 g32 g33
                  have hz6 : w.heap.size ≤ w6.heap.size := HB6.out.size
                  go_wp2_with (first
                    | (refine wpList_load_row rfl 26 (.tmp 10) rfl (g) rfl 26 (atC ⟨p0, 1, false⟩).toArray (0, 0) _ HA6.out Tryd.underlying26 rfl (by rw [atom_size, atC_size]) ?_)
                    | (refine wpList_buildOne rfl (.tmp 55) (by rfl) ⟨p0, 1, false⟩ (by rfl) ?_)
                    | (refine wpList_app1 rfl (.tmp 54) (.tmp 56) 28 26 rfl Tryd.underlying28 _ 34 48 atom_info rfl (by decide) w.heap.size (.slice A l.length cA) l.length (l.flatMap atC) rfl (own_below HO6.out ((Below.refl _ w6).alloc (Nat.le_refl _) _) (Nat.le_refl _)) ⟨w6.heap.size, 0, none⟩ 1 (atC ⟨p0, 1, false⟩) rfl (atC_len _) (cells_new w6 (atC ⟨p0, 1, false⟩) 26) (atC_one _) (by omega) (by decide) (by simp; omega) ?_; intro g2 cap w9 hown9 hbg9 hbel9 hgrow9))
                  have HB9 := Lib.hid (hbel9 w.heap.size w (Nat.le_refl _) (HB6.out.alloc (by omega) _))
                  have HO9 : Hid (OwnE 26 atC 34 w9 w.heap.size (.slice (some ⟨g2, 0, none⟩) (l.length + 1) cap) (l ++ [⟨p0, 1, false⟩])) := OwnE.snoc hown9
                  have HXE : Hid (s.size - j0 < f' ∧ parseL s f' j0 (l ++ [⟨p0, 1, false⟩]) = V) := by
                    have h := HX3.out
                    rw [HQ.out] at h
                    exact ⟨by omega, h.2⟩
                  clear hown9 hbel9 hgrow9 HX3 HQ HA6 HB6 HO6
                  go_roundg (33 - (l.length + 1))
                  case measure => omega
                  case rel => exact ⟨j0, l ++ [(At.mk p0 1 false)], by first | rfl | go_num, by omega, by simp; omega, HO9.out, HB9.out, ⟨f', HXE.out⟩, by simp⟩
          · have HQ : Hid (quantF s j0 = (1, false, j0)) := by
              show _ = _
              unfold quantF
              rw [if_neg hj0]
            have hj0i : ¬ (j0 : Int) < (s.size : Int) := by omega
            go_upto_region 21 with fail
            clear r32 r33 g32 g33
            have hz6 : w.heap.size ≤ w6.heap.size := HB6.out.size
            go_wp2_with (first
              | (refine wpList_load_row rfl 26 (.tmp 10) rfl (g) rfl 26 (atC ⟨p0, 1, false⟩).toArray (0, 0) _ HA6.out Tryd.underlying26 rfl (by rw [atom_size, atC_size]) ?_)
              | (refine wpList_buildOne rfl (.tmp 55) (by rfl) ⟨p0, 1, false⟩ (by rfl) ?_)
              | (refine wpList_app1 rfl (.tmp 54) (.tmp 56) 28 26 rfl Tryd.underlying28 _ 34 48 atom_info rfl (by decide) w.heap.size (.slice A l.length cA) l.length (l.flatMap atC) rfl (own_below HO6.out ((Below.refl _ w6).alloc (Nat.le_refl _) _) (Nat.le_refl _)) ⟨w6.heap.size, 0, none⟩ 1 (atC ⟨p0, 1, false⟩) rfl (atC_len _) (cells_new w6 (atC ⟨p0, 1, false⟩) 26) (atC_one _) (by omega) (by decide) (by simp; omega) ?_; intro g2 cap w9 hown9 hbg9 hbel9 hgrow9))
            have HB9 := Lib.hid (hbel9 w.heap.size w (Nat.le_refl _) (HB6.out.alloc (by omega) _))
            have HO9 : Hid (OwnE 26 atC 34 w9 w.heap.size (.slice (some ⟨g2, 0, none⟩) (l.length + 1) cap) (l ++ [⟨p0, 1, false⟩])) := OwnE.snoc hown9
            have HXE : Hid (s.size - j0 < f' ∧ parseL s f' j0 (l ++ [⟨p0, 1, false⟩]) = V) := by
              have h := HX3.out
              rw [HQ.out] at h
              exact ⟨by omega, h.2⟩
            clear hown9 hbel9 hgrow9 HX3 HQ HA6 HB6 HO6
            go_roundg (33 - (l.length + 1))
            case measure => omega
            case rel => exact ⟨j0, l ++ [(At.mk p0 1 false)], by first | rfl | go_num, by omega, by simp; omega, HO9.out, HB9.out, ⟨f', HXE.out⟩, by simp⟩
    · have HVE : Hid (V = (l, 0, 0)) := by
        have h := HX.out.2
        rw [HF'.out] at h
        unfold parseL at h
        rw [if_neg hlt] at h
        exact h.symm
      have hlti : ¬ (i : Int) < (s.size : Int) := by omega
      go_wp2_with fail
      go_ret3
      rw [HVE.out]
      exact ⟨_, rfl, HO.out, HB.out⟩

end Go.Proofs.YtpboaadjbkaidaaDoor

namespace Go.Proofs.YtpboaadjbkaidaaDoor
set_option maxRecDepth 100000
open Go.RowKit

set_option maxRecDepth 100000 in
set_option maxHeartbeats 4000000 in
theorem rwords_any (s : ByteArray) (w : World) (hs : s.size ≤ 1000000) : Calls Tryd.prog 56 #[.string s] w (RetWords w s) := by
  obtain ⟨R, HRR⟩ : ∃ R, Hid (R = RetWords w s) := ⟨_, rfl⟩
  rw [← HRR.out]
  have hln : s.data.toList.length = s.size := (Lib.size_eq s).symm
  have H0 : Hid ((([] : List ByteArray).map fun x => x.data.toList) ++ wordsR s.data.toList 0 0 = wordsL s.data.toList) := rfl
  go_enter Tryd.func56, Tryd.ntmps56
  go_wp2_with fail
  obtain ⟨wo, HWO⟩ : ∃ wo, Hid (wo = w) := ⟨w, rfl⟩
  go_loopg [3, 4, 5] (s.size + 1) (fun gk ov fv kv wr => ∃ (k f : Nat) (q : List ByteArray) (A : Option Addr) (c : Nat), ov = .slice A q.length c ∧ fv = .int .i64 f ∧ kv = .int .i64 k ∧ f ≤ k ∧ k ≤ s.size + 1 ∧ Hid (q.map (fun x => x.data.toList) ++ (if k ≤ s.size then wordsR s.data.toList f k else []) = wordsL s.data.toList) ∧ Hid (OwnE 9 strC 1 wr w.heap.size (.slice A q.length c) q) ∧ Hid (Below w.heap.size w wr) ∧ q.length ≤ k ∧ s.size + 1 - k ≤ gk)
  case atStart => exact ⟨0, 0, [], none, 0, rfl, rfl, rfl, by omega, by omega, by (show _ ++ (if 0 ≤ s.size then _ else _) = _); rw [if_pos (Nat.zero_le _)]; exact H0.out, OwnE.nil, Below.refl _ _, Nat.le_refl _, by omega⟩
  case round =>
    clear HWO H0
    obtain ⟨k, f, q, A, c, rfl, rfl, rfl, hfk, hk, HQ, HO, HB, hqk, hgk⟩ := hrel
    have hsz := HB.out.size
    by_cases hkl : k ≤ s.size
    · have hki : (k : Int) ≤ (s.size : Int) := by omega
      have hk0 : (0 : Int) ≤ (k : Int) := by omega
      rw [if_pos hkl] at HQ
      have hfi : (f : Int) ≤ (k : Int) := by omega
      have hf0 : (0 : Int) ≤ (f : Int) := by omega
      have HEX : Hid ((s.extract f k).data.toList = (s.data.toList.take k).drop f) := extract_list s f k
      have HD : Hid (∀ wn : List (List UInt8), q.map (fun x => x.data.toList) ++ ((if f < k then [(s.data.toList.take k).drop f] else []) ++ wn) = wordsL s.data.toList → (if f < k then q ++ [s.extract f k] else q).map (fun x => x.data.toList) ++ wn = wordsL s.data.toList) := fun wn h => by
        by_cases hf : f < k
        · rw [if_pos hf] at h ⊢
          rw [List.map_append, List.append_assoc, List.map_cons, List.map_nil, HEX.out]
          exact h
        · rw [if_neg hf] at h ⊢
          exact h
      have HWN : Hid ((k = s.size ∨ ∃ h : k < s.size, s[k].toNat = 32) → (if f < k then q ++ [s.extract f k] else q).map (fun x => x.data.toList) ++ (if k + 1 ≤ s.size then wordsR s.data.toList (k + 1) (k + 1) else []) = wordsL s.data.toList) := by
        rintro (h | ⟨h, h32⟩)
        · refine HD.out _ ?_
          have h1 := HQ.out
          rw [h] at h1
          rw [show (if k + 1 ≤ s.size then wordsR s.data.toList (k + 1) (k + 1) else []) = ([] : List (List UInt8)) from if_neg (by omega), List.append_nil, h]
          have h2 := wordsR_end s.data.toList f
          rw [hln] at h2
          rw [h2] at h1
          exact h1
        · refine HD.out _ ?_
          have h1 := HQ.out
          rw [wordsR_sep s.data.toList f k (by omega) (by rw [← UInt8.toNat_inj]; exact h32)] at h1
          rw [show (if k + 1 ≤ s.size then wordsR s.data.toList (k + 1) (k + 1) else []) = wordsR s.data.toList (k + 1) (k + 1) from if_pos (by omega)]
          exact h1
      have HWS : Hid ((∃ h : k < s.size, s[k].toNat ≠ 32) → q.map (fun x => x.data.toList) ++ (if k + 1 ≤ s.size then wordsR s.data.toList f (k + 1) else []) = wordsL s.data.toList) := by
        rintro ⟨h, h32⟩
        have h1 := HQ.out
        rw [wordsR_step s.data.toList f k hfk (by omega) (fun e => h32 (by show s.data.toList[k].toNat = 32; rw [e]; rfl))] at h1
        rw [if_pos (by omega)]
        exact h1
      clear HQ HD
      by_cases hke : k = s.size
      · subst hke
        have t1 : ((s.size : Int) == (s.size : Int)) = true := beq_self_eq_true _
        have HN := Lib.hid (HWN.out (.inl rfl))
        clear HWN HWS
        by_cases hfl : f < s.size
        · have hfli : (f : Int) < (s.size : Int) := by omega
          rw [if_pos hfl] at HN
          go_wp2_with (at_builtin; go_must (refine wpList_app1 rfl (.tmp 25) (.tmp 30) 68 9 rfl Tryd.underlying68 _ 1 16 string_info rfl (by decide) w.heap.size (.slice A q.length c) q.length (q.flatMap strC) rfl (own_below HO.out ((Below.refl _ wr).alloc (Nat.le_refl _) _) (Nat.le_refl _)) ⟨wr.heap.size, 0, none⟩ 1 (strC (s.extract f s.size)) rfl rfl (cells_new wr (strC (s.extract f s.size)) 9) (strC_one _) (by omega) (by decide) (by simp; omega) ?_); intro g2 cap w9 hown9 hbg9 hbel9 hgrow9)
          have hbn := hbel9 w.heap.size (wr.alloc (.cells (strC (s.extract f s.size)).toArray 9)) (Nat.le_refl _) (Below.refl _ _)
          have HB9 := Lib.hid ((HB.out.alloc hsz (.cells (strC (s.extract f s.size)).toArray 9)).trans hbn)
          have HO9 : Hid (OwnE 9 strC 1 w9 w.heap.size (.slice (some ⟨g2, 0, none⟩) (q.length + 1) cap) (q ++ [s.extract f s.size])) := OwnE.snoc hown9
          clear hown9 hbel9 hgrow9 hbn
          go_wp2_with fail
          go_roundg (s.size + 1 - (s.size + 1))
          case measure => omega
          case rel => exact ⟨s.size + 1, s.size + 1, q ++ [s.extract f s.size], some ⟨g2, 0, none⟩, cap, by (show Value.slice _ _ _ = Value.slice _ _ _); rw [List.length_append]; rfl, by go_num, by go_num, by omega, by omega, HN.out, by (show OwnE _ _ _ _ _ _ _); rw [List.length_append]; exact HO9.out, HB9.out, by rw [List.length_append]; show q.length + 1 ≤ s.size + 1; omega, Nat.le_refl _⟩
        · have hfli : ¬ (f : Int) < (s.size : Int) := by omega
          rw [if_neg hfl] at HN
          go_wp2_with fail
          go_roundg (s.size + 1 - (s.size + 1))
          case measure => omega
          case rel => exact ⟨s.size + 1, s.size + 1, q, A, c, rfl, by go_num, by go_num, by omega, by omega, HN.out, HO.out, HB.out, by omega, Nat.le_refl _⟩
      · have t1 : ((k : Int) == (s.size : Int)) = false := beq_eq_false_iff_ne.2 (by omega)
        have hlt : k < s.size := by omega
        have hlti : (k : Int) < (s.size : Int) := by omega
        by_cases h32 : s[k].toNat = 32
        · have t2 : (((s[k].toNat : Nat) : Int) == 32) = true := by rw [h32]; rfl
          have HN := Lib.hid (HWN.out (.inr ⟨hlt, h32⟩))
          clear HWN HWS h32
          by_cases hfl : f < k
          · have hfli : (f : Int) < (k : Int) := by omega
            rw [if_pos hfl] at HN
            go_wp2_with (at_builtin; go_must (refine wpList_app1 rfl (.tmp 25) (.tmp 30) 68 9 rfl Tryd.underlying68 _ 1 16 string_info rfl (by decide) w.heap.size (.slice A q.length c) q.length (q.flatMap strC) rfl (own_below HO.out ((Below.refl _ wr).alloc (Nat.le_refl _) _) (Nat.le_refl _)) ⟨wr.heap.size, 0, none⟩ 1 (strC (s.extract f k)) rfl rfl (cells_new wr (strC (s.extract f k)) 9) (strC_one _) (by omega) (by decide) (by simp; omega) ?_); intro g2 cap w9 hown9 hbg9 hbel9 hgrow9)
            have hbn := hbel9 w.heap.size (wr.alloc (.cells (strC (s.extract f k)).toArray 9)) (Nat.le_refl _) (Below.refl _ _)
            have HB9 := Lib.hid ((HB.out.alloc hsz (.cells (strC (s.extract f k)).toArray 9)).trans hbn)
            have HO9 : Hid (OwnE 9 strC 1 w9 w.heap.size (.slice (some ⟨g2, 0, none⟩) (q.length + 1) cap) (q ++ [s.extract f k])) := OwnE.snoc hown9
            clear hown9 hbel9 hgrow9 hbn
            go_wp2_with fail
            go_roundg (s.size + 1 - (k + 1))
            case measure => omega
            case rel => exact ⟨k + 1, k + 1, q ++ [s.extract f k], some ⟨g2, 0, none⟩, cap, by (show Value.slice _ _ _ = Value.slice _ _ _); rw [List.length_append]; rfl, by go_num, by go_num, by omega, by omega, HN.out, by (show OwnE _ _ _ _ _ _ _); rw [List.length_append]; exact HO9.out, HB9.out, by rw [List.length_append]; show q.length + 1 ≤ k + 1; omega, Nat.le_refl _⟩
          · have hfli : ¬ (f : Int) < (k : Int) := by omega
            rw [if_neg hfl] at HN
            go_wp2_with fail
            go_roundg (s.size + 1 - (k + 1))
            case measure => omega
            case rel => exact ⟨k + 1, k + 1, q, A, c, rfl, by go_num, by go_num, by omega, by omega, HN.out, HO.out, HB.out, by omega, Nat.le_refl _⟩
        · have t2 : (((s[k].toNat : Nat) : Int) == 32) = false := beq_eq_false_iff_ne.2 (by omega)
          have HN := Lib.hid (HWS.out ⟨hlt, h32⟩)
          clear HWN HWS h32
          go_wp2_with fail
          go_roundg (s.size + 1 - (k + 1))
          case measure => omega
          case rel => exact ⟨k + 1, f, q, A, c, rfl, rfl, by go_num, by omega, by omega, HN.out, HO.out, HB.out, by omega, Nat.le_refl _⟩
    · obtain rfl : k = s.size + 1 := by omega
      have hki : ¬ (((s.size + 1 : Nat)) : Int) ≤ (s.size : Int) := by omega
      have e : q = wordsB s := by
        have h1 := HQ.out
        rw [if_neg hkl, List.append_nil] at h1
        unfold wordsB
        rw [← h1]
        exact (map_ofL q).symm
      go_wp2_with fail
      rw [HRR.out]
      refine ⟨_, rfl, ?_, HB.out⟩
      rw [← e]
      exact HO.out

def RetLines (w : World) (s : ByteArray) (e : Ending) (w' : World) : Prop := ∃ v, e = .returned v ∧ OwnE 9 strC 1 w' w.heap.size v ((linesL s.data.toList).map ofL) ∧ Below w.heap.size w w'
set_option maxRecDepth 100000 in
set_option maxHeartbeats 4000000 in
theorem rlines_any (s : ByteArray) (w : World) (hs : s.size ≤ 1000000) : Calls Tryd.prog 55 #[.string s] w (RetLines w s) := by
  obtain ⟨R, HRR⟩ : ∃ R, Hid (R = RetLines w s) := ⟨_, rfl⟩
  rw [← HRR.out]
  have hln : s.data.toList.length = s.size := (Lib.size_eq s).symm
  have H0 : Hid ((([] : List ByteArray).map fun x => x.data.toList) ++ linesR s.data.toList 0 0 = linesL s.data.toList) := linesR_start _
  go_enter Tryd.func55, Tryd.ntmps55
  go_wp2_with fail
  obtain ⟨wo, HWO⟩ : ∃ wo, Hid (wo = w) := ⟨w, rfl⟩
  go_loopg [3, 4, 5] s.size (fun gk ov fv kv wr => ∃ (k f : Nat) (q : List ByteArray) (A : Option Addr) (c : Nat), ov = .slice A q.length c ∧ fv = .int .i64 f ∧ kv = .int .i64 k ∧ f ≤ k ∧ k ≤ s.size ∧ Hid (q.map (fun x => x.data.toList) ++ linesR s.data.toList f k = linesL s.data.toList) ∧ Hid (OwnE 9 strC 1 wr w.heap.size (.slice A q.length c) q) ∧ Hid (Below w.heap.size w wr) ∧ q.length ≤ k ∧ s.size - k ≤ gk)
  case atStart => exact ⟨0, 0, [], none, 0, rfl, rfl, rfl, by omega, by omega, H0.out, OwnE.nil, Below.refl _ _, Nat.le_refl _, by omega⟩
  case round =>
    clear HWO H0
    obtain ⟨k, f, q, A, c, rfl, rfl, rfl, hfk, hk, HQ, HO, HB, hqk, hgk⟩ := hrel
    have hsz := HB.out.size
    have hk0 : (0 : Int) ≤ (k : Int) := by omega
    have hfi : (f : Int) ≤ (k : Int) := by omega
    have hf0 : (0 : Int) ≤ (f : Int) := by omega
    have HEX : Hid ((s.extract f k).data.toList = (s.data.toList.take k).drop f) := extract_list s f k
    by_cases hkl : k < s.size
    · have hki : (k : Int) < (s.size : Int) := by omega
      by_cases h32 : s[k].toNat = 10
      · have t2 : (((s[k].toNat : Nat) : Int) == 10) = true := by rw [h32]; rfl
        have HN : Hid ((q ++ [s.extract f k]).map (fun x => x.data.toList) ++ linesR s.data.toList (k + 1) (k + 1) = linesL s.data.toList) := by
          show _ = _
          have h1 := HQ.out
          rw [linesR_sep s.data.toList f k (by omega) (by rw [← UInt8.toNat_inj]; exact h32), ← HEX.out, ← List.append_assoc] at h1
          rw [List.map_append]
          exact h1
        clear HQ HEX h32
        go_wp2_with (at_builtin; go_must (refine wpList_app1 rfl (.tmp 16) (.tmp 21) 68 9 rfl Tryd.underlying68 _ 1 16 string_info rfl (by decide) w.heap.size (.slice A q.length c) q.length (q.flatMap strC) rfl (own_below HO.out ((Below.refl _ wr).alloc (Nat.le_refl _) _) (Nat.le_refl _)) ⟨wr.heap.size, 0, none⟩ 1 (strC (s.extract f k)) rfl rfl (cells_new wr (strC (s.extract f k)) 9) (strC_one _) (by omega) (by decide) (by simp; omega) ?_); intro g2 cap w9 hown9 hbg9 hbel9 hgrow9)
        have hbn := hbel9 w.heap.size (wr.alloc (.cells (strC (s.extract f k)).toArray 9)) (Nat.le_refl _) (Below.refl _ _)
        have HB9 := Lib.hid ((HB.out.alloc hsz (.cells (strC (s.extract f k)).toArray 9)).trans hbn)
        have HO9 : Hid (OwnE 9 strC 1 w9 w.heap.size (.slice (some ⟨g2, 0, none⟩) (q.length + 1) cap) (q ++ [s.extract f k])) := OwnE.snoc hown9
        clear hown9 hbel9 hgrow9 hbn
        go_wp2_with fail
        go_roundg (s.size - (k + 1))
        case measure => omega
        case rel => exact ⟨k + 1, k + 1, q ++ [s.extract f k], some ⟨g2, 0, none⟩, cap, by (show Value.slice _ _ _ = Value.slice _ _ _); rw [List.length_append]; rfl, by go_num, by go_num, by omega, by omega, HN.out, by (show OwnE _ _ _ _ _ _ _); rw [List.length_append]; exact HO9.out, HB9.out, by rw [List.length_append]; show q.length + 1 ≤ k + 1; omega, Nat.le_refl _⟩
      · have t2 : (((s[k].toNat : Nat) : Int) == 10) = false := beq_eq_false_iff_ne.2 (by omega)
        have HN : Hid (q.map (fun x => x.data.toList) ++ linesR s.data.toList f (k + 1) = linesL s.data.toList) := by
          show _ = _
          have h1 := HQ.out
          rw [linesR_step s.data.toList f k hfk (by omega) (fun e => h32 (by show s.data.toList[k].toNat = 10; rw [e]; rfl))] at h1
          exact h1
        clear HQ HEX h32
        go_wp2_with fail
        go_roundg (s.size - (k + 1))
        case measure => omega
        case rel => exact ⟨k + 1, f, q, A, c, rfl, rfl, by go_num, by omega, by omega, HN.out, HO.out, HB.out, by omega, Nat.le_refl _⟩
    · obtain rfl : k = s.size := by omega
      have hki : ¬ (s.size : Int) < (s.size : Int) := by omega
      have HN : Hid ((if f < s.size then q ++ [s.extract f s.size] else q).map (fun x => x.data.toList) = linesL s.data.toList) := by
        show _ = _
        have h1 := HQ.out
        have h2 := linesR_end s.data.toList f
        rw [hln] at h2
        rw [h2] at h1
        by_cases hf : f < s.size
        · rw [if_pos hf] at h1 ⊢
          rw [List.map_append, List.map_cons, List.map_nil, HEX.out]
          exact h1
        · rw [if_neg hf] at h1 ⊢
          rw [List.append_nil] at h1
          exact h1
      clear HQ HEX
      by_cases hfl : f < s.size
      · have hfli : (f : Int) < (s.size : Int) := by omega
        rw [if_pos hfl] at HN
        have e : (linesL s.data.toList).map ofL = q ++ [s.extract f s.size] := by rw [← HN.out]; exact map_ofL _
        go_wp2_with (at_builtin; go_must (refine wpList_app1 rfl (.tmp 29) (.tmp 33) 68 9 rfl Tryd.underlying68 _ 1 16 string_info rfl (by decide) w.heap.size (.slice A q.length c) q.length (q.flatMap strC) rfl (own_below HO.out ((Below.refl _ wr).alloc (Nat.le_refl _) _) (Nat.le_refl _)) ⟨wr.heap.size, 0, none⟩ 1 (strC (s.extract f s.size)) rfl rfl (cells_new wr (strC (s.extract f s.size)) 9) (strC_one _) (by omega) (by decide) (by simp; omega) ?_); intro g2 cap w9 hown9 hbg9 hbel9 hgrow9)
        have hbn := hbel9 w.heap.size (wr.alloc (.cells (strC (s.extract f s.size)).toArray 9)) (Nat.le_refl _) (Below.refl _ _)
        have HB9 := Lib.hid ((HB.out.alloc hsz (.cells (strC (s.extract f s.size)).toArray 9)).trans hbn)
        have HO9 : Hid (OwnE 9 strC 1 w9 w.heap.size (.slice (some ⟨g2, 0, none⟩) (q.length + 1) cap) (q ++ [s.extract f s.size])) := OwnE.snoc hown9
        clear hown9 hbel9 hgrow9 hbn
        go_wp2_with fail
        rw [HRR.out]
        refine ⟨_, rfl, ?_, HB9.out⟩
        rw [e]
        exact HO9.out
      · have hfli : ¬ (f : Int) < (s.size : Int) := by omega
        rw [if_neg hfl] at HN
        have e : (linesL s.data.toList).map ofL = q := by rw [← HN.out]; exact map_ofL _
        go_wp2_with fail
        rw [HRR.out]
        refine ⟨_, rfl, ?_, HB.out⟩
        rw [e]
        exact HO.out

set_option maxRecDepth 100000 in
set_option maxHeartbeats 4000000 in
theorem rside_any (s : ByteArray) (w : World) (hs : s.size ≤ 2147483648) : Calls Tryd.prog 89 #[.string s] w (RetSide w s) := by
  obtain ⟨R, HRR⟩ : ∃ R, Hid (R = RetSide w s) := ⟨_, rfl⟩
  rw [← HRR.out]
  have HPA := Lib.hid (rparse_any w s hs)
  by_cases h : s.data.toList = [45]
  · have t1 : (s.toList == [45]) = true := by rw [toList_eq_data, h]; rfl
    have e : sideF s.data.toList = ([], 0) := by unfold sideF; rw [if_pos h]
    clear h
    go_enter Tryd.func89, Tryd.ntmps89
    go_wp2_with fail
    rw [HRR.out]
    exact ⟨_, _, rfl, by rw [e], by rw [e]; exact OwnE.nil, Below.refl _ _⟩
  · have t1 : (s.toList == [45]) = false := by rw [toList_eq_data]; exact beq_eq_false_iff_ne.2 h
    have e : sideF s.data.toList = ((parseF s).1, (parseF s).2.2) := by unfold sideF; rw [if_neg h, ofL_of]
    clear h
    go_enter Tryd.func89, Tryd.ntmps89
    go_wp2_with (go_at_call 103; refine HPA.out.mono ?_; rintro e w1 ⟨v1, rfl, ho1, hb1⟩)
    rw [HRR.out]
    exact ⟨v1, _, rfl, by rw [e], by rw [e]; exact ho1, hb1⟩

set_option maxRecDepth 100000 in
set_option maxHeartbeats 4000000 in
theorem named_any (ts : List Tb) (v : Value) (nm : ByteArray) (w : World) (ht : RdTb w v ts) (hl : ts.length ≤ 1000000) :
    Calls Tryd.prog 61 #[v, .string nm] w fun e w' => e = .returned (.int .i64 (findF ts nm 0)) ∧ Below w.heap.size w w' := by
  obtain ⟨xs, hx0, hxl, hx⟩ := ht
  have hxa : xs.length ≤ ts.length := Nat.le_of_eq hxl
  have hxb : ts.length ≤ xs.length := Nat.le_of_eq hxl.symm
  clear hxl
  obtain ⟨A, c, rfl, hlc, _⟩ := hx0.shape
  have HX := Lib.hid hx0
  have HI : Hid (∀ (i : Nat) (x : TbV) (t : Tb), xs[i]? = some x → ts[i]? = some t → x.nm = t.nm) := fun i x t h1 h2 => (hx i x t h1 h2).1
  clear hx0 hx
  obtain ⟨V, HV⟩ : ∃ V, Hid (V = findF ts nm 0) := ⟨_, rfl⟩
  rw [← HV.out]
  go_enter Tryd.func61, Tryd.ntmps61
  go_wp2_with fail
  obtain ⟨wo, HWO⟩ : ∃ wo, Hid (wo = w) := ⟨w, rfl⟩
  go_loopg [5, 8] xs.length (fun gk iv kv wr => ∃ k : Nat, kv = .int .i64 k ∧ k ≤ xs.length ∧ Hid (findF (ts.drop k) nm k = V) ∧ wr = w ∧ xs.length - k ≤ gk)
  case atStart => exact ⟨0, rfl, by omega, by (show _ = _); rw [List.drop_zero, HV.out], rfl, by omega⟩
  case round =>
    obtain ⟨k, rfl, hk, HF, rfl, hgk⟩ := hrel
    by_cases hkl : k < xs.length
    · have hki : (k : Int) < (xs.length : Int) := by omega
      have hk0 : (0 : Int) ≤ (k : Int) := by omega
      obtain ⟨b, o, rfl, hbl, hcell⟩ := HX.out.cells (by omega)
      have hxk : xs[k]? = some xs[k] := List.getElem?_eq_getElem hkl
      have htk : ts[k]? = some (ts[k]'(by omega)) := List.getElem?_eq_getElem (by omega)
      have q0 := hcell k _ 0 _ hxk rfl
      rw [show o + (k * 3 + 0) = o + k * 3 by omega] at q0
      have hnm := HI.out k _ _ hxk htk
      have HF2 : Hid ((if (xs[k].nm.toList == nm.toList) = true then (k : Int) else findF (ts.drop (k + 1)) nm (k + 1)) = V) := by
        show _ = _
        have h := HF.out
        rw [List.drop_eq_getElem_cons (show k < ts.length by omega), findF] at h
        rw [hnm]
        exact h
      clear hcell hxk htk hnm HF
      generalize xs[k] = x at q0 HF2
      by_cases hp : (x.nm.toList == nm.toList) = true
      · rw [if_pos hp] at HF2
        go_wp2_with fail
        go_ret
        exact ⟨ret_int HF2.out, Below.refl _ _⟩
      · have hp2 : (x.nm.toList == nm.toList) = false := by simpa using hp
        rw [if_neg hp] at HF2
        clear hp
        go_wp2_with fail
        go_roundg (xs.length - (k + 1))
        case measure => omega
        case rel => exact ⟨k + 1, by go_num, by omega, HF2.out, rfl, Nat.le_refl _⟩
    · obtain rfl : k = xs.length := by omega
      have hki : ¬ (xs.length : Int) < (xs.length : Int) := by omega
      have HF2 : Hid (V = -1) := by
        show _ = _
        rw [← HF.out, List.drop_eq_nil_of_le (by omega)]
        rfl
      go_wp2_with fail
      go_ret
      exact ⟨ret_int HF2.out.symm, Below.refl _ _⟩

end Go.Proofs.YtpboaadjbkaidaaDoor

namespace Go.Proofs.YtpboaadjbkaidaaDoor
set_option maxRecDepth 100000
open Go.RowKit

theorem risname_any (s : ByteArray) (w : World) (hs : s.size ≤ maxLen) :
    Calls Tryd.prog 60 #[.string s] w fun e w' => e = .returned (.bool (nameL s.data.toList)) ∧ w = w' := by
  unfold maxLen at hs
  have hsz := Lib.size_eq s
  by_cases h1 : s.size < 1
  · have hn := nameL_short s.data.toList (by omega)
    have H := Lib.hid hn
    clear hn hsz
    go_enter Tryd.func60, Tryd.ntmps60
    go_wp2
    go_ret
    exact ⟨ret_bool H.out.symm, rfl⟩
  by_cases h2 : 24 < s.size
  · have hn := nameL_long s.data.toList (by omega)
    have H := Lib.hid hn
    clear hn hsz
    go_enter Tryd.func60, Tryd.ntmps60
    go_wp2
    go_ret
    exact ⟨ret_bool H.out.symm, rfl⟩
  have HZ := Lib.hid hsz
  clear hsz
  go_enter Tryd.func60, Tryd.ntmps60
  go_wp2
  go_loop [3] (fun i => ∃ k : Nat, k ≤ s.size ∧ i = .int .i64 k ∧ (1 ≤ k → Hid (nameL s.data.toList = (s.data.toList.drop k).all restB))) (fun i => s.size - (intOf i).toNat)
  case atStart => exact ⟨0, by omega, rfl, fun h => by omega⟩
  case round =>
    obtain ⟨k, hk, rfl, HR⟩ := hrel
    have HR' := Lib.hid HR
    clear HR
    by_cases hlt : k < s.size
    · have hl : k < s.data.toList.length := by rw [← Lib.size_eq]; exact hlt
      have hgk : s.data.toList[k] = s[k] := rfl
      have h255 : s[k].toNat < 256 := s[k].toNat_lt
      by_cases hk0 : 1 ≤ k
      · have hst := (HR'.out hk0).out.trans (all_drop_step _ _ hl)
        rw [hgk] at hst
        have HS := Lib.hid hst
        clear hst hgk
        go_wp2
        all_goals (try simp only [beq_iff_eq, beq_eq_false_iff_ne, bne_iff_ne, bne_eq_false_iff_eq, ne_eq, Bool.not_eq_true', Bool.not_eq_false', Bool.not_eq_eq_eq_not, Bool.not_true, Bool.not_false, decide_eq_true_eq, decide_eq_false_iff_not, Int.not_lt, Int.not_le] at *)
        all_goals first
          | (refine ⟨⟨k + 1, by omega, by go_num, fun _ => ?_⟩, by simp [intOf]; try omega⟩
             have hr : restB s[k] = true := by simp only [restB, decide_eq_true_eq]; omega
             have := HS.out
             rw [hr, Bool.true_and] at this
             exact this)
          | (have hr : restB s[k] = false := by simp only [restB, decide_eq_false_iff_not]; omega
             have := HS.out
             rw [hr, Bool.false_and] at this
             go_ret
             exact ⟨ret_bool this.symm, rfl⟩)
      · obtain rfl : k = 0 := by omega
        have hn1 := fun (h : headB s[0] = true) => nameL_tail s.data.toList hl (by rw [← HZ.out]; omega) (by rw [hgk]; exact h)
        have hn2 := fun (h : headB s[0] = false) => nameL_head s.data.toList hl (by rw [hgk]; exact h)
        have H1 := Lib.hid hn1
        have H2 := Lib.hid hn2
        clear hn1 hn2 hgk
        go_wp2
        all_goals (try simp only [beq_iff_eq, beq_eq_false_iff_ne, bne_iff_ne, bne_eq_false_iff_eq, ne_eq, Bool.not_eq_true', Bool.not_eq_false', Bool.not_eq_eq_eq_not, Bool.not_true, Bool.not_false, decide_eq_true_eq, decide_eq_false_iff_not, Int.not_lt, Int.not_le] at *)
        all_goals first
          | (refine ⟨⟨0 + 1, by omega, by go_num, fun _ => ?_⟩, by simp [intOf]; try omega⟩
             have hr : headB s[0] = true := by simp only [headB, decide_eq_true_eq]; omega
             exact H1.out hr)
          | (have hr : headB s[0] = false := by simp only [headB, decide_eq_false_iff_not]; omega
             go_ret
             exact ⟨ret_bool (H2.out hr).symm, rfl⟩)
    · have hl : ¬ k < s.data.toList.length := by rw [← Lib.size_eq]; exact hlt
      have hst := (HR'.out (by omega)).out.trans (all_drop_end _ _ hl)
      have HS := Lib.hid hst
      clear hst hl
      go_wp2
      go_ret
      exact ⟨ret_bool HS.out.symm, rfl⟩

end Go.Proofs.YtpboaadjbkaidaaDoor
