
/-
  The reference of chapter 5: the sets of letters, single bytes.
-/
import Derived.Test.YtanpiidhcijfaaaScanA
namespace Go.Proofs.Ytanpiidhcijfaaa
open Go.RowKit

theorem rset_size : (Try.prog.info? 35).map (·.size) = some 32 := by kernel_rfl
theorem rres_set_tmp {fn : Func} {p u : Tmp} (h : fn.results = #[.cell p 35, .tmp u]) (tmps : Array Value) (w : World) (g : Nat) (t : TypeId) (q : Nat → Bool) (v : Value) (hp : tmps.getD p undef = .pointer (some ⟨g, 0, none⟩)) (hu : tmps.getD u undef = v) (hs : SetIn w g t q) :
    (results fn tmps).run Try.prog w = .ok (.tuple #[.agg (setC q).toArray, v]) w := by
  rw [results_cell_tmp h, hp, hu]
  have hl := run_loadVar_row (P := Try.prog) w g t 35 (setC q).toArray (0, 0) _ hs Try.underlying35 rfl (by rw [rset_size, setC_size])
  simp [asAddr, Result.andThen, hl]

/-- What the letters s, d, l, c, m stand for, the first k of them. -/
def wantK (low k : Nat) : Nat :=
  if 4 < k ∧ low = 109 then 5 else if 3 < k ∧ low = 99 then 1 else if 2 < k ∧ low = 108 then 4 else if 1 < k ∧ low = 100 then 3 else if 0 < k ∧ low = 115 then 2 else 0
def lowN (c : Nat) : Nat := if 65 ≤ c ∧ c ≤ 90 then c + 32 else c
/-- Does the reference know the letter. -/
def okL (c : Nat) : Bool := !(wantK (lowN c) 5 == 0 && lowN c != 117)
theorem wantK_lt (low k : Nat) : wantK low k < 6 := by
  unfold wantK
  repeat' split
  all_goals omega
theorem wantK_hit0 (low : Nat) (h : low = 115) : wantK low 1 = 2 := by subst h; decide
theorem wantK_miss0 (low : Nat) (h : ¬ low = 115) : wantK low 1 = wantK low 0 := by unfold wantK; simp [h]
theorem wantK_hit1 (low : Nat) (h : low = 100) : wantK low 2 = 3 := by subst h; decide
theorem wantK_miss1 (low : Nat) (h : ¬ low = 100) : wantK low 2 = wantK low 1 := by unfold wantK; simp [h]
theorem wantK_hit2 (low : Nat) (h : low = 108) : wantK low 3 = 4 := by subst h; decide
theorem wantK_miss2 (low : Nat) (h : ¬ low = 108) : wantK low 3 = wantK low 2 := by unfold wantK; simp [h]
theorem wantK_hit3 (low : Nat) (h : low = 99) : wantK low 4 = 1 := by subst h; decide
theorem wantK_miss3 (low : Nat) (h : ¬ low = 99) : wantK low 4 = wantK low 3 := by unfold wantK; simp [h]
theorem wantK_hit4 (low : Nat) (h : low = 109) : wantK low 5 = 5 := by subst h; decide
theorem wantK_miss4 (low : Nat) (h : ¬ low = 109) : wantK low 5 = wantK low 4 := by unfold wantK; simp [h]
theorem class_none : ∀ c : Fin 256, okL c.val = (classP c.val).isSome := by decide +kernel
def HeadR (low : Nat) (tv iv : Value) : Prop := (iv = .int .i64 0 ∧ tv = .int .i64 (wantK low 0 : Nat)) ∨ (iv = .int .i64 1 ∧ tv = .int .i64 (wantK low 1 : Nat)) ∨ (iv = .int .i64 2 ∧ tv = .int .i64 (wantK low 2 : Nat)) ∨ (iv = .int .i64 3 ∧ tv = .int .i64 (wantK low 3 : Nat)) ∨ (iv = .int .i64 4 ∧ tv = .int .i64 (wantK low 4 : Nat)) ∨ (iv = .int .i64 5 ∧ tv = .int .i64 (wantK low 5 : Nat))
def setL (c : Nat) : Nat → Bool := if c = lowN c then kindP (wantK (lowN c) 5 : Nat) else notP (kindP (wantK (lowN c) 5 : Nat))
theorem class_some (c : Nat) (hc : c < 256) (h : okL c = true) : classP c = some (setL c) := by
  have hs := class_none ⟨c, hc⟩
  simp only [h] at hs
  unfold classP at hs ⊢
  have e : c = 115 ∨ c = 83 ∨ c = 100 ∨ c = 68 ∨ c = 108 ∨ c = 76 ∨ c = 99 ∨ c = 67 ∨ c = 109 ∨ c = 77 ∨ c = 117 ∨ c = 85 := by
    refine Decidable.byContradiction fun hn => ?_
    simp only [not_or] at hn
    simp [hn] at hs
  rcases e with rfl | rfl | rfl | rfl | rfl | rfl | rfl | rfl | rfl | rfl | rfl | rfl <;> rfl

set_option maxRecDepth 100000 in
set_option maxHeartbeats 4000000 in
theorem rclass_any (c : Nat) (w : World) (hc : c < 256) :
    Calls Try.prog 51 #[.int .u8 c] w fun e w' => (∃ p, (okL c = true → p = setL c) ∧ e = .returned (.tuple #[.agg (setC p).toArray, .bool (okL c)])) ∧ Below w.heap.size w w' := by
  have HA0 : Hid (SetIn (((w.alloc (.cells #[.int .u8 0, .int .u8 0, .int .u8 0, .int .u8 0, .int .u8 0, .int .u8 0, .int .u8 0, .int .u8 0, .int .u8 0, .int .u8 0, .int .u8 0, .int .u8 0, .int .u8 0, .int .u8 0, .int .u8 0, .int .u8 0, .int .u8 0, .int .u8 0, .int .u8 0, .int .u8 0, .int .u8 0, .int .u8 0, .int .u8 0, .int .u8 0, .int .u8 0, .int .u8 0, .int .u8 0, .int .u8 0, .int .u8 0, .int .u8 0, .int .u8 0, .int .u8 0] 35)).alloc (.cells #[.int .u8 0, .int .u8 0, .int .u8 0, .int .u8 0, .int .u8 0, .int .u8 0, .int .u8 0, .int .u8 0, .int .u8 0, .int .u8 0, .int .u8 0, .int .u8 0, .int .u8 0, .int .u8 0, .int .u8 0, .int .u8 0, .int .u8 0, .int .u8 0, .int .u8 0, .int .u8 0, .int .u8 0, .int .u8 0, .int .u8 0, .int .u8 0, .int .u8 0, .int .u8 0, .int .u8 0, .int .u8 0, .int .u8 0, .int .u8 0, .int .u8 0, .int .u8 0] 35)).alloc (.cells #[.int .i64 2, .int .i64 3, .int .i64 4, .int .i64 1, .int .i64 5] 3)) w.heap.size 35 noP) := ((zero_in w 35).keep (Below.heap_alloc _ _ _ (by simp))).keep (Below.heap_alloc _ _ _ (by simp; omega))
  have HS0 : Hid (SetIn (((w.alloc (.cells #[.int .u8 0, .int .u8 0, .int .u8 0, .int .u8 0, .int .u8 0, .int .u8 0, .int .u8 0, .int .u8 0, .int .u8 0, .int .u8 0, .int .u8 0, .int .u8 0, .int .u8 0, .int .u8 0, .int .u8 0, .int .u8 0, .int .u8 0, .int .u8 0, .int .u8 0, .int .u8 0, .int .u8 0, .int .u8 0, .int .u8 0, .int .u8 0, .int .u8 0, .int .u8 0, .int .u8 0, .int .u8 0, .int .u8 0, .int .u8 0, .int .u8 0, .int .u8 0] 35)).alloc (.cells #[.int .u8 0, .int .u8 0, .int .u8 0, .int .u8 0, .int .u8 0, .int .u8 0, .int .u8 0, .int .u8 0, .int .u8 0, .int .u8 0, .int .u8 0, .int .u8 0, .int .u8 0, .int .u8 0, .int .u8 0, .int .u8 0, .int .u8 0, .int .u8 0, .int .u8 0, .int .u8 0, .int .u8 0, .int .u8 0, .int .u8 0, .int .u8 0, .int .u8 0, .int .u8 0, .int .u8 0, .int .u8 0, .int .u8 0, .int .u8 0, .int .u8 0, .int .u8 0] 35)).alloc (.cells #[.int .i64 2, .int .i64 3, .int .i64 4, .int .i64 1, .int .i64 5] 3)) (w.heap.size + 1) 35 noP) := by
    have h := zero_in (w.alloc (.cells #[.int .u8 0, .int .u8 0, .int .u8 0, .int .u8 0, .int .u8 0, .int .u8 0, .int .u8 0, .int .u8 0, .int .u8 0, .int .u8 0, .int .u8 0, .int .u8 0, .int .u8 0, .int .u8 0, .int .u8 0, .int .u8 0, .int .u8 0, .int .u8 0, .int .u8 0, .int .u8 0, .int .u8 0, .int .u8 0, .int .u8 0, .int .u8 0, .int .u8 0, .int .u8 0, .int .u8 0, .int .u8 0, .int .u8 0, .int .u8 0, .int .u8 0, .int .u8 0] 35)) 35
    rw [show (w.alloc (.cells #[.int .u8 0, .int .u8 0, .int .u8 0, .int .u8 0, .int .u8 0, .int .u8 0, .int .u8 0, .int .u8 0, .int .u8 0, .int .u8 0, .int .u8 0, .int .u8 0, .int .u8 0, .int .u8 0, .int .u8 0, .int .u8 0, .int .u8 0, .int .u8 0, .int .u8 0, .int .u8 0, .int .u8 0, .int .u8 0, .int .u8 0, .int .u8 0, .int .u8 0, .int .u8 0, .int .u8 0, .int .u8 0, .int .u8 0, .int .u8 0, .int .u8 0, .int .u8 0] 35)).heap.size = w.heap.size + 1 by simp] at h
    exact h.keep (Below.heap_alloc _ _ _ (by simp))
  have HB0 := Lib.hid ((((Below.refl w.heap.size w).alloc (Nat.le_refl _) (.cells #[.int .u8 0, .int .u8 0, .int .u8 0, .int .u8 0, .int .u8 0, .int .u8 0, .int .u8 0, .int .u8 0, .int .u8 0, .int .u8 0, .int .u8 0, .int .u8 0, .int .u8 0, .int .u8 0, .int .u8 0, .int .u8 0, .int .u8 0, .int .u8 0, .int .u8 0, .int .u8 0, .int .u8 0, .int .u8 0, .int .u8 0, .int .u8 0, .int .u8 0, .int .u8 0, .int .u8 0, .int .u8 0, .int .u8 0, .int .u8 0, .int .u8 0, .int .u8 0] 35)).alloc (by simp) (.cells #[.int .u8 0, .int .u8 0, .int .u8 0, .int .u8 0, .int .u8 0, .int .u8 0, .int .u8 0, .int .u8 0, .int .u8 0, .int .u8 0, .int .u8 0, .int .u8 0, .int .u8 0, .int .u8 0, .int .u8 0, .int .u8 0, .int .u8 0, .int .u8 0, .int .u8 0, .int .u8 0, .int .u8 0, .int .u8 0, .int .u8 0, .int .u8 0, .int .u8 0, .int .u8 0, .int .u8 0, .int .u8 0, .int .u8 0, .int .u8 0, .int .u8 0, .int .u8 0] 35)).alloc (by simp; omega) (.cells #[.int .i64 2, .int .i64 3, .int .i64 4, .int .i64 1, .int .i64 5] 3))
  have HK0 : Hid ((((w.alloc (.cells #[.int .u8 0, .int .u8 0, .int .u8 0, .int .u8 0, .int .u8 0, .int .u8 0, .int .u8 0, .int .u8 0, .int .u8 0, .int .u8 0, .int .u8 0, .int .u8 0, .int .u8 0, .int .u8 0, .int .u8 0, .int .u8 0, .int .u8 0, .int .u8 0, .int .u8 0, .int .u8 0, .int .u8 0, .int .u8 0, .int .u8 0, .int .u8 0, .int .u8 0, .int .u8 0, .int .u8 0, .int .u8 0, .int .u8 0, .int .u8 0, .int .u8 0, .int .u8 0] 35)).alloc (.cells #[.int .u8 0, .int .u8 0, .int .u8 0, .int .u8 0, .int .u8 0, .int .u8 0, .int .u8 0, .int .u8 0, .int .u8 0, .int .u8 0, .int .u8 0, .int .u8 0, .int .u8 0, .int .u8 0, .int .u8 0, .int .u8 0, .int .u8 0, .int .u8 0, .int .u8 0, .int .u8 0, .int .u8 0, .int .u8 0, .int .u8 0, .int .u8 0, .int .u8 0, .int .u8 0, .int .u8 0, .int .u8 0, .int .u8 0, .int .u8 0, .int .u8 0, .int .u8 0] 35)).alloc (.cells #[.int .i64 2, .int .i64 3, .int .i64 4, .int .i64 1, .int .i64 5] 3)).heap[w.heap.size + 2]? = some (.cells #[.int .i64 2, .int .i64 3, .int .i64 4, .int .i64 1, .int .i64 5] 3)) := by
    have h := heap_alloc_new ((w.alloc (.cells #[.int .u8 0, .int .u8 0, .int .u8 0, .int .u8 0, .int .u8 0, .int .u8 0, .int .u8 0, .int .u8 0, .int .u8 0, .int .u8 0, .int .u8 0, .int .u8 0, .int .u8 0, .int .u8 0, .int .u8 0, .int .u8 0, .int .u8 0, .int .u8 0, .int .u8 0, .int .u8 0, .int .u8 0, .int .u8 0, .int .u8 0, .int .u8 0, .int .u8 0, .int .u8 0, .int .u8 0, .int .u8 0, .int .u8 0, .int .u8 0, .int .u8 0, .int .u8 0] 35)).alloc (.cells #[.int .u8 0, .int .u8 0, .int .u8 0, .int .u8 0, .int .u8 0, .int .u8 0, .int .u8 0, .int .u8 0, .int .u8 0, .int .u8 0, .int .u8 0, .int .u8 0, .int .u8 0, .int .u8 0, .int .u8 0, .int .u8 0, .int .u8 0, .int .u8 0, .int .u8 0, .int .u8 0, .int .u8 0, .int .u8 0, .int .u8 0, .int .u8 0, .int .u8 0, .int .u8 0, .int .u8 0, .int .u8 0, .int .u8 0, .int .u8 0, .int .u8 0, .int .u8 0] 35)) (.cells #[.int .i64 2, .int .i64 3, .int .i64 4, .int .i64 1, .int .i64 5] 3)
    rw [show ((w.alloc (.cells #[.int .u8 0, .int .u8 0, .int .u8 0, .int .u8 0, .int .u8 0, .int .u8 0, .int .u8 0, .int .u8 0, .int .u8 0, .int .u8 0, .int .u8 0, .int .u8 0, .int .u8 0, .int .u8 0, .int .u8 0, .int .u8 0, .int .u8 0, .int .u8 0, .int .u8 0, .int .u8 0, .int .u8 0, .int .u8 0, .int .u8 0, .int .u8 0, .int .u8 0, .int .u8 0, .int .u8 0, .int .u8 0, .int .u8 0, .int .u8 0, .int .u8 0, .int .u8 0] 35)).alloc (.cells #[.int .u8 0, .int .u8 0, .int .u8 0, .int .u8 0, .int .u8 0, .int .u8 0, .int .u8 0, .int .u8 0, .int .u8 0, .int .u8 0, .int .u8 0, .int .u8 0, .int .u8 0, .int .u8 0, .int .u8 0, .int .u8 0, .int .u8 0, .int .u8 0, .int .u8 0, .int .u8 0, .int .u8 0, .int .u8 0, .int .u8 0, .int .u8 0, .int .u8 0, .int .u8 0, .int .u8 0, .int .u8 0, .int .u8 0, .int .u8 0, .int .u8 0, .int .u8 0] 35)).heap.size = w.heap.size + 2 by simp] at h
    exact h
  go_enter Try.func51, Try.ntmps51
  by_cases hup : 65 ≤ c ∧ c ≤ 90
  · have hu1 : (65 : Int) ≤ (c : Int) := by omega
    have hu2 : (c : Int) ≤ 90 := by omega
    obtain ⟨low, HL⟩ : ∃ low, Hid (low = lowN c) := ⟨_, rfl⟩
    have hl1 : low < c + 33 := by have := HL.out; unfold lowN at this; rw [if_pos hup] at this; omega
    have hl2 : c + 32 ≤ low := by have := HL.out; unfold lowN at this; rw [if_pos hup] at this; omega
    have tcl : ((c : Int) == (low : Int)) = false := beq_eq_false_iff_ne.2 (by omega)
    clear hup
    go_wp2_with fail
    rw [show (c : Int) + 32 = (low : Int) by omega]
    generalize ((w.alloc (.cells #[.int .u8 0, .int .u8 0, .int .u8 0, .int .u8 0, .int .u8 0, .int .u8 0, .int .u8 0, .int .u8 0, .int .u8 0, .int .u8 0, .int .u8 0, .int .u8 0, .int .u8 0, .int .u8 0, .int .u8 0, .int .u8 0, .int .u8 0, .int .u8 0, .int .u8 0, .int .u8 0, .int .u8 0, .int .u8 0, .int .u8 0, .int .u8 0, .int .u8 0, .int .u8 0, .int .u8 0, .int .u8 0, .int .u8 0, .int .u8 0, .int .u8 0, .int .u8 0] 35)).alloc (.cells #[.int .u8 0, .int .u8 0, .int .u8 0, .int .u8 0, .int .u8 0, .int .u8 0, .int .u8 0, .int .u8 0, .int .u8 0, .int .u8 0, .int .u8 0, .int .u8 0, .int .u8 0, .int .u8 0, .int .u8 0, .int .u8 0, .int .u8 0, .int .u8 0, .int .u8 0, .int .u8 0, .int .u8 0, .int .u8 0, .int .u8 0, .int .u8 0, .int .u8 0, .int .u8 0, .int .u8 0, .int .u8 0, .int .u8 0, .int .u8 0, .int .u8 0, .int .u8 0] 35)).alloc (.cells #[.int .i64 2, .int .i64 3, .int .i64 4, .int .i64 1, .int .i64 5] 3) = w1 at HA0 HS0 HB0 HK0
    have q0 : w1.cell? ⟨w.heap.size + 2, 0, none⟩ = some (.int .i64 2) := by rw [cell_of_row _ _ _ _ _ _ HK0.out]; rfl
    have q1 : w1.cell? ⟨w.heap.size + 2, 1, none⟩ = some (.int .i64 3) := by rw [cell_of_row _ _ _ _ _ _ HK0.out]; rfl
    have q2 : w1.cell? ⟨w.heap.size + 2, 2, none⟩ = some (.int .i64 4) := by rw [cell_of_row _ _ _ _ _ _ HK0.out]; rfl
    have q3 : w1.cell? ⟨w.heap.size + 2, 3, none⟩ = some (.int .i64 1) := by rw [cell_of_row _ _ _ _ _ _ HK0.out]; rfl
    have q4 : w1.cell? ⟨w.heap.size + 2, 4, none⟩ = some (.int .i64 5) := by rw [cell_of_row _ _ _ _ _ _ HK0.out]; rfl
    have kb0 : ∀ h, ((⟨#[115, 100, 108, 99, 109]⟩ : ByteArray)[0]'h).toNat = 115 := fun _ => rfl
    have kb1 : ∀ h, ((⟨#[115, 100, 108, 99, 109]⟩ : ByteArray)[1]'h).toNat = 100 := fun _ => rfl
    have kb2 : ∀ h, ((⟨#[115, 100, 108, 99, 109]⟩ : ByteArray)[2]'h).toNat = 108 := fun _ => rfl
    have kb3 : ∀ h, ((⟨#[115, 100, 108, 99, 109]⟩ : ByteArray)[3]'h).toNat = 99 := fun _ => rfl
    have kb4 : ∀ h, ((⟨#[115, 100, 108, 99, 109]⟩ : ByteArray)[4]'h).toNat = 109 := fun _ => rfl
    clear HK0
    go_loop [7, 23] (fun tv iv => HeadR low tv iv) (fun _ iv => 5 - (intOf iv).toNat)
    case atStart => exact .inl ⟨rfl, rfl⟩
    case round =>
      unfold HeadR at hrel
      rcases hrel with ⟨rfl, rfl⟩ | ⟨rfl, rfl⟩ | ⟨rfl, rfl⟩ | ⟨rfl, rfl⟩ | ⟨rfl, rfl⟩ | ⟨rfl, rfl⟩
      · by_cases hl : low = 115
        · have tl : ((115 : Int) == (low : Int)) = true := beq_iff_eq.2 (by omega)
          have HE := Lib.hid (wantK_hit0 low hl)
          clear hl
          go_wp2_with fail
          exact ⟨.inr (.inl ⟨rfl, by rw [HE.out]; rfl⟩), by simp [intOf]⟩
        · have tl : ((115 : Int) == (low : Int)) = false := beq_eq_false_iff_ne.2 (by omega)
          have HE := Lib.hid (wantK_miss0 low hl)
          clear hl
          go_wp2_with fail
          exact ⟨.inr (.inl ⟨rfl, by rw [HE.out]⟩), by simp [intOf]⟩
      · by_cases hl : low = 100
        · have tl : ((100 : Int) == (low : Int)) = true := beq_iff_eq.2 (by omega)
          have HE := Lib.hid (wantK_hit1 low hl)
          clear hl
          go_wp2_with fail
          exact ⟨.inr (.inr (.inl ⟨rfl, by rw [HE.out]; rfl⟩)), by simp [intOf]⟩
        · have tl : ((100 : Int) == (low : Int)) = false := beq_eq_false_iff_ne.2 (by omega)
          have HE := Lib.hid (wantK_miss1 low hl)
          clear hl
          go_wp2_with fail
          exact ⟨.inr (.inr (.inl ⟨rfl, by rw [HE.out]⟩)), by simp [intOf]⟩
      · by_cases hl : low = 108
        · have tl : ((108 : Int) == (low : Int)) = true := beq_iff_eq.2 (by omega)
          have HE := Lib.hid (wantK_hit2 low hl)
          clear hl
          go_wp2_with fail
          exact ⟨.inr (.inr (.inr (.inl ⟨rfl, by rw [HE.out]; rfl⟩))), by simp [intOf]⟩
        · have tl : ((108 : Int) == (low : Int)) = false := beq_eq_false_iff_ne.2 (by omega)
          have HE := Lib.hid (wantK_miss2 low hl)
          clear hl
          go_wp2_with fail
          exact ⟨.inr (.inr (.inr (.inl ⟨rfl, by rw [HE.out]⟩))), by simp [intOf]⟩
      · by_cases hl : low = 99
        · have tl : ((99 : Int) == (low : Int)) = true := beq_iff_eq.2 (by omega)
          have HE := Lib.hid (wantK_hit3 low hl)
          clear hl
          go_wp2_with fail
          exact ⟨.inr (.inr (.inr (.inr (.inl ⟨rfl, by rw [HE.out]; rfl⟩)))), by simp [intOf]⟩
        · have tl : ((99 : Int) == (low : Int)) = false := beq_eq_false_iff_ne.2 (by omega)
          have HE := Lib.hid (wantK_miss3 low hl)
          clear hl
          go_wp2_with fail
          exact ⟨.inr (.inr (.inr (.inr (.inl ⟨rfl, by rw [HE.out]⟩)))), by simp [intOf]⟩
      · by_cases hl : low = 109
        · have tl : ((109 : Int) == (low : Int)) = true := beq_iff_eq.2 (by omega)
          have HE := Lib.hid (wantK_hit4 low hl)
          clear hl
          go_wp2_with fail
          exact ⟨.inr (.inr (.inr (.inr (.inr (⟨rfl, by rw [HE.out]; rfl⟩))))), by simp [intOf]⟩
        · have tl : ((109 : Int) == (low : Int)) = false := beq_eq_false_iff_ne.2 (by omega)
          have HE := Lib.hid (wantK_miss4 low hl)
          clear hl
          go_wp2_with fail
          exact ⟨.inr (.inr (.inr (.inr (.inr (⟨rfl, by rw [HE.out]⟩))))), by simp [intOf]⟩
      · skip
        obtain ⟨want, HW⟩ : ∃ n, Hid (n = wantK low 5) := ⟨_, rfl⟩
        rw [← HW.out]
        have hw5 : want < 6 := by have := HW.out; have := wantK_lt low 5; omega
        by_cases hz : want = 0
        · have tz : ((want : Int) == 0) = true := beq_iff_eq.2 (by omega)
          have tn : ((want : Int) != 0) = false := bne_eq_false_iff_eq.2 (by omega)
          by_cases h117 : low = 117
          · have t117 : ((low : Int) != 117) = false := bne_eq_false_iff_eq.2 (by omega)
            have HP : Hid (∀ k, setL c k = notP (kindP (want : Int)) k) := fun k => by
              unfold setL
              rw [← HL.out, ← HW.out]
              rw [if_neg (by omega)]
            have HOK : Hid (okL c = true) := by
              show _ = _
              unfold okL
              rw [← HL.out, ← HW.out]
              rw [hz]; simp [h117]
            have hz1 : want < 1 := by omega
            clear hz
            clear h117
            have HU : Hid (SetIn w1 (w.heap.size + 1) 35 (uptoP (setL c) 0)) := HS0.out.congr (upto_zero _)
            go_wp2_with fail
            go_loopw [10] (fun kv wr => ∃ k : Nat, k ≤ 256 ∧ kv = .int .i64 k ∧ Hid (SetIn wr w.heap.size 35 noP) ∧ Hid (SetIn wr (w.heap.size + 1) 35 (uptoP (setL c) k)) ∧ Hid (Below w.heap.size w wr)) (fun kv _ => 256 - (intOf kv).toNat)
            case atStart => exact ⟨0, by omega, rfl, HA0.out, HU.out, HB0.out⟩
            case round =>
              clear HA0 HS0 HU HB0 q0 q1 q2 q3 q4
              obtain ⟨k, hk, rfl, HA, HS, HB⟩ := hrel
              by_cases hkl : k < 256
              · have ec : IntKind.u8.wrap (k : Int) = (k : Int) := by rw [IntKind.wrap_u8]; omega
                by_cases h65 : 65 ≤ k
                · have h65i : (65 : Int) ≤ (k : Int) := by omega
                  by_cases h90 : k ≤ 90
                  · have h90i : (k : Int) ≤ 90 := by omega
                    have hkp : kindP (want : Int) k = true := by unfold kindP; rw [if_pos (by omega)]; exact decide_eq_true ⟨h65, h90⟩
                    have hp : setL c k = false := by rw [HP.out]; unfold notP; rw [hkp]; rfl
                    have HS2 := Lib.hid (HS.out.congr (upto_out _ k hp))
                    go_wp2_with (go_at_call 52; refine (cls_any _ _ (by omega) (by omega)).mono ?_; rintro e w' ⟨rfl, rfl⟩)
                    exact ⟨⟨k + 1, by omega, by go_num, HA.out, HS2.out, HB.out⟩, by simp [intOf]; try omega⟩
                  · have h90i : ¬ (k : Int) ≤ 90 := by omega
                    have hkp : kindP (want : Int) k = false := by unfold kindP; rw [if_pos (by omega)]; exact decide_eq_false (fun h => h90 h.2)
                    have hp : setL c k = true := by rw [HP.out]; unfold notP; rw [hkp]; rfl
                    go_wp2_with (first
                      | (go_at_call 52; refine (cls_any _ _ (by omega) (by omega)).mono ?_; rintro e w' ⟨rfl, rfl⟩)
                      | (go_at_call 53; refine (put_any _ (w.heap.size + 1) k _ _ (by exact HS.out) hkl).mono ?_; rintro e w2 ⟨rfl, hs2, ho2⟩))
                    have HS2 := Lib.hid (hs2.congr (upto_in _ k hp))
                    have HA2 := Lib.hid (HA.out.keep (ho2.block _ HA.out.lt (by omega)))
                    have HB2 := Lib.hid (HB.out.trans (ho2.below (B := w.heap.size) (Nat.le_succ _) HB.out.size))
                    exact ⟨⟨k + 1, by omega, by go_num, HA2.out, HS2.out, HB2.out⟩, by simp [intOf]; try omega⟩
                · have h65i : ¬ (65 : Int) ≤ (k : Int) := by omega
                  have hkp : kindP (want : Int) k = false := by unfold kindP; rw [if_pos (by omega)]; exact decide_eq_false (fun h => h65 h.1)
                  have hp : setL c k = true := by rw [HP.out]; unfold notP; rw [hkp]; rfl
                  go_wp2_with (first
                    | (go_at_call 52; refine (cls_any _ _ (by omega) (by omega)).mono ?_; rintro e w' ⟨rfl, rfl⟩)
                    | (go_at_call 53; refine (put_any _ (w.heap.size + 1) k _ _ (by exact HS.out) hkl).mono ?_; rintro e w2 ⟨rfl, hs2, ho2⟩))
                  have HS2 := Lib.hid (hs2.congr (upto_in _ k hp))
                  have HA2 := Lib.hid (HA.out.keep (ho2.block _ HA.out.lt (by omega)))
                  have HB2 := Lib.hid (HB.out.trans (ho2.below (B := w.heap.size) (Nat.le_succ _) HB.out.size))
                  exact ⟨⟨k + 1, by omega, by go_num, HA2.out, HS2.out, HB2.out⟩, by simp [intOf]; try omega⟩
              · obtain rfl : k = 256 := by omega
                have HS2 : Hid (SetIn wr (w.heap.size + 1) 35 (setL c)) := HS.out.congr (upto_all _)
                go_wp2_with (first
                  | (refine wpList_load_row rfl 35 (.tmp 4) rfl ((w.heap.size + 1)) rfl 35 (setC (setL c)).toArray (0, 0) _ HS2.out Try.underlying35 rfl (by rw [rset_size, setC_size]) ?_)
                  | (refine wpList_store_row rfl 35 (.tmp 2) (.tmp 75) rfl (w.heap.size) (setC (setL c)).toArray rfl rfl 35 (setC noP).toArray HA.out (by rw [rset_size, setC_size]) (by simp only [setC_size]) (setC_one _) ?_))
                exact bodyPost_ret (v := .tuple #[.agg (setC (setL c)).toArray, .bool true]) (rres_set_tmp Try.results51 _ _ w.heap.size 35 (setL c) _ rfl rfl (HA.out.row (setL c))) rfl ⟨⟨setL c, fun _ => rfl, by rw [HOK.out]⟩, below_setRow HB.out (Nat.le_refl _) _⟩
          · have t117 : ((low : Int) != 117) = true := bne_iff_ne.2 (by omega)
            have HOK : Hid (okL c = false) := by
              show _ = _
              unfold okL
              rw [← HL.out, ← HW.out, hz]
              simp [h117]
            clear hz
            go_wp2_with (first
              | (refine wpList_load_row rfl 35 (.tmp 4) rfl ((w.heap.size + 1)) rfl 35 (setC noP).toArray (0, 0) _ HS0.out Try.underlying35 rfl (by rw [rset_size, setC_size]) ?_)
              | (refine wpList_store_row rfl 35 (.tmp 2) (.tmp 41) rfl (w.heap.size) (setC noP).toArray rfl rfl 35 (setC noP).toArray HA0.out (by rw [rset_size, setC_size]) (by simp only [setC_size]) (setC_one _) ?_))
            exact bodyPost_ret (v := .tuple #[.agg (setC noP).toArray, .bool false]) (rres_set_tmp Try.results51 _ _ w.heap.size 35 noP _ rfl rfl (HA0.out.row noP)) rfl ⟨⟨noP, fun h => by rw [HOK.out] at h; exact absurd h Bool.false_ne_true, by rw [HOK.out]⟩, below_setRow HB0.out (Nat.le_refl _) _⟩
        · have tz : ((want : Int) == 0) = false := beq_eq_false_iff_ne.2 (by omega)
          have tn : ((want : Int) != 0) = true := bne_iff_ne.2 (by omega)
          have HP : Hid (∀ k, setL c k = notP (kindP (want : Int)) k) := fun k => by
            unfold setL
            rw [← HL.out, ← HW.out]
            rw [if_neg (by omega)]
          have HOK : Hid (okL c = true) := by
            show _ = _
            unfold okL
            rw [← HL.out, ← HW.out]
            simp [hz]
          have hz1 : 0 < want := by omega
          clear hz
          skip
          have HU : Hid (SetIn w1 (w.heap.size + 1) 35 (uptoP (setL c) 0)) := HS0.out.congr (upto_zero _)
          go_wp2_with fail
          go_loopw [10] (fun kv wr => ∃ k : Nat, k ≤ 256 ∧ kv = .int .i64 k ∧ Hid (SetIn wr w.heap.size 35 noP) ∧ Hid (SetIn wr (w.heap.size + 1) 35 (uptoP (setL c) k)) ∧ Hid (Below w.heap.size w wr)) (fun kv _ => 256 - (intOf kv).toNat)
          case atStart => exact ⟨0, by omega, rfl, HA0.out, HU.out, HB0.out⟩
          case round =>
            clear HA0 HS0 HU HB0 q0 q1 q2 q3 q4
            obtain ⟨k, hk, rfl, HA, HS, HB⟩ := hrel
            by_cases hkl : k < 256
            · have ec : IntKind.u8.wrap (k : Int) = (k : Int) := by rw [IntKind.wrap_u8]; omega
              by_cases hcl : clsN (k : Int) = (want : Int)
              · have tcl : (clsN (k : Int) == (want : Int)) = true := beq_iff_eq.2 hcl
                have hkp : kindP (want : Int) k = true := by unfold kindP; rw [if_neg (by omega)]; exact decide_eq_true hcl
                clear hcl
                have hp : setL c k = false := by rw [HP.out]; unfold notP; rw [hkp]; rfl
                have HS2 := Lib.hid (HS.out.congr (upto_out _ k hp))
                go_wp2_with (go_at_call 52; refine (cls_any _ _ (by omega) (by omega)).mono ?_; rintro e w' ⟨rfl, rfl⟩)
                exact ⟨⟨k + 1, by omega, by go_num, HA.out, HS2.out, HB.out⟩, by simp [intOf]; try omega⟩
              · have tcl : (clsN (k : Int) == (want : Int)) = false := beq_eq_false_iff_ne.2 hcl
                have hkp : kindP (want : Int) k = false := by unfold kindP; rw [if_neg (by omega)]; exact decide_eq_false hcl
                clear hcl
                have hp : setL c k = true := by rw [HP.out]; unfold notP; rw [hkp]; rfl
                go_wp2_with (first
                  | (go_at_call 52; refine (cls_any _ _ (by omega) (by omega)).mono ?_; rintro e w' ⟨rfl, rfl⟩)
                  | (go_at_call 53; refine (put_any _ (w.heap.size + 1) k _ _ (by exact HS.out) hkl).mono ?_; rintro e w2 ⟨rfl, hs2, ho2⟩))
                have HS2 := Lib.hid (hs2.congr (upto_in _ k hp))
                have HA2 := Lib.hid (HA.out.keep (ho2.block _ HA.out.lt (by omega)))
                have HB2 := Lib.hid (HB.out.trans (ho2.below (B := w.heap.size) (Nat.le_succ _) HB.out.size))
                exact ⟨⟨k + 1, by omega, by go_num, HA2.out, HS2.out, HB2.out⟩, by simp [intOf]; try omega⟩
            · obtain rfl : k = 256 := by omega
              have HS2 : Hid (SetIn wr (w.heap.size + 1) 35 (setL c)) := HS.out.congr (upto_all _)
              go_wp2_with (first
                | (refine wpList_load_row rfl 35 (.tmp 4) rfl ((w.heap.size + 1)) rfl 35 (setC (setL c)).toArray (0, 0) _ HS2.out Try.underlying35 rfl (by rw [rset_size, setC_size]) ?_)
                | (refine wpList_store_row rfl 35 (.tmp 2) (.tmp 75) rfl (w.heap.size) (setC (setL c)).toArray rfl rfl 35 (setC noP).toArray HA.out (by rw [rset_size, setC_size]) (by simp only [setC_size]) (setC_one _) ?_))
              exact bodyPost_ret (v := .tuple #[.agg (setC (setL c)).toArray, .bool true]) (rres_set_tmp Try.results51 _ _ w.heap.size 35 (setL c) _ rfl rfl (HA.out.row (setL c))) rfl ⟨⟨setL c, fun _ => rfl, by rw [HOK.out]⟩, below_setRow HB.out (Nat.le_refl _) _⟩
  · have HL : Hid (c = lowN c) := by show _ = _; unfold lowN; rw [if_neg hup]
    have hu3 : ((65 : Int) ≤ (c : Int)) ∧ ¬ ((c : Int) ≤ 90) ∨ ¬ ((65 : Int) ≤ (c : Int)) := by omega
    clear hup
    rcases hu3 with ⟨hu1, hu2⟩ | hu1
    all_goals
      go_wp2_with fail
      skip
      generalize ((w.alloc (.cells #[.int .u8 0, .int .u8 0, .int .u8 0, .int .u8 0, .int .u8 0, .int .u8 0, .int .u8 0, .int .u8 0, .int .u8 0, .int .u8 0, .int .u8 0, .int .u8 0, .int .u8 0, .int .u8 0, .int .u8 0, .int .u8 0, .int .u8 0, .int .u8 0, .int .u8 0, .int .u8 0, .int .u8 0, .int .u8 0, .int .u8 0, .int .u8 0, .int .u8 0, .int .u8 0, .int .u8 0, .int .u8 0, .int .u8 0, .int .u8 0, .int .u8 0, .int .u8 0] 35)).alloc (.cells #[.int .u8 0, .int .u8 0, .int .u8 0, .int .u8 0, .int .u8 0, .int .u8 0, .int .u8 0, .int .u8 0, .int .u8 0, .int .u8 0, .int .u8 0, .int .u8 0, .int .u8 0, .int .u8 0, .int .u8 0, .int .u8 0, .int .u8 0, .int .u8 0, .int .u8 0, .int .u8 0, .int .u8 0, .int .u8 0, .int .u8 0, .int .u8 0, .int .u8 0, .int .u8 0, .int .u8 0, .int .u8 0, .int .u8 0, .int .u8 0, .int .u8 0, .int .u8 0] 35)).alloc (.cells #[.int .i64 2, .int .i64 3, .int .i64 4, .int .i64 1, .int .i64 5] 3) = w1 at HA0 HS0 HB0 HK0
      have q0 : w1.cell? ⟨w.heap.size + 2, 0, none⟩ = some (.int .i64 2) := by rw [cell_of_row _ _ _ _ _ _ HK0.out]; rfl
      have q1 : w1.cell? ⟨w.heap.size + 2, 1, none⟩ = some (.int .i64 3) := by rw [cell_of_row _ _ _ _ _ _ HK0.out]; rfl
      have q2 : w1.cell? ⟨w.heap.size + 2, 2, none⟩ = some (.int .i64 4) := by rw [cell_of_row _ _ _ _ _ _ HK0.out]; rfl
      have q3 : w1.cell? ⟨w.heap.size + 2, 3, none⟩ = some (.int .i64 1) := by rw [cell_of_row _ _ _ _ _ _ HK0.out]; rfl
      have q4 : w1.cell? ⟨w.heap.size + 2, 4, none⟩ = some (.int .i64 5) := by rw [cell_of_row _ _ _ _ _ _ HK0.out]; rfl
      have kb0 : ∀ h, ((⟨#[115, 100, 108, 99, 109]⟩ : ByteArray)[0]'h).toNat = 115 := fun _ => rfl
      have kb1 : ∀ h, ((⟨#[115, 100, 108, 99, 109]⟩ : ByteArray)[1]'h).toNat = 100 := fun _ => rfl
      have kb2 : ∀ h, ((⟨#[115, 100, 108, 99, 109]⟩ : ByteArray)[2]'h).toNat = 108 := fun _ => rfl
      have kb3 : ∀ h, ((⟨#[115, 100, 108, 99, 109]⟩ : ByteArray)[3]'h).toNat = 99 := fun _ => rfl
      have kb4 : ∀ h, ((⟨#[115, 100, 108, 99, 109]⟩ : ByteArray)[4]'h).toNat = 109 := fun _ => rfl
      clear HK0
      go_loop [7, 23] (fun tv iv => HeadR c tv iv) (fun _ iv => 5 - (intOf iv).toNat)
      case atStart => exact .inl ⟨rfl, rfl⟩
      case round =>
        unfold HeadR at hrel
        rcases hrel with ⟨rfl, rfl⟩ | ⟨rfl, rfl⟩ | ⟨rfl, rfl⟩ | ⟨rfl, rfl⟩ | ⟨rfl, rfl⟩ | ⟨rfl, rfl⟩
        · by_cases hl : c = 115
          · have tl : ((115 : Int) == (c : Int)) = true := beq_iff_eq.2 (by omega)
            have HE := Lib.hid (wantK_hit0 c hl)
            clear hl
            go_wp2_with fail
            exact ⟨.inr (.inl ⟨rfl, by rw [HE.out]; rfl⟩), by simp [intOf]⟩
          · have tl : ((115 : Int) == (c : Int)) = false := beq_eq_false_iff_ne.2 (by omega)
            have HE := Lib.hid (wantK_miss0 c hl)
            clear hl
            go_wp2_with fail
            exact ⟨.inr (.inl ⟨rfl, by rw [HE.out]⟩), by simp [intOf]⟩
        · by_cases hl : c = 100
          · have tl : ((100 : Int) == (c : Int)) = true := beq_iff_eq.2 (by omega)
            have HE := Lib.hid (wantK_hit1 c hl)
            clear hl
            go_wp2_with fail
            exact ⟨.inr (.inr (.inl ⟨rfl, by rw [HE.out]; rfl⟩)), by simp [intOf]⟩
          · have tl : ((100 : Int) == (c : Int)) = false := beq_eq_false_iff_ne.2 (by omega)
            have HE := Lib.hid (wantK_miss1 c hl)
            clear hl
            go_wp2_with fail
            exact ⟨.inr (.inr (.inl ⟨rfl, by rw [HE.out]⟩)), by simp [intOf]⟩
        · by_cases hl : c = 108
          · have tl : ((108 : Int) == (c : Int)) = true := beq_iff_eq.2 (by omega)
            have HE := Lib.hid (wantK_hit2 c hl)
            clear hl
            go_wp2_with fail
            exact ⟨.inr (.inr (.inr (.inl ⟨rfl, by rw [HE.out]; rfl⟩))), by simp [intOf]⟩
          · have tl : ((108 : Int) == (c : Int)) = false := beq_eq_false_iff_ne.2 (by omega)
            have HE := Lib.hid (wantK_miss2 c hl)
            clear hl
            go_wp2_with fail
            exact ⟨.inr (.inr (.inr (.inl ⟨rfl, by rw [HE.out]⟩))), by simp [intOf]⟩
        · by_cases hl : c = 99
          · have tl : ((99 : Int) == (c : Int)) = true := beq_iff_eq.2 (by omega)
            have HE := Lib.hid (wantK_hit3 c hl)
            clear hl
            go_wp2_with fail
            exact ⟨.inr (.inr (.inr (.inr (.inl ⟨rfl, by rw [HE.out]; rfl⟩)))), by simp [intOf]⟩
          · have tl : ((99 : Int) == (c : Int)) = false := beq_eq_false_iff_ne.2 (by omega)
            have HE := Lib.hid (wantK_miss3 c hl)
            clear hl
            go_wp2_with fail
            exact ⟨.inr (.inr (.inr (.inr (.inl ⟨rfl, by rw [HE.out]⟩)))), by simp [intOf]⟩
        · by_cases hl : c = 109
          · have tl : ((109 : Int) == (c : Int)) = true := beq_iff_eq.2 (by omega)
            have HE := Lib.hid (wantK_hit4 c hl)
            clear hl
            go_wp2_with fail
            exact ⟨.inr (.inr (.inr (.inr (.inr (⟨rfl, by rw [HE.out]; rfl⟩))))), by simp [intOf]⟩
          · have tl : ((109 : Int) == (c : Int)) = false := beq_eq_false_iff_ne.2 (by omega)
            have HE := Lib.hid (wantK_miss4 c hl)
            clear hl
            go_wp2_with fail
            exact ⟨.inr (.inr (.inr (.inr (.inr (⟨rfl, by rw [HE.out]⟩))))), by simp [intOf]⟩
        · skip
          obtain ⟨want, HW⟩ : ∃ n, Hid (n = wantK c 5) := ⟨_, rfl⟩
          rw [← HW.out]
          have hw5 : want < 6 := by have := HW.out; have := wantK_lt c 5; omega
          by_cases hz : want = 0
          · have tz : ((want : Int) == 0) = true := beq_iff_eq.2 (by omega)
            have tn : ((want : Int) != 0) = false := bne_eq_false_iff_eq.2 (by omega)
            by_cases h117 : c = 117
            · have t117 : ((c : Int) != 117) = false := bne_eq_false_iff_eq.2 (by omega)
              have HP : Hid (∀ k, setL c k = kindP (want : Int) k) := fun k => by
                unfold setL
                rw [← HL.out, ← HW.out]
                rw [if_pos rfl]
              have HOK : Hid (okL c = true) := by
                show _ = _
                unfold okL
                rw [← HL.out, ← HW.out]
                rw [hz]; simp [h117]
              have hz1 : want < 1 := by omega
              clear hz
              clear h117
              have HU : Hid (SetIn w1 (w.heap.size + 1) 35 (uptoP (setL c) 0)) := HS0.out.congr (upto_zero _)
              go_wp2_with fail
              go_loopw [10] (fun kv wr => ∃ k : Nat, k ≤ 256 ∧ kv = .int .i64 k ∧ Hid (SetIn wr w.heap.size 35 noP) ∧ Hid (SetIn wr (w.heap.size + 1) 35 (uptoP (setL c) k)) ∧ Hid (Below w.heap.size w wr)) (fun kv _ => 256 - (intOf kv).toNat)
              case atStart => exact ⟨0, by omega, rfl, HA0.out, HU.out, HB0.out⟩
              case round =>
                clear HA0 HS0 HU HB0 q0 q1 q2 q3 q4
                obtain ⟨k, hk, rfl, HA, HS, HB⟩ := hrel
                by_cases hkl : k < 256
                · have ec : IntKind.u8.wrap (k : Int) = (k : Int) := by rw [IntKind.wrap_u8]; omega
                  by_cases h65 : 65 ≤ k
                  · have h65i : (65 : Int) ≤ (k : Int) := by omega
                    by_cases h90 : k ≤ 90
                    · have h90i : (k : Int) ≤ 90 := by omega
                      have hkp : kindP (want : Int) k = true := by unfold kindP; rw [if_pos (by omega)]; exact decide_eq_true ⟨h65, h90⟩
                      have hp : setL c k = true := by rw [HP.out]; exact hkp
                      go_wp2_with (first
                        | (go_at_call 52; refine (cls_any _ _ (by omega) (by omega)).mono ?_; rintro e w' ⟨rfl, rfl⟩)
                        | (go_at_call 53; refine (put_any _ (w.heap.size + 1) k _ _ (by exact HS.out) hkl).mono ?_; rintro e w2 ⟨rfl, hs2, ho2⟩))
                      have HS2 := Lib.hid (hs2.congr (upto_in _ k hp))
                      have HA2 := Lib.hid (HA.out.keep (ho2.block _ HA.out.lt (by omega)))
                      have HB2 := Lib.hid (HB.out.trans (ho2.below (B := w.heap.size) (Nat.le_succ _) HB.out.size))
                      exact ⟨⟨k + 1, by omega, by go_num, HA2.out, HS2.out, HB2.out⟩, by simp [intOf]; try omega⟩
                    · have h90i : ¬ (k : Int) ≤ 90 := by omega
                      have hkp : kindP (want : Int) k = false := by unfold kindP; rw [if_pos (by omega)]; exact decide_eq_false (fun h => h90 h.2)
                      have hp : setL c k = false := by rw [HP.out]; exact hkp
                      have HS2 := Lib.hid (HS.out.congr (upto_out _ k hp))
                      go_wp2_with (go_at_call 52; refine (cls_any _ _ (by omega) (by omega)).mono ?_; rintro e w' ⟨rfl, rfl⟩)
                      exact ⟨⟨k + 1, by omega, by go_num, HA.out, HS2.out, HB.out⟩, by simp [intOf]; try omega⟩
                  · have h65i : ¬ (65 : Int) ≤ (k : Int) := by omega
                    have hkp : kindP (want : Int) k = false := by unfold kindP; rw [if_pos (by omega)]; exact decide_eq_false (fun h => h65 h.1)
                    have hp : setL c k = false := by rw [HP.out]; exact hkp
                    have HS2 := Lib.hid (HS.out.congr (upto_out _ k hp))
                    go_wp2_with (go_at_call 52; refine (cls_any _ _ (by omega) (by omega)).mono ?_; rintro e w' ⟨rfl, rfl⟩)
                    exact ⟨⟨k + 1, by omega, by go_num, HA.out, HS2.out, HB.out⟩, by simp [intOf]; try omega⟩
                · obtain rfl : k = 256 := by omega
                  have HS2 : Hid (SetIn wr (w.heap.size + 1) 35 (setL c)) := HS.out.congr (upto_all _)
                  go_wp2_with (first
                    | (refine wpList_load_row rfl 35 (.tmp 4) rfl ((w.heap.size + 1)) rfl 35 (setC (setL c)).toArray (0, 0) _ HS2.out Try.underlying35 rfl (by rw [rset_size, setC_size]) ?_)
                    | (refine wpList_store_row rfl 35 (.tmp 2) (.tmp 75) rfl (w.heap.size) (setC (setL c)).toArray rfl rfl 35 (setC noP).toArray HA.out (by rw [rset_size, setC_size]) (by simp only [setC_size]) (setC_one _) ?_))
                  exact bodyPost_ret (v := .tuple #[.agg (setC (setL c)).toArray, .bool true]) (rres_set_tmp Try.results51 _ _ w.heap.size 35 (setL c) _ rfl rfl (HA.out.row (setL c))) rfl ⟨⟨setL c, fun _ => rfl, by rw [HOK.out]⟩, below_setRow HB.out (Nat.le_refl _) _⟩
            · have t117 : ((c : Int) != 117) = true := bne_iff_ne.2 (by omega)
              have HOK : Hid (okL c = false) := by
                show _ = _
                unfold okL
                rw [← HL.out, ← HW.out, hz]
                simp [h117]
              clear hz
              go_wp2_with (first
                | (refine wpList_load_row rfl 35 (.tmp 4) rfl ((w.heap.size + 1)) rfl 35 (setC noP).toArray (0, 0) _ HS0.out Try.underlying35 rfl (by rw [rset_size, setC_size]) ?_)
                | (refine wpList_store_row rfl 35 (.tmp 2) (.tmp 41) rfl (w.heap.size) (setC noP).toArray rfl rfl 35 (setC noP).toArray HA0.out (by rw [rset_size, setC_size]) (by simp only [setC_size]) (setC_one _) ?_))
              exact bodyPost_ret (v := .tuple #[.agg (setC noP).toArray, .bool false]) (rres_set_tmp Try.results51 _ _ w.heap.size 35 noP _ rfl rfl (HA0.out.row noP)) rfl ⟨⟨noP, fun h => by rw [HOK.out] at h; exact absurd h Bool.false_ne_true, by rw [HOK.out]⟩, below_setRow HB0.out (Nat.le_refl _) _⟩
          · have tz : ((want : Int) == 0) = false := beq_eq_false_iff_ne.2 (by omega)
            have tn : ((want : Int) != 0) = true := bne_iff_ne.2 (by omega)
            have HP : Hid (∀ k, setL c k = kindP (want : Int) k) := fun k => by
              unfold setL
              rw [← HL.out, ← HW.out]
              rw [if_pos rfl]
            have HOK : Hid (okL c = true) := by
              show _ = _
              unfold okL
              rw [← HL.out, ← HW.out]
              simp [hz]
            have hz1 : 0 < want := by omega
            clear hz
            skip
            have HU : Hid (SetIn w1 (w.heap.size + 1) 35 (uptoP (setL c) 0)) := HS0.out.congr (upto_zero _)
            go_wp2_with fail
            go_loopw [10] (fun kv wr => ∃ k : Nat, k ≤ 256 ∧ kv = .int .i64 k ∧ Hid (SetIn wr w.heap.size 35 noP) ∧ Hid (SetIn wr (w.heap.size + 1) 35 (uptoP (setL c) k)) ∧ Hid (Below w.heap.size w wr)) (fun kv _ => 256 - (intOf kv).toNat)
            case atStart => exact ⟨0, by omega, rfl, HA0.out, HU.out, HB0.out⟩
            case round =>
              clear HA0 HS0 HU HB0 q0 q1 q2 q3 q4
              obtain ⟨k, hk, rfl, HA, HS, HB⟩ := hrel
              by_cases hkl : k < 256
              · have ec : IntKind.u8.wrap (k : Int) = (k : Int) := by rw [IntKind.wrap_u8]; omega
                by_cases hcl : clsN (k : Int) = (want : Int)
                · have tcl : (clsN (k : Int) == (want : Int)) = true := beq_iff_eq.2 hcl
                  have hkp : kindP (want : Int) k = true := by unfold kindP; rw [if_neg (by omega)]; exact decide_eq_true hcl
                  clear hcl
                  have hp : setL c k = true := by rw [HP.out]; exact hkp
                  go_wp2_with (first
                    | (go_at_call 52; refine (cls_any _ _ (by omega) (by omega)).mono ?_; rintro e w' ⟨rfl, rfl⟩)
                    | (go_at_call 53; refine (put_any _ (w.heap.size + 1) k _ _ (by exact HS.out) hkl).mono ?_; rintro e w2 ⟨rfl, hs2, ho2⟩))
                  have HS2 := Lib.hid (hs2.congr (upto_in _ k hp))
                  have HA2 := Lib.hid (HA.out.keep (ho2.block _ HA.out.lt (by omega)))
                  have HB2 := Lib.hid (HB.out.trans (ho2.below (B := w.heap.size) (Nat.le_succ _) HB.out.size))
                  exact ⟨⟨k + 1, by omega, by go_num, HA2.out, HS2.out, HB2.out⟩, by simp [intOf]; try omega⟩
                · have tcl : (clsN (k : Int) == (want : Int)) = false := beq_eq_false_iff_ne.2 hcl
                  have hkp : kindP (want : Int) k = false := by unfold kindP; rw [if_neg (by omega)]; exact decide_eq_false hcl
                  clear hcl
                  have hp : setL c k = false := by rw [HP.out]; exact hkp
                  have HS2 := Lib.hid (HS.out.congr (upto_out _ k hp))
                  go_wp2_with (go_at_call 52; refine (cls_any _ _ (by omega) (by omega)).mono ?_; rintro e w' ⟨rfl, rfl⟩)
                  exact ⟨⟨k + 1, by omega, by go_num, HA.out, HS2.out, HB.out⟩, by simp [intOf]; try omega⟩
              · obtain rfl : k = 256 := by omega
                have HS2 : Hid (SetIn wr (w.heap.size + 1) 35 (setL c)) := HS.out.congr (upto_all _)
                go_wp2_with (first
                  | (refine wpList_load_row rfl 35 (.tmp 4) rfl ((w.heap.size + 1)) rfl 35 (setC (setL c)).toArray (0, 0) _ HS2.out Try.underlying35 rfl (by rw [rset_size, setC_size]) ?_)
                  | (refine wpList_store_row rfl 35 (.tmp 2) (.tmp 75) rfl (w.heap.size) (setC (setL c)).toArray rfl rfl 35 (setC noP).toArray HA.out (by rw [rset_size, setC_size]) (by simp only [setC_size]) (setC_one _) ?_))
                exact bodyPost_ret (v := .tuple #[.agg (setC (setL c)).toArray, .bool true]) (rres_set_tmp Try.results51 _ _ w.heap.size 35 (setL c) _ rfl rfl (HA.out.row (setL c))) rfl ⟨⟨setL c, fun _ => rfl, by rw [HOK.out]⟩, below_setRow HB.out (Nat.le_refl _) _⟩

def inB (s : ByteArray) (b : Nat) : Bool := s.data.toList.any fun c => c.toNat == b
set_option maxRecDepth 100000 in
set_option maxHeartbeats 1000000 in
theorem in_any (s : ByteArray) (b : Nat) (w : World) (hs : s.size ≤ maxLen) :
    Calls Try.prog 63 #[.string s, .int .u8 b] w fun e w' => e = .returned (.bool (inB s b)) ∧ w = w' := by
  unfold maxLen at hs
  go_enter Try.func63, Try.ntmps63
  go_wp2_with fail
  go_loop [5] (fun iv => ∃ k : Nat, k ≤ s.size ∧ iv = .int .i64 k ∧ Hid (∀ j, j < k → bt s j ≠ b)) (fun iv => s.size - (intOf iv).toNat)
  case atStart => exact ⟨0, by omega, rfl, fun j h => absurd h (Nat.not_lt_zero j)⟩
  case round =>
    obtain ⟨k, hk, rfl, HN⟩ := hrel
    by_cases hlt : k < s.size
    · by_cases hb : s[k].toNat = b
      · have tb : ((s[k].toNat : Int) == (b : Int)) = true := beq_iff_eq.2 (by omega)
        have HR : Hid ((inB s b) = true) := by
          unfold inB
          refine List.any_eq_true.2 ⟨s[k], ?_, by simpa using hb⟩
          rw [show s[k] = s.data.toList[k]'(by simpa using hlt) from rfl]
          exact List.getElem_mem _
        clear hb
        go_wp2_with fail
        go_ret
        exact ⟨ret_bool HR.out.symm, rfl⟩
      · have tb : ((s[k].toNat : Int) == (b : Int)) = false := beq_eq_false_iff_ne.2 (by omega)
        have HN2 : Hid (∀ j, j < k + 1 → bt s j ≠ b) := fun j hj => by
          by_cases hjk : j = k
          · subst hjk; rw [bt_get s j hlt]; exact hb
          · exact HN.out j (by omega)
        clear hb
        go_wp2_with fail
        exact ⟨⟨k + 1, by omega, by go_num, HN2.out⟩, by simp [intOf]; try omega⟩
    · have HR : Hid ((inB s b) = false) := by
        unfold inB
        refine List.any_eq_false.2 fun x hx => ?_
        obtain ⟨j, hj, rfl⟩ := List.mem_iff_getElem.1 hx
        have h1 : j < s.size := by simpa using hj
        have := HN.out j (by omega)
        rw [bt_get s j h1] at this
        simp only [beq_iff_eq]
        exact this
      go_wp2_with fail
      go_ret
      exact ⟨ret_bool HR.out.symm, rfl⟩

end Go.Proofs.Ytanpiidhcijfaaa
