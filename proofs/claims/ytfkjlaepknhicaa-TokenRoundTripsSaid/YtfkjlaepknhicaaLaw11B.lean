
/-
  Chapter 11: helpers of the statements: few, made.
-/
import Derived.Test.YtfkjlaepknhicaaLaw11A
import Derived.Test.YtfkjlaepknhicaaFragA
import Derived.Test.YtfkjlaepknhicaaOpenTokS
namespace Go.Proofs.Ytfkjlaepknhicaa
open Go.RowKit

/-- What the opening of an argument that is a list of tokens or items tells, with the form's reach. -/
abbrev ArgTS (w : World) (A : Option Addr) (n c : Nat) (l : List Tk) : Prop := n = l.length ∧ l.length ≤ maxLen ∧ RdT w (.slice A n c) l ∧ ∀ x ∈ l, TkInS x

theorem toks_len1 (s : ByteArray) : (tokensL [⟨1, s, 0⟩]).length ≤ s.size + 1 := by
  have := tokensL_length [⟨1, s, 0⟩]
  rw [show bytesOf [⟨1, s, 0⟩] = s.size + 0 from rfl] at this
  simp only [List.length_cons, List.length_nil] at this
  omega

/-- What a made fragment keeps to. -/
theorem made_ok (l : List Int) : (fragL l 0 8).f.length ≤ 8 ∧ bytesOf (fragL l 0 8).f ≤ 144 ∧ Kinds (fragL l 0 8).f ∧ Normal (fragL l 0 8).f := by
  have hb := nextN_bd l 0 (8 + 1) (by decide)
  have h := fragGo_ok l (nextN l 0 (8 + 1)).toNat ⟨[], [], 0, 0 + 1⟩ 0 (fok_start 1 (Nat.le_refl _))
  have h' : FOK (fragL l 0 8) (0 + (nextN l 0 (8 + 1)).toNat) := h
  have h1 := h'.len
  have h2 := h'.bytes
  exact ⟨by omega, by omega, h'.kinds, h'.normal⟩

theorem made_any (l : List Int) (v : Value) (w : World) (h : RdE intC 1 w v l) (hin : ∀ x ∈ l, IntIn x) :
    Calls Try.prog 15 #[v] w (RetOwn 27 tkC 3 w (fragL l 0 8).f) := by
  obtain ⟨A, c, rfl, _, _⟩ := h.shape
  have hN : Nums (w.alloc (.cells #[.slice A l.length c, .int .i64 0] 55)) w.heap.size l 0 :=
    ⟨_, w, Array.getElem?_push_size, h, Nat.le_refl _, fun k hk => Below.heap_alloc _ _ _ hk, hin⟩
  have HF := Lib.hid (fragment_any' l w.heap.size 8 _ hN (by decide))
  clear hN h
  go_enter Try.func15, Try.ntmps15
  go_wp2_with fail
  refine (HF.out).mono ?_
  rintro e w' ⟨v', rfl, hown, hb⟩
  have hb' := ((Below.refl w.heap.size w).alloc (Nat.le_refl _) (.cells #[.slice A l.length c, .int .i64 0] 55)).trans (hb.below (Nat.le_refl _) (by simp))
  have HO := Lib.hid (own_base hown (B' := w.heap.size) (by simp))
  have HB := Lib.hid hb'
  clear hown hb hb'
  go_wp2_with fail
  go_ret
  exact ⟨v', rfl, HO.out, HB.out⟩

theorem sum_few (f : List Tk) (k : Nat) (hk : k ≤ f.length) (hin : ∀ x ∈ f, TkInS x) : bytesOf (f.take k) ≤ k * 140737488351232 := by
  induction k with
  | zero => simp [bytesOf]
  | succ k ih =>
    have hlt : k < f.length := by omega
    have h1 := ih (by omega)
    have h2 := (hin f[k] (List.getElem_mem hlt)).2
    rw [List.take_succ_eq_append_getElem hlt]
    have : bytesOf (f.take k ++ [f[k]]) = bytesOf (f.take k) + f[k].t.size := by
      unfold bytesOf
      rw [List.map_append, List.sum_append]
      simp only [List.map_cons, List.map_nil, List.sum_cons, List.sum_nil, Nat.add_zero]
    omega
theorem bytesOf_step (f : List Tk) (k : Nat) (h : k < f.length) : bytesOf (f.take (k + 1)) = bytesOf (f.take k) + f[k].t.size := by
  rw [List.take_succ_eq_append_getElem h]
  unfold bytesOf
  rw [List.map_append, List.sum_append]
  simp only [List.map_cons, List.map_nil, List.sum_cons, List.sum_nil, Nat.add_zero]

theorem few_sum (f : List Tk) (v : Value) (w : World) (h : RdT w v f) (hin : ∀ x ∈ f, TkInS x) (hl : f.length ≤ 40) (b : Bool) (hb : b = decide (bytesOf f ≤ 600)) :
    Calls Try.prog 10 #[v] w fun e w' => e = .returned (.bool b) ∧ w = w' := by
  obtain ⟨A, c, rfl, _, _⟩ := h.shape
  have HR := Lib.hid h
  have HI := Lib.hid hin
  have HB := Lib.hid hb
  clear h hin hb
  go_enter Try.func10, Try.ntmps10
  go_wp2_with fail
  go_loop [3, 7] (fun nv i => ∃ k : Nat, k ≤ f.length ∧ i = .int .i64 k ∧ nv = .int .i64 (bytesOf (f.take k) : Nat)) (fun _ i => f.length - (intOf i).toNat)
  case atStart => exact ⟨0, by omega, rfl, rfl⟩
  case round =>
    obtain ⟨k, hk, rfl, rfl⟩ := hrel
    have hs := sum_few f k hk HI.out
    by_cases hlt : k < f.length
    · obtain ⟨b', o, rfl, hbl, q1, q2, q3⟩ := RdT.at_ HR.out k hlt
      have hx := (HI.out f[k] (List.getElem_mem hlt)).2
      have HS := Lib.hid (bytesOf_step f k hlt)
      generalize f[k] = x at q1 q2 q3 hx HS
      generalize bytesOf (f.take k) = n at hs HS
      clear q1 q3
      go_wp2_with fail
      go_round
      case rel => exact ⟨k + 1, by omega, by go_num, by rw [HS.out]; go_num⟩
      case measure => simp [intOf]; omega
    · obtain rfl : k = f.length := by omega
      rw [List.take_length] at hs ⊢
      have h40 : decide ((f.length : Int) ≤ 40) = true := by simp; omega
      by_cases hq : bytesOf f ≤ 600
      · have ht : b = true := by rw [HB.out]; simp [hq]
        subst ht
        go_wp2_with fail
        go_ret
        exact ⟨ret_bool (by simp; omega), rfl⟩
      · have ht : b = false := by rw [HB.out]; simp [hq]
        subst ht
        go_wp2_with fail
        go_ret
        exact ⟨ret_bool (by simp; omega), rfl⟩

theorem few_long (f : List Tk) (v : Value) (w : World) (h : RdT w v f) (hm : f.length ≤ 9223372036854775807) (hl : 40 < f.length) :
    Calls Try.prog 10 #[v] w fun e w' => e = .returned (.bool false) ∧ w = w' := by
  obtain ⟨A, c, rfl, _, _⟩ := h.shape
  have HR := Lib.hid h
  clear h
  go_enter Try.func10, Try.ntmps10
  go_wp2_with fail
  go_loop [3, 7] (fun nv i => ∃ (k : Nat) (z : Int), k ≤ f.length ∧ i = .int .i64 k ∧ nv = .int .i64 z) (fun _ i => f.length - (intOf i).toNat)
  case atStart => exact ⟨0, 0, by omega, rfl, rfl⟩
  case round =>
    obtain ⟨k, z, hk, rfl, rfl⟩ := hrel
    by_cases hlt : k < f.length
    · obtain ⟨b', o, rfl, hbl, q1, q2, q3⟩ := RdT.at_ HR.out k hlt
      generalize f[k] = x at q1 q2 q3
      clear q1 q3
      go_wp2_with fail
      go_round
      case rel => exact ⟨k + 1, _, by omega, by go_num, rfl⟩
      case measure => simp [intOf]; omega
    · obtain rfl : k = f.length := by omega
      have h40 : decide ((f.length : Int) ≤ 40) = false := by simp; omega
      go_wp2_with fail
      go_ret
      exact ⟨ret_bool (by simp; try omega), rfl⟩

theorem few_yes (f : List Tk) (v : Value) (w : World) (h : RdT w v f) (hin : ∀ x ∈ f, TkInS x) (hl : f.length ≤ 40) (hb : bytesOf f ≤ 600) :
    Calls Try.prog 10 #[v] w fun e w' => e = .returned (.bool true) ∧ w = w' := few_sum f v w h hin hl true (by simp [hb])
theorem few_no (f : List Tk) (v : Value) (w : World) (h : RdT w v f) (hm : f.length ≤ 9223372036854775807) (hin : ∀ x ∈ f, TkInS x) (hb : ¬ (f.length ≤ 40 ∧ bytesOf f ≤ 600)) :
    Calls Try.prog 10 #[v] w fun e w' => e = .returned (.bool false) ∧ w = w' := by
  by_cases hl : f.length ≤ 40
  · exact few_sum f v w h hin hl false (by simp; omega)
  · exact few_long f v w h hm (by omega)

end Go.Proofs.Ytfkjlaepknhicaa
