
/-
  The statement PatternParses: the walk.
-/
import Derived.Test.YtanpiidhcijfaaaLaw5A
import Derived.Test.YtanpiidhcijfaaaRefE
import Derived.Test.YtanpiidhcijfaaaSame
namespace Go.Proofs.Ytanpiidhcijfaaa
open Go.RowKit

theorem parse_len_ (s : ByteArray) : ∀ (f i : Nat) (l : List At), l.length ≤ 32 → (parseL s f i l).1.length ≤ 32
  | 0, _, _, h => h
  | f + 1, i, l, h => by
    unfold parseL
    split
    · split
      · exact Nat.zero_le _
      · split
        · exact Nat.zero_le _
        · exact parse_len_ s f _ _ (by rw [List.length_append]; show l.length + 1 ≤ 32; omega)
    · exact h
theorem parse_len (s : ByteArray) : (parseF s).1.length ≤ 32 := parse_len_ s _ _ _ (by decide)

set_option maxRecDepth 100000 in
set_option maxHeartbeats 4000000 in
theorem walk_PatternParses (s : ByteArray) (A : Option Addr) (n c : Nat) (l : List Int) (w : World) (_hs : s.size ≤ maxLen) (h0 : n = l.length ∧ l.length ≤ maxLen ∧ RdE intC 1 w (.slice A n c) l ∧ ∀ x ∈ l, IntIn x) :
    Calls Try.prog 3 #[.string s, .slice A n c] w fun e w' => e = .returned (.bool true) ∧ Below w.heap.size w w' := by
  obtain ⟨hn, hlm, hr, hin⟩ := h0
  subst hn
  unfold maxLen at hlm
  have HK := Lib.hid known_any
  go_enter Try.func3, Try.ntmps3
  by_cases h200 : 200 < s.size
  · have h200i : (200 : Int) < (s.size : Int) := by omega
    go_wp2_with (go_at_call 12; refine (HK.out _).mono ?_; rintro e w1 ⟨rfl, hb1⟩)
    go_ret
    exact ⟨rfl, hb1⟩
  have h200i : ¬ (200 : Int) < (s.size : Int) := by omega
  have HW := Lib.hid (writ_any A c l w hr hin hlm)
  clear hr hin
  go_wp2_with (go_at_call 13; refine HW.out.mono ?_; rintro e w1 ⟨u, hu, rfl, hb1⟩)
  have HB0 := Lib.hid hb1
  clear hb1 HW
  have i0 : ∀ w, (Instr.index 25 (.agg #[.string s, .string u]) (.int .i64 0)).run Try.prog w = .ok (.string s) w := fun _ => by kernel_rfl
  have i1 : ∀ w, (Instr.index 25 (.agg #[.string s, .string u]) (.int .i64 1)).run Try.prog w = .ok (.string u) w := fun _ => by kernel_rfl
  go_loopg [21] 2 (fun n kv wr => (kv = .int .i64 0 ∧ Hid (Below w.heap.size w wr) ∧ 2 ≤ n) ∨ (kv = .int .i64 1 ∧ Hid (Below w.heap.size w wr) ∧ 1 ≤ n) ∨ (kv = .int .i64 2 ∧ Hid (Below w.heap.size w wr)))
  case atStart => exact .inl ⟨rfl, HB0.out, by omega⟩
  case round =>
    clear HB0
    rcases hrel with ⟨rfl, HB, hgk⟩ | ⟨rfl, HB, hgk⟩ | ⟨rfl, HB⟩
    · go_upto_region 6 with fail
      have HPR := Lib.hid (fun w => parse_any w s (by omega))
      have HRR := Lib.hid (fun w => rparse_any w s (by omega))
      have hlen := parse_len s
      generalize parseF s = r at HPR HRR hlen
      obtain ⟨pl, j, x⟩ := r
      simp only at hlen
      go_upto_region 7 with (go_at_call 14; refine (HPR.out _).mono ?_; rintro e w1 ⟨v1, rfl, ho1, hb1⟩)
      go_upto_region 8 with (go_at_call 15; refine (HRR.out _).mono ?_; rintro e w2 ⟨v2, rfl, ho2, hb2⟩)
      have HS := Lib.hid (same_any pl v1 v2 w2 ((OwnE.rd atC_len ho1).below hb2 (Nat.le_refl _)) (OwnE.rd atC_len ho2) (by omega))
      have HB2 := Lib.hid (HB.out.trans ((hb1.trans (hb2.mono hb1.size)).mono HB.out.size))
      clear ho1 hb1 ho2 hb2 HPR HRR HB
      go_wp2_with (go_at_call 16; refine HS.out.mono ?_; rintro e w3 ⟨rfl, hb3⟩)
      go_roundg 1
      case measure => omega
      case rel => exact .inr (.inl ⟨rfl, HB2.out.trans (hb3.mono HB2.out.size), by omega⟩)
    · go_upto_region 6 with fail
      have HPR := Lib.hid (fun w => parse_any w u (by omega))
      have HRR := Lib.hid (fun w => rparse_any w u (by omega))
      have hlen := parse_len u
      generalize parseF u = r at HPR HRR hlen
      obtain ⟨pl, j, x⟩ := r
      simp only at hlen
      go_upto_region 7 with (go_at_call 14; refine (HPR.out _).mono ?_; rintro e w1 ⟨v1, rfl, ho1, hb1⟩)
      go_upto_region 8 with (go_at_call 15; refine (HRR.out _).mono ?_; rintro e w2 ⟨v2, rfl, ho2, hb2⟩)
      have HS := Lib.hid (same_any pl v1 v2 w2 ((OwnE.rd atC_len ho1).below hb2 (Nat.le_refl _)) (OwnE.rd atC_len ho2) (by omega))
      have HB2 := Lib.hid (HB.out.trans ((hb1.trans (hb2.mono hb1.size)).mono HB.out.size))
      clear ho1 hb1 ho2 hb2 HPR HRR HB
      go_wp2_with (go_at_call 16; refine HS.out.mono ?_; rintro e w3 ⟨rfl, hb3⟩)
      go_roundg 0
      case measure => omega
      case rel => exact .inr (.inr ⟨rfl, HB2.out.trans (hb3.mono HB2.out.size)⟩)
    · go_wp2_with (go_at_call 12; refine (HK.out _).mono ?_; rintro e w2 ⟨rfl, hb2⟩)
      go_ret
      exact ⟨rfl, HB.out.trans (hb2.mono HB.out.size)⟩

end Go.Proofs.Ytanpiidhcijfaaa
