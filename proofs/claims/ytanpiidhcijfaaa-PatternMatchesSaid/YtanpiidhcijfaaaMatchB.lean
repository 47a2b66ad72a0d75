
/-
  Patterns: the program's matching.
-/
import Derived.Test.YtanpiidhcijfaaaMatchA
namespace Go.Proofs.Ytanpiidhcijfaaa
open Go.RowKit

/-- What a call gives that returns places. -/
def RetReach (w : World) (n : Nat) (f : Nat → Bool) (e : Ending) (w' : World) : Prop := ∃ v, e = .returned v ∧ PlIn w' v n f ∧ Below w.heap.size w w'

set_option maxRecDepth 100000 in
set_option maxHeartbeats 4000000 in
theorem reach_any (l : List At) (s : ByteArray) (lv pv : Value) (f : Nat → Bool) (w : World) (hp : RdE atC 34 w lv l) (hpl : PlIn w pv (s.size + 1) f) (hs : s.size ≤ 2147483648) (hl : l.length ≤ 140737488355328) :
    Calls Try.prog 36 #[lv, .string s, pv] w (RetReach w (s.size + 1) (reachF s l f)) := by
  obtain ⟨A, c, rfl, hlc, _⟩ := hp.shape
  have HP := Lib.hid hp
  clear hp
  have hu := Try.underlying37
  have hi : (Try.prog.info? 37).map (·.size) = some 34 := atom_size
  obtain ⟨R, HR⟩ : ∃ R, Hid (R = reachF s l f) := ⟨_, rfl⟩
  rw [← HR.out]
  have HPL := Lib.hid hpl
  have HR0 : Hid (reachF s (l.drop 0) f = R) := by show _ = _; rw [HR.out]; rfl
  clear hpl HR
  go_enter Try.func36, Try.ntmps36
  go_wp2_with fail
  go_loopg [2, 11] l.length (fun n pv iv wr => ∃ (k : Nat) (g : Nat → Bool), k ≤ l.length ∧ iv = .int .i64 k ∧ Hid (PlIn wr pv (s.size + 1) g) ∧ Hid (reachF s (l.drop k) g = R) ∧ Hid (Below w.heap.size w wr) ∧ l.length - k ≤ n)
  case atStart => exact ⟨0, f, by omega, rfl, HPL.out, HR0.out, Below.refl _ _, by omega⟩
  case round =>
    clear HPL HR0
    obtain ⟨k, g, hk, rfl, HG, HR, HB, hgk⟩ := hrel
    by_cases hkl : k < l.length
    · have hki : (k : Int) < (l.length : Int) := by omega
      obtain ⟨b, o, rfl, hbl, hcell⟩ := HP.out.cells (by omega)
      have hx : l[k]? = some l[k] := List.getElem?_eq_getElem hkl
      have hrg : wr.rangeAt b (o + k * 34) (atC l[k]) := fun j v hj => by
        rw [Nat.add_assoc]
        exact (HB.out.cell (p := ⟨b, o + (k * 34 + j), none⟩) hbl).trans (hcell k _ j v hx hj)
      have HR2 : Hid (reachF s (l.drop (k + 1)) (advF l[k] s g) = R) := by
        have h := HR.out
        rw [List.drop_eq_getElem_cons hkl] at h
        exact h
      clear HR hx hcell
      generalize l[k] = x at hrg HR2
      have hz := HB.out.size
      have HA1 := Lib.hid ((at_zero wr).row x)
      have HB1 : Hid (Below w.heap.size w ((wr.alloc (.cells #[.int .u8 0, .int .u8 0, .int .u8 0, .int .u8 0, .int .u8 0, .int .u8 0, .int .u8 0, .int .u8 0, .int .u8 0, .int .u8 0, .int .u8 0, .int .u8 0, .int .u8 0, .int .u8 0, .int .u8 0, .int .u8 0, .int .u8 0, .int .u8 0, .int .u8 0, .int .u8 0, .int .u8 0, .int .u8 0, .int .u8 0, .int .u8 0, .int .u8 0, .int .u8 0, .int .u8 0, .int .u8 0, .int .u8 0, .int .u8 0, .int .u8 0, .int .u8 0, .int .i64 0, .bool false] 37)).setRow wr.heap.size (atC x).toArray)) := below_setRow (HB.out.alloc hz _) hz _
      have HG1 : Hid (PlIn ((wr.alloc (.cells #[.int .u8 0, .int .u8 0, .int .u8 0, .int .u8 0, .int .u8 0, .int .u8 0, .int .u8 0, .int .u8 0, .int .u8 0, .int .u8 0, .int .u8 0, .int .u8 0, .int .u8 0, .int .u8 0, .int .u8 0, .int .u8 0, .int .u8 0, .int .u8 0, .int .u8 0, .int .u8 0, .int .u8 0, .int .u8 0, .int .u8 0, .int .u8 0, .int .u8 0, .int .u8 0, .int .u8 0, .int .u8 0, .int .u8 0, .int .u8 0, .int .u8 0, .int .u8 0, .int .i64 0, .bool false] 37)).setRow wr.heap.size (atC x).toArray) u2 (s.size + 1) g) := HG.out.below (below_setRow ((Below.refl _ wr).alloc (Nat.le_refl _) _) (Nat.le_refl _) _) (Nat.le_refl _)
      have HX := Lib.hid (fun w h => advance_any x s u2 g w h hs)
      go_upto_region 4 with (first
        | (refine wpList_load_mid rfl 37 (.tmp 13) rfl b (o + k * 34) rfl (atC x) _ hrg hu rfl (by rw [hi, atC_len]) ?_)
        | (refine wpList_store_row rfl 37 (.tmp 8) (.tmp 14) rfl (wr.heap.size) (atC x).toArray rfl rfl 37 (atC ⟨noP, 0, false⟩).toArray (at_zero wr) (by rw [atom_size, atC_size]) (by simp only [atC_size]) (atC_oneA _) ?_))
      clear HG HB hrg
      generalize hg3 : wr.heap.size = g3 at HA1 HB1 HG1 hz ⊢
      generalize (wr.alloc (.cells #[.int .u8 0, .int .u8 0, .int .u8 0, .int .u8 0, .int .u8 0, .int .u8 0, .int .u8 0, .int .u8 0, .int .u8 0, .int .u8 0, .int .u8 0, .int .u8 0, .int .u8 0, .int .u8 0, .int .u8 0, .int .u8 0, .int .u8 0, .int .u8 0, .int .u8 0, .int .u8 0, .int .u8 0, .int .u8 0, .int .u8 0, .int .u8 0, .int .u8 0, .int .u8 0, .int .u8 0, .int .u8 0, .int .u8 0, .int .u8 0, .int .u8 0, .int .u8 0, .int .i64 0, .bool false] 37)).setRow g3 (atC x).toArray = w2 at HA1 HB1 HG1 ⊢
      clear hg3
      have hz2 := HB1.out.size
      go_wp2_with (first
        | (refine wpList_load_row rfl 37 (.tmp 8) rfl (g3) rfl 37 (atC x).toArray (0, 0) _ HA1.out Try.underlying37 rfl (by rw [atom_size, atC_size]) ?_)
        | (go_at_call 55; refine (HX.out _ (by exact HG1.out)).mono ?_; rintro e w3 ⟨g4, rfl, hg4, hr4, hb4⟩))
      go_roundg (l.length - (k + 1))
      case measure => omega
      case rel => exact ⟨k + 1, advF x s g, by omega, by go_num, row_pl hr4, HR2.out, HB1.out.trans (hb4.mono hz2), Nat.le_refl _⟩
    · have hki : ¬ (k : Int) < (l.length : Int) := by omega
      have HE : Hid (g = R) := by
        have h := HR.out
        rw [List.drop_eq_nil_of_le (by omega)] at h
        exact h
      go_wp2_with fail
      go_ret
      rw [HE.out] at HG
      exact ⟨_, rfl, HG.out, HB.out⟩

set_option maxRecDepth 100000 in
set_option maxHeartbeats 4000000 in
theorem start_any (s : ByteArray) (w : World) (hs : s.size ≤ 2147483648) :
    Calls Try.prog 37 #[.string s] w (RetPl w (s.size + 1) startF) := by
  have hmk := fun w => run_make_row' (P := Try.prog) 60 4 (.bool false) 1 Try.underlying60 bool_info rfl .i64 .i64 (s.size + 1) (by omega) (by omega) w
  rw [show ((s.size + 1 : Nat) : Int) = (s.size : Int) + 1 by omega] at hmk
  go_enter Try.func37, Try.ntmps37
  have HR0 : Hid ((w.alloc (.cells (madeCells #[.bool false] (s.size + 1)) 4)).rowIs w.heap.size 4 (s.size + 1) (fun _ => .bool false)) := World.rowIs_made w (.bool false) (s.size + 1) 4
  have HB0 := Lib.hid ((Below.refl w.heap.size w).alloc (Nat.le_refl _) (.cells (madeCells #[.bool false] (s.size + 1)) 4))
  go_upto_region 2 with fail
  generalize w.alloc (.cells (madeCells #[.bool false] (s.size + 1)) 4) = w1 at HR0 HB0 ⊢
  have r0 := HR0.out.cell (i := 0) (by omega)
  have rf := HR0.out.frozen 0
  have HR1 : Hid ((w1.setCell ⟨w.heap.size, 0, none⟩ (.bool true)).rowIs w.heap.size 4 (s.size + 1) (fun j => .bool (startF j))) := (HR0.out.set 0 (.bool true)).congr fun j _ => by
    unfold startF
    by_cases h : j = 0
    · rw [if_pos h, h]; rfl
    · rw [if_neg h, show (j == 0) = false from beq_eq_false_iff_ne.2 h]
  have hse : (0 : Int) < (s.size : Int) + 1 := by omega
  go_wp2_with fail
  go_ret
  exact ⟨w.heap.size, rfl, Nat.le_refl _, HR1.out, HB0.out.setCell (p := ⟨w.heap.size, 0, none⟩) (Nat.le_refl _) _⟩

set_option maxRecDepth 100000 in
set_option maxHeartbeats 4000000 in
theorem match_any (p : List At) (s : ByteArray) (pv : Value) (w : World) (hp : RdE atC 34 w pv p) (hs : s.size ≤ 2147483648) (hl : p.length ≤ 140737488355328) :
    Calls Try.prog 19 #[pv, .string s] w fun e w' => e = .returned (.bool (matchF p s)) ∧ Below w.heap.size w w' := by
  go_enter Try.func19, Try.ntmps19
  have hse : (s.size : Int) < (s.size : Int) + 1 := by omega
  obtain ⟨V, HV⟩ : ∃ V, Hid (V = matchF p s) := ⟨_, rfl⟩
  rw [← HV.out]
  go_wp2_with (first
    | (go_at_call 37; refine (start_any s _ hs).mono ?_; rintro e w1 ⟨g1, rfl, hg1, hr1, hb1⟩)
    | (go_at_call 36; refine (reach_any p s pv _ _ _ (by exact hp.below hb1 (Nat.le_refl _)) (by exact row_pl hr1) hs hl).mono ?_; rintro e w2 ⟨v2, rfl, hv2, hb2⟩; obtain ⟨b2, o2, c2, rfl, hbl2, hc2⟩ := hv2; have qe := hc2 s.size (by omega)))
  go_ret
  exact ⟨ret_bool (by rw [HV.out]; rfl), hb1.trans (hb2.mono hb1.size)⟩

end Go.Proofs.Ytanpiidhcijfaaa
