
/-
  Patterns: the places behind an atom.
-/
import Derived.Test.YtpboaadjbkaidaaDoorMathMatch
import Derived.Test.YtpboaadjbkaidaaDoorScanH
import Derived.Deep.OwnRows
import Derived.Deep.LoopGhost
import Derived.Deep.DeepCutAuto
import Derived.Deep.CutBlock
import Derived.Deep.RegionHeld3
import Derived.Deep.MidRow
import Derived.StillTailTactics
namespace Go.Proofs.YtpboaadjbkaidaaDoor
set_option maxRecDepth 100000
open Go.RowKit

/-- A whole struct is loaded in a region that draws its order. -/
theorem still_load_mid {P : Program} {o : Oper} {a : Act} {w : World} {K : Act → Prop} (ty : TypeId) (x : Operand) (ho : o.op = .load ty x) (b of : Nat) (hx : a.eval x = .pointer (some ⟨b, of, none⟩)) (cs : List Value) (d : TypeDesc)
    (hc : w.rangeAt b of cs) (hu : P.underlying ty = some d) (hd : d.isRow = true) (hi : (P.info? ty).map (·.size) = some cs.length) (h : K (a.put o.dst (.agg cs.toArray))) : o.still P a w K := by
  unfold Oper.still execOp
  simp only [ho, hx, Instr.loadAt, Instr.sureAddr, Sem.run_bind, Sem.run_pure, Result.andThen_ok, run_loadVar_mid w b of ty cs d hc hu hd hi]
  rw [Oper.stillUpon_value]
  exact h
theorem AtIn.range {w : World} {g : Nat} {x : At} (h : AtIn w g x) : w.rangeAt g 0 (atC x) := fun j v hj => by
  rw [Nat.zero_add, cell_of_row _ _ _ _ _ _ h]
  simpa using hj
theorem bool_info : (Tryd.prog.info? 4).map (fun i => (i.zero, i.size, i.bytes)) = some (some (.bool false), 1, 1) := by kernel_rfl
/-- A slice of n Bools. -/
def PlIn (w : World) (v : Value) (n : Nat) (f : Nat → Bool) : Prop := ∃ b o c, v = .slice (some ⟨b, o, none⟩) n c ∧ b < w.heap.size ∧ ∀ j, j < n → w.cell? ⟨b, o + j, none⟩ = some (.bool (f j))
theorem PlIn.below {w w' : World} {v : Value} {n : Nat} {f : Nat → Bool} (h : PlIn w v n f) {B : Nat} (hb : Below B w w') (hB : w.heap.size ≤ B) : PlIn w' v n f := by
  obtain ⟨b, o, c, hv, hl, hc⟩ := h
  exact ⟨b, o, c, hv, Nat.lt_of_lt_of_le hl hb.size, fun j hj => (hb.cell (p := ⟨b, o + j, none⟩) (Nat.lt_of_lt_of_le hl hB)).trans (hc j hj)⟩
theorem PlIn.congr {w : World} {v : Value} {n : Nat} {f g : Nat → Bool} (h : PlIn w v n f) (e : ∀ j, j < n → f j = g j) : PlIn w v n g := by
  obtain ⟨b, o, c, hv, hl, hc⟩ := h
  exact ⟨b, o, c, hv, hl, fun j hj => by rw [hc j hj, e j hj]⟩
/-- What a call gives that makes a row of n Bools. -/
def RetPl (w : World) (n : Nat) (f : Nat → Bool) (e : Ending) (w' : World) : Prop :=
  ∃ g, e = .returned (.slice (some ⟨g, 0, none⟩) n n) ∧ w.heap.size ≤ g ∧ w'.rowIs g 4 n (fun j => .bool (f j)) ∧ Below w.heap.size w w'
theorem row_pl {w : World} {g n c : Nat} {f : Nat → Bool} (h : w.rowIs g 4 n (fun j => .bool (f j))) : PlIn w (.slice (some ⟨g, 0, none⟩) n c) n f :=
  ⟨g, 0, c, rfl, h.lt, fun j hj => by rw [Nat.zero_add]; exact h.cell hj⟩

set_option maxRecDepth 100000 in
set_option maxHeartbeats 4000000 in
theorem advance_any (x : At) (s : ByteArray) (pv : Value) (f : Nat → Bool) (w : World) (hpl : PlIn w pv (s.size + 1) f) (hs : s.size ≤ 2147483648) :
    Calls Tryd.prog 104 #[.agg (atC x).toArray, .string s, pv] w (RetPl w (s.size + 1) (advF x s f)) := by
  obtain ⟨b, o, c, rfl, hbl, hp⟩ := hpl
  have HR0 : Hid (((w.alloc (.cells (atC x).toArray 26)).alloc (.cells (madeCells #[.bool false] (s.size + 1)) 4)).rowIs (w.heap.size + 1) 4 (s.size + 1) (fun j => .bool (if j < 0 then advF x s f j else false))) := by
    have h := World.rowIs_made (w.alloc (.cells (atC x).toArray 26)) (.bool false) (s.size + 1) 4
    rw [show (w.alloc (.cells (atC x).toArray 26)).heap.size = w.heap.size + 1 by simp] at h
    exact h.congr fun j _ => by rw [if_neg (by omega)]
  have HA0 : Hid (AtIn ((w.alloc (.cells (atC x).toArray 26)).alloc (.cells (madeCells #[.bool false] (s.size + 1)) 4)) w.heap.size x) := AtIn.keep (show AtIn (w.alloc (.cells (atC x).toArray 26)) w.heap.size x from heap_alloc_new w _) (Below.heap_alloc _ _ _ (by simp))
  have HB0 := Lib.hid (((Below.refl w.heap.size w).alloc (Nat.le_refl _) (.cells (atC x).toArray 26)).alloc (by simp) (.cells (madeCells #[.bool false] (s.size + 1)) 4))
  have hmk := fun w => run_make_row' (P := Tryd.prog) 86 4 (.bool false) 1 Tryd.underlying86 bool_info rfl .i64 .i64 (s.size + 1) (by omega) (by omega) w
  rw [show ((s.size + 1 : Nat) : Int) = (s.size : Int) + 1 by omega] at hmk
  have HXC := Lib.hid (fun (k : Nat) (w : World) (h : k < 256) => contains_any x k w h)
  go_enter Tryd.func104, Tryd.ntmps104
  go_wp2_with fail
  generalize (w.alloc (.cells (atC x).toArray 26)).alloc (.cells (madeCells #[.bool false] (s.size + 1)) 4) = w1 at HR0 HA0 HB0
  go_loopg [15] (s.size + 1) (fun n kv wr => ∃ k : Nat, k ≤ s.size + 1 ∧ kv = .int .i64 k ∧ Hid (wr.rowIs (w.heap.size + 1) 4 (s.size + 1) (fun j => .bool (if j < k then advF x s f j else false))) ∧ Hid (AtIn wr w.heap.size x) ∧ Hid (Below w.heap.size w wr) ∧ s.size + 1 - k ≤ n)
  case atStart => exact ⟨0, by omega, rfl, HR0.out, HA0.out, HB0.out, by omega⟩
  case round =>
    clear HR0 HA0 HB0
    obtain ⟨k, hk, rfl, HR, HA, HB, hgk⟩ := hrel
    by_cases hkl : k < s.size + 1
    · have hki : (k : Int) < (s.size : Int) + 1 := by omega
      have hkc : (k : Int) < (c : Int) ∨ True := .inr trivial
      rcases Nat.eq_zero_or_pos k with h0 | h0
      · subst h0
        rw [show ((0 : Nat) : Int) = 0 from rfl]
        have HC0 : ∃ c0, Hid (c0 = (decide (x.mn < 1) && f 0)) := ⟨_, rfl⟩
        obtain ⟨c0, HC0⟩ := HC0
        have q32 := HA.out.mn
        have qp := (HB.out.cell (p := ⟨b, o + 0, none⟩) hbl).trans (hp 0 (by omega))
        rw [Nat.add_zero] at qp
        go_upto_region 5 with fail
        go_cut [26] (fun v wx => v = .bool c0 ∧ wr = wx)
        case first =>
          by_cases hm : x.mn < 1
          · have HC1 : Hid (c0 = f 0) := by show _ = _; rw [HC0.out, decide_eq_true hm, Bool.true_and]
            go_wp2_with fail
            go_meet
            exact ⟨by rw [HC1.out], rfl⟩
          · have HC1 : Hid (c0 = false) := by show _ = _; rw [HC0.out, decide_eq_false hm, Bool.false_and]
            go_wp2_with fail
            go_meet
            exact ⟨by rw [HC1.out], rfl⟩
        case rest =>
          obtain ⟨rfl, rfl⟩ := hcut
          clear q32 qp
          go_upto_if 26 with fail
          go_cut [] (fun wx => Hid (wx.rowIs (w.heap.size + 1) 4 (s.size + 1) (fun j => .bool (if j < 0 then advF x s f j else if j = 0 then c0 else false))) ∧ Hid (AtIn wx w.heap.size x) ∧ Hid (Below w.heap.size w wx))
          case first =>
            have r0 := HR.out.cell (i := 0) (by omega)
            have rf := HR.out.frozen 0
            rw [if_neg (by omega)] at r0
            cases c0 with
            | true =>
              have HR1 : Hid ((wr.setCell ⟨w.heap.size + 1, 0, none⟩ (.bool true)).rowIs (w.heap.size + 1) 4 (s.size + 1) (fun j => .bool (if j < 0 then advF x s f j else if j = 0 then true else false))) := (HR.out.set (0) (.bool true)).congr fun j hj => by
                by_cases h1 : j = 0
                · rw [if_pos h1, if_neg (by omega), if_pos h1]
                · rw [if_neg h1]
                  by_cases h2 : j < 0
                  · rw [if_pos h2, if_pos h2]
                  · rw [if_neg h2, if_neg h2, if_neg h1]
              go_wp2_with fail
              go_meet
              exact ⟨HR1.out, HA.out.keep (Below.heap_setCell _ _ _ _ (by show w.heap.size ≠ w.heap.size + 1; omega)), HB.out.setCell (p := ⟨w.heap.size + 1, 0, none⟩) (Nat.le_succ _) _⟩
            | false =>
              have HR1 : Hid (wr.rowIs (w.heap.size + 1) 4 (s.size + 1) (fun j => .bool (if j < 0 then advF x s f j else if j = 0 then false else false))) := HR.out.congr fun j hj => by
                by_cases h2 : j < 0
                · rw [if_pos h2, if_pos h2]
                · rw [if_neg h2, if_neg h2]
                  split <;> rfl
              go_wp2_with fail
              go_meet
              exact ⟨HR1.out, HA.out, HB.out⟩
          case rest =>
            clear HR HA HB
            obtain ⟨HR, HA, HB⟩ := hcut
            have HV : Hid (advF x s f 0 = c0) := by show _ = _; rw [adv_zero, HC0.out]
            go_wp2_with fail
            go_quiet (fail)
            go_wp2_with fail
            have HRE : Hid (wc.rowIs (w.heap.size + 1) 4 (s.size + 1) (fun j => .bool (if j < (0 + 1) then advF x s f j else false))) := HR.out.congr fun j hj => by
              by_cases h1 : j = 0
              · rw [if_neg (by omega), if_pos h1, if_pos (by omega), h1, HV.out]
              · by_cases h2 : j < 0
                · rw [if_pos h2, if_pos (by omega)]
                · rw [if_neg h2, if_neg h1, if_neg (by omega)]
            go_roundg (s.size + 1 - (0 + 1))
            case measure => omega
            case rel => exact ⟨0 + 1, by omega, by go_num, HRE.out, HA.out, (below_drewN HB.out _), Nat.le_refl _⟩
      · obtain ⟨m, rfl⟩ : ∃ m, k = m + 1 := ⟨k - 1, by omega⟩
        rw [show ((m + 1 : Nat) : Int) = (m : Int) + 1 by omega]
        have HC0 : ∃ c0, Hid (c0 = (decide (x.mn < 1) && f (m + 1))) := ⟨_, rfl⟩
        obtain ⟨c0, HC0⟩ := HC0
        have q32 := HA.out.mn
        have qp := (HB.out.cell (p := ⟨b, o + (m + 1), none⟩) hbl).trans (hp (m + 1) (by omega))
        skip
        go_upto_region 5 with fail
        go_cut [26] (fun v wx => v = .bool c0 ∧ wr = wx)
        case first =>
          by_cases hm : x.mn < 1
          · have HC1 : Hid (c0 = f (m + 1)) := by show _ = _; rw [HC0.out, decide_eq_true hm, Bool.true_and]
            go_wp2_with fail
            go_meet
            exact ⟨by rw [HC1.out], rfl⟩
          · have HC1 : Hid (c0 = false) := by show _ = _; rw [HC0.out, decide_eq_false hm, Bool.false_and]
            go_wp2_with fail
            go_meet
            exact ⟨by rw [HC1.out], rfl⟩
        case rest =>
          obtain ⟨rfl, rfl⟩ := hcut
          clear q32 qp
          go_upto_if 26 with fail
          go_cut [] (fun wx => Hid (wx.rowIs (w.heap.size + 1) 4 (s.size + 1) (fun j => .bool (if j < (m + 1) then advF x s f j else if j = (m + 1) then c0 else false))) ∧ Hid (AtIn wx w.heap.size x) ∧ Hid (Below w.heap.size w wx))
          case first =>
            have r0 := HR.out.cell (i := (m + 1)) (by omega)
            have rf := HR.out.frozen (m + 1)
            rw [if_neg (by omega)] at r0
            cases c0 with
            | true =>
              have HR1 : Hid ((wr.setCell ⟨w.heap.size + 1, (m + 1), none⟩ (.bool true)).rowIs (w.heap.size + 1) 4 (s.size + 1) (fun j => .bool (if j < (m + 1) then advF x s f j else if j = (m + 1) then true else false))) := (HR.out.set ((m + 1)) (.bool true)).congr fun j hj => by
                by_cases h1 : j = (m + 1)
                · rw [if_pos h1, if_neg (by omega), if_pos h1]
                · rw [if_neg h1]
                  by_cases h2 : j < (m + 1)
                  · rw [if_pos h2, if_pos h2]
                  · rw [if_neg h2, if_neg h2, if_neg h1]
              go_wp2_with fail
              go_meet
              exact ⟨HR1.out, HA.out.keep (Below.heap_setCell _ _ _ _ (by show w.heap.size ≠ w.heap.size + 1; omega)), HB.out.setCell (p := ⟨w.heap.size + 1, (m + 1), none⟩) (Nat.le_succ _) _⟩
            | false =>
              have HR1 : Hid (wr.rowIs (w.heap.size + 1) 4 (s.size + 1) (fun j => .bool (if j < (m + 1) then advF x s f j else if j = (m + 1) then false else false))) := HR.out.congr fun j hj => by
                by_cases h2 : j < (m + 1)
                · rw [if_pos h2, if_pos h2]
                · rw [if_neg h2, if_neg h2]
                  split <;> rfl
              go_wp2_with fail
              go_meet
              exact ⟨HR1.out, HA.out, HB.out⟩
          case rest =>
            clear HR HA HB
            obtain ⟨HR, HA, HB⟩ := hcut
            have hmi : (m : Int) < (s.size : Int) := by omega
            have hm0 : (0 : Int) ≤ (m : Int) := by omega
            have e1 : IntKind.i64.wrap (m : Int) = (m : Int) := by rw [IntKind.wrap_i64]; omega
            have e0 : (((m : Int) + 1) == 0) = false := beq_eq_false_iff_ne.2 (by omega)
            have hu := Tryd.underlying26
            have hi : (Tryd.prog.info? 26).map (·.size) = some (atC x).length := by rw [atC_len]; exact atom_size
            have hl := atC_len x
            have h1 := atC_one x
            have hrg : wc.rangeAt w.heap.size 0 (atC x) := AtIn.range HA.out
            go_upto_region 7 with fail
            refine wp_region_still_tail 8 (by kernel_rfl) (by kernel_rfl) ?_
            simp only [List.take_succ_cons, List.take_zero, List.drop_succ_cons, List.drop_zero]
            still_step
            still_step
            still_step
            refine wpStill_step (fun K hK => ?_)
            rw [if_pos (by rfl)]
            refine still_load_mid _ _ rfl _ _ rfl (atC x) _ hrg hu rfl hi ?_
            refine hK _ ?_
            clear hK K
            repeat still_step
            refine wpStill_nil ?_
            have HR6 : Hid (wc.drew.rowIs (w.heap.size + 1) 4 (s.size + 1) (fun j => .bool (if j < (m + 1) then advF x s f j else if j = (m + 1) then c0 else false))) := HR.out.drew
            have HA6 : Hid (AtIn wc.drew w.heap.size x) := HA.out
            have HB6 : Hid (Below w.heap.size w wc.drew) := HB.out.drew
            change wpList _ _ _ _ _ wc.drew
            clear HR HA HB hrg hu hi hl h1 e1
            generalize wc.drew = w6 at HR6 HA6 HB6 ⊢
            obtain ⟨px, HPX⟩ : ∃ px : Bool, Hid (px = x.p (s[m].toNat)) := ⟨x.p (s[m].toNat), rfl⟩
            have HC := Lib.hid (fun w => HXC.out (s[m].toNat) w (UInt8.toNat_lt _))
            rw [← HPX.out] at HC
            have HV0 : Hid (advF x s f (m + 1) = (c0 || (px && (f m || (x.many && advF x s f m))))) := by
              show _ = _
              rw [adv_own, HPX.out, HC0.out, bt_get s m (by omega)]
            clear HPX HXC HC0
            have hz6 : w.heap.size + 1 < w6.heap.size := HR6.out.lt
            go_upto_if 40 with (go_at_call 82; refine (HC.out _).mono ?_; rintro e w7 ⟨rfl, hb7⟩)
            have HR7 := Lib.hid (HR6.out.of_block (hb7.block _ hz6))
            have HA7 := Lib.hid (HA6.out.keep (hb7.block _ (by omega)))
            have HB7 := Lib.hid (HB6.out.trans (hb7.mono (Nat.le_of_lt (Nat.lt_of_succ_lt hz6))))
            clear HR6 HA6 HB6 hb7 hz6 HC
            cases px with
            | false =>
              have HV : Hid (advF x s f (m + 1) = c0) := by show _ = _; rw [HV0.out]; cases c0 <;> rfl
              go_wp2_with fail
              have HRE : Hid (w7.rowIs (w.heap.size + 1) 4 (s.size + 1) (fun j => .bool (if j < ((m + 1) + 1) then advF x s f j else false))) := HR7.out.congr fun j hj => by
                by_cases h1 : j = (m + 1)
                · rw [if_neg (by omega), if_pos h1, if_pos (by omega), h1, HV.out]
                · by_cases h2 : j < (m + 1)
                  · rw [if_pos h2, if_pos (by omega)]
                  · rw [if_neg h2, if_neg h1, if_neg (by omega)]
              go_roundg (s.size + 1 - ((m + 1) + 1))
              case measure => omega
              case rel => exact ⟨(m + 1) + 1, by omega, by go_num, HRE.out, HA7.out, HB7.out, Nat.le_refl _⟩
            | true =>
              go_upto_region 8 with fail
              have qm : w7.cell? ⟨w.heap.size, 33, none⟩ = some (.bool x.many) := HA7.out.many
              have qp := (HB7.out.cell (p := ⟨b, o + m, none⟩) hbl).trans (hp m (by omega))
              have qo := HR7.out.cell (i := m) (by omega)
              rw [if_pos (by omega)] at qo
              obtain ⟨am, HAM⟩ : ∃ am, Hid (am = advF x s f m) := ⟨_, rfl⟩
              obtain ⟨fm, HFM⟩ : ∃ fm, Hid (fm = f m) := ⟨_, rfl⟩
              obtain ⟨mm, HMM⟩ : ∃ mm, Hid (mm = x.many) := ⟨_, rfl⟩
              rw [← HAM.out] at qo HV0
              rw [← HFM.out] at qp HV0
              rw [← HMM.out] at qm HV0
              clear HAM HFM HMM
              go_cut [56] (fun v wx => v = .bool (fm || (mm && am)) ∧ w7 = wx)
              case first =>
                cases fm with
                | true =>
                  go_wp2_with fail
                  go_meet
                  exact ⟨rfl, rfl⟩
                | false =>
                  cases mm with
                  | false =>
                    go_wp2_with fail
                    go_meet
                    exact ⟨rfl, rfl⟩
                  | true =>
                    go_wp2_with fail
                    go_meet
                    exact ⟨by cases am <;> rfl, rfl⟩
              case rest =>
                obtain ⟨rfl, rfl⟩ := hcut
                clear qm qp qo
                generalize (fm || (mm && am)) = c1 at HV0 ⊢
                go_upto_if 56 with fail
                have r0 := HR7.out.cell (i := m + 1) (by omega)
                have rf := HR7.out.frozen (m + 1)
                rw [if_neg (by omega), if_pos rfl] at r0
                cases c1 with
                | false =>
                  have HV : Hid (advF x s f (m + 1) = c0) := by show _ = _; rw [HV0.out]; cases c0 <;> rfl
                  clear r0 rf
                  go_wp2_with fail
                  have HRE : Hid (w7.rowIs (w.heap.size + 1) 4 (s.size + 1) (fun j => .bool (if j < ((m + 1) + 1) then advF x s f j else false))) := HR7.out.congr fun j hj => by
                    by_cases h1 : j = (m + 1)
                    · rw [if_neg (by omega), if_pos h1, if_pos (by omega), h1, HV.out]
                    · by_cases h2 : j < (m + 1)
                      · rw [if_pos h2, if_pos (by omega)]
                      · rw [if_neg h2, if_neg h1, if_neg (by omega)]
                  go_roundg (s.size + 1 - ((m + 1) + 1))
                  case measure => omega
                  case rel => exact ⟨(m + 1) + 1, by omega, by go_num, HRE.out, HA7.out, HB7.out, Nat.le_refl _⟩
                | true =>
                  have HV : Hid (advF x s f (m + 1) = true) := by show _ = _; rw [HV0.out]; cases c0 <;> rfl
                  have HR8 : Hid ((w7.setCell ⟨w.heap.size + 1, m + 1, none⟩ (.bool true)).rowIs (w.heap.size + 1) 4 (s.size + 1) (fun j => .bool (if j < (m + 1) then advF x s f j else if j = (m + 1) then true else false))) := (HR7.out.set (m + 1) (.bool true)).congr fun j hj => by
                    by_cases h1 : j = m + 1
                    · rw [if_pos h1, if_neg (by omega), if_pos h1]
                    · rw [if_neg h1]
                      by_cases h2 : j < m + 1
                      · rw [if_pos h2, if_pos h2]
                      · rw [if_neg h2, if_neg h2, if_neg h1, if_neg h1]
                  go_wp2_with fail
                  have HRE : Hid ((w7.setCell ⟨w.heap.size + 1, m + 1, none⟩ (.bool true)).rowIs (w.heap.size + 1) 4 (s.size + 1) (fun j => .bool (if j < ((m + 1) + 1) then advF x s f j else false))) := HR8.out.congr fun j hj => by
                    by_cases h1 : j = (m + 1)
                    · rw [if_neg (by omega), if_pos h1, if_pos (by omega), h1, HV.out]
                    · by_cases h2 : j < (m + 1)
                      · rw [if_pos h2, if_pos (by omega)]
                      · rw [if_neg h2, if_neg h1, if_neg (by omega)]
                  go_roundg (s.size + 1 - ((m + 1) + 1))
                  case measure => omega
                  case rel => exact ⟨(m + 1) + 1, by omega, by go_num, HRE.out, HA7.out.keep (Below.heap_setCell _ _ _ _ (by show w.heap.size ≠ w.heap.size + 1; omega)), HB7.out.setCell (p := ⟨w.heap.size + 1, m + 1, none⟩) (Nat.le_succ _) _, Nat.le_refl _⟩
    · obtain rfl : k = s.size + 1 := by omega
      have HRE : Hid (wr.rowIs (w.heap.size + 1) 4 (s.size + 1) (fun j => .bool (advF x s f j))) := HR.out.congr fun j hj => by rw [if_pos hj]
      have hki : ¬ (((s.size + 1 : Nat)) : Int) < (s.size : Int) + 1 := by omega
      go_wp2_with fail
      go_ret
      exact ⟨(w.heap.size + 1), rfl, Nat.le_succ _, HRE.out, HB.out⟩

end Go.Proofs.YtpboaadjbkaidaaDoor
