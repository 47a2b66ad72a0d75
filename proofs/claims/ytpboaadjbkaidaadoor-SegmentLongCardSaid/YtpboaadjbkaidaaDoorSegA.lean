
/-
  The program's words of a line, the look for a table, a side of a rule.
-/
import Derived.Test.YtpboaadjbkaidaaDoorShelf6
import Derived.Test.YtpboaadjbkaidaaDoorCardKit
import Derived.Test.YtpboaadjbkaidaaDoorSegTS
import Derived.Test.YtpboaadjbkaidaaDoorMatchA
namespace Go.Proofs.YtpboaadjbkaidaaDoor
set_option maxRecDepth 100000
open Go.RowKit

def strC (s : ByteArray) : List Value := [.string s]
theorem strC_one (s : ByteArray) : ∀ u ∈ strC s, u.oneCell' = true := by
  intro u hu
  simp [strC] at hu
  subst hu
  rfl
theorem string_info : (Tryd.prog.info? 9).map (fun i => (i.zero, i.size, i.bytes)) = some (some (.string ByteArray.empty), 1, 16) := by kernel_rfl
theorem table_size : (Tryd.prog.info? 46).map (·.size) = some 3 := by kernel_rfl
theorem tbC_oneA (x : TbV) : (tbC x).toArray.all (·.oneCell') = true := by
  rw [Array.all_eq_true_iff_forall_mem]
  intro v hv
  exact tbC_one x v (List.mem_toArray.1 hv)
/-- The words of a line. -/
def wordsB (s : ByteArray) : List ByteArray := (wordsL s.data.toList).map ofL
theorem map_ofL (l : List ByteArray) : (l.map (·.data.toList)).map ofL = l := by
  rw [List.map_map]
  refine (List.map_congr_left fun x _ => ?_).trans (List.map_id l)
  exact ofL_of x
theorem pieces_words (s : ByteArray) : (Lib.splitB (⟨#[32]⟩ : ByteArray) 0 (Lib.countB s (⟨#[32]⟩ : ByteArray)) s).filter (fun x => x.data.toList ≠ []) = wordsB s := by
  have h1 := Lib.splitB_data (⟨#[32]⟩ : ByteArray) 0 (Lib.countB s (⟨#[32]⟩ : ByteArray)) s
  have h2 : Lib.countB s (⟨#[32]⟩ : ByteArray) = s.data.toList.count 32 := Lib.count_one 32 _
  have h3 := split_words (Lib.countB s (⟨#[32]⟩ : ByteArray)) s.data.toList h2.symm
  unfold wordsB
  rw [← h3]
  have h4 : ((⟨#[32]⟩ : ByteArray)).data.toList = [32] := rfl
  rw [h4] at h1
  rw [← h1, List.filter_map, map_ofL]
  rfl
def RetWords (w : World) (s : ByteArray) (e : Ending) (w' : World) : Prop := ∃ v, e = .returned v ∧ OwnE 9 strC 1 w' w.heap.size v (wordsB s) ∧ Below w.heap.size w w'
/-- The first table with a name. -/
def findF : List Tb → ByteArray → Nat → Int
  | [], _, _ => -1
  | t :: ts, nm, k => if (t.nm.toList == nm.toList) = true then (k : Int) else findF ts nm (k + 1)
def RetSide (w : World) (s : ByteArray) (e : Ending) (w' : World) : Prop := ∃ v x, e = .returned (.tuple #[v, .int .i64 x]) ∧ x = (sideF s.data.toList).2 ∧ OwnE 26 atC 34 w' w.heap.size v (sideF s.data.toList).1 ∧ Below w.heap.size w w'

set_option maxRecDepth 100000 in
set_option maxHeartbeats 4000000 in
theorem words_any (s : ByteArray) (w : World) (hs : s.size < 4294967281) (hg : Got w) : Calls Tryd.prog 53 #[.string s] w (RetWords w s) := by
  obtain ⟨R, HRR⟩ : ∃ R, Hid (R = RetWords w s) := ⟨_, rfl⟩
  rw [← HRR.out]
  obtain ⟨m, hm⟩ := hg
  have HSP := Lib.hid (Tryd.strings_Split s (⟨#[32]⟩ : ByteArray) m w hs hm (by decide))
  have hPn := Lib.splitB_all (⟨#[32]⟩ : ByteArray) (by decide) 0 (Lib.countB s (⟨#[32]⟩ : ByteArray)) s rfl
  have hPw : Hid ((Lib.splitB (⟨#[32]⟩ : ByteArray) 0 (Lib.countB s (⟨#[32]⟩ : ByteArray)) s).filter (fun x => x.data.toList ≠ []) = wordsB s) := pieces_words s
  have hcb : Lib.countB s (⟨#[32]⟩ : ByteArray) ≤ s.size := Lib.countB_le (⟨#[32]⟩ : ByteArray) (by decide) s.size s (Nat.le_refl _)
  generalize Lib.splitB (⟨#[32]⟩ : ByteArray) 0 (Lib.countB s (⟨#[32]⟩ : ByteArray)) s = P at HSP hPn hPw
  generalize Lib.countB s (⟨#[32]⟩ : ByteArray) = n at HSP hPn hcb
  obtain ⟨N, hN⟩ : ∃ N, N = n + 1 := ⟨_, rfl⟩
  rw [← hN] at HSP hPn
  have hcast : ((n + 1 : Nat) : Int) = (n : Int) + 1 := by omega
  go_enter Tryd.func53, Tryd.ntmps53
  go_upto_region 3 with (go_at_call 86; refine HSP.out.mono ?_; rintro e w' ⟨rfl, rfl⟩)
  have HP : Hid (∀ k p, P[k]? = some p → (w.alloc (.cells (P.map Value.string).toArray 9)).cell? ⟨w.heap.size, k, none⟩ = some (.string p)) := fun k p hk => by
    have := cells_new w (P.map Value.string) 9 k (.string p) (by rw [List.getElem?_map, hk]; rfl)
    rw [Addr.add_lit, Nat.zero_add] at this
    exact this
  have hz1 : (w.alloc (.cells (P.map Value.string).toArray 9)).heap.size = w.heap.size + 1 := by simp
  have HB1 := Lib.hid ((Below.refl w.heap.size w).alloc (Nat.le_refl _) (.cells (P.map Value.string).toArray 9))
  generalize w.alloc (.cells (P.map Value.string).toArray 9) = w1 at HP hz1 HB1 ⊢
  clear HSP
  go_wp2_with fail
  obtain ⟨wo, HWO⟩ : ∃ wo, Hid (wo = w1) := ⟨w1, rfl⟩
  go_loopg [3, 9] N (fun gk ov kv wr => ∃ (k : Nat) (q : List ByteArray) (A : Option Addr) (c : Nat), ov = .slice A q.length c ∧ kv = .int .i64 k ∧ k ≤ N ∧ Hid (q = (P.take k).filter (fun x => x.data.toList ≠ [])) ∧ Hid (OwnE 9 strC 1 wr w1.heap.size (.slice A q.length c) q) ∧ Hid (Below w1.heap.size w1 wr) ∧ q.length ≤ k ∧ N - k ≤ gk)
  case atStart => exact ⟨0, [], none, 0, rfl, rfl, by omega, rfl, OwnE.nil, Below.refl _ _, Nat.le_refl _, by omega⟩
  case round =>
    obtain ⟨k, q, A, c, rfl, rfl, hk, HQ, HO, HB, hqk, hgk⟩ := hrel
    by_cases hkl : k < N
    · have hki : (k : Int) < (N : Int) := by omega
      have hk0 : (0 : Int) ≤ (k : Int) := by omega
      have hPk : k < P.length := by omega
      have q0 := (HB.out.cell (p := ⟨w.heap.size, k, none⟩) (show w.heap.size < w1.heap.size by omega)).trans (HP.out k _ (List.getElem?_eq_getElem hPk))
      have HQ2 : Hid ((P.take (k + 1)).filter (fun x => x.data.toList ≠ []) = q ++ if P[k].data.toList ≠ [] then [P[k]] else []) := by
        show _ = _
        rw [List.take_succ_eq_append_getElem hPk, List.filter_append, ← HQ.out]
        congr 1
        by_cases h : P[k].data.toList ≠ []
        · rw [if_pos h, List.filter_cons_of_pos (by simpa using h)]; rfl
        · rw [if_neg h, List.filter_cons_of_neg (by simpa using h)]; rfl
      generalize P[k] = p at q0 HQ2
      have hsz := HB.out.size
      by_cases hp : p.data.toList = []
      · have t1 : (p.toList != []) = false := by rw [toList_eq_data, hp]; rfl
        have t2 : (p.toList == []) = true := by rw [toList_eq_data, hp]; rfl
        rw [if_neg (not_not_intro hp), List.append_nil] at HQ2
        clear hp
        go_wp2_with fail
        go_roundg (N - (k + 1))
        case measure => omega
        case rel => exact ⟨k + 1, q, A, c, rfl, by go_num, by omega, HQ2.out.symm, HO.out, HB.out, by omega, Nat.le_refl _⟩
      · have t1 : (p.toList != []) = true := by rw [toList_eq_data]; exact bne_iff_ne.2 hp
        have t2 : (p.toList == []) = false := by rw [toList_eq_data]; exact beq_eq_false_iff_ne.2 hp
        rw [if_pos hp] at HQ2
        clear hp
        go_wp2_with (at_builtin; go_must (refine wpList_app1 rfl (.tmp 15) (.tmp 17) 68 9 rfl Tryd.underlying68 _ 1 16 string_info rfl (by decide) w1.heap.size (.slice A q.length c) q.length (q.flatMap strC) rfl (own_below HO.out ((Below.refl _ wr).alloc (Nat.le_refl _) _) (Nat.le_refl _)) ⟨wr.heap.size, 0, none⟩ 1 (strC p) rfl rfl (cells_new wr (strC p) 9) (strC_one p) (by omega) (by decide) (by simp; omega) ?_); intro g2 cap w9 hown9 hbg9 hbel9 hgrow9)
        have hbn := hbel9 w1.heap.size (wr.alloc (.cells (strC p).toArray 9)) (Nat.le_refl _) (Below.refl _ _)
        have HB9 := Lib.hid ((HB.out.alloc hsz (.cells (strC p).toArray 9)).trans hbn)
        have HO9 : Hid (OwnE 9 strC 1 w9 w1.heap.size (.slice (some ⟨g2, 0, none⟩) (q.length + 1) cap) (q ++ [p])) := OwnE.snoc hown9
        clear hown9 hbel9 hgrow9 hbn
        go_wp2_with fail
        go_roundg (N - (k + 1))
        case measure => omega
        case rel => exact ⟨k + 1, q ++ [p], some ⟨g2, 0, none⟩, cap, by (show Value.slice _ _ _ = Value.slice _ _ _); rw [List.length_append]; rfl, by go_num, by omega, HQ2.out.symm, by (show OwnE _ _ _ _ _ _ _); rw [List.length_append]; exact HO9.out, HB9.out, by rw [List.length_append]; show q.length + 1 ≤ k + 1; omega, Nat.le_refl _⟩
    · obtain rfl : k = N := by omega
      have hki : ¬ (k : Int) < (k : Int) := by omega
      have e : q = wordsB s := by
        rw [HQ.out, ← hPw.out, List.take_of_length_le (by omega)]
      go_wp2_with fail
      rw [HRR.out]
      refine ⟨_, rfl, ?_, HB1.out.trans (HB.out.mono HB1.out.size)⟩
      have h := own_base HO.out HB1.out.size
      rw [e] at h
      exact h

set_option maxRecDepth 100000 in
set_option maxHeartbeats 4000000 in
theorem find_any (ts : List Tb) (v : Value) (nm : ByteArray) (w : World) (ht : RdTb w v ts) (hl : ts.length ≤ 1000000) :
    Calls Tryd.prog 74 #[v, .string nm] w fun e w' => e = .returned (.int .i64 (findF ts nm 0)) ∧ Below w.heap.size w w' := by
  obtain ⟨xs, hx0, hxl, hx⟩ := ht
  have hxa : xs.length ≤ ts.length := Nat.le_of_eq hxl
  have hxb : ts.length ≤ xs.length := Nat.le_of_eq hxl.symm
  clear hxl
  obtain ⟨A, c, rfl, hlc, _⟩ := hx0.shape
  have HX := Lib.hid hx0
  have HI : Hid (∀ (i : Nat) (x : TbV) (t : Tb), xs[i]? = some x → ts[i]? = some t → x.nm = t.nm) := fun i x t h1 h2 => (hx i x t h1 h2).1
  clear hx0 hx
  obtain ⟨V, HV⟩ : ∃ V, Hid (V = findF ts nm 0) := ⟨_, rfl⟩
  rw [← HV.out]
  have hu := Tryd.underlying46
  have hi : (Tryd.prog.info? 46).map (·.size) = some 3 := table_size
  go_enter Tryd.func74, Tryd.ntmps74
  go_wp2_with fail
  obtain ⟨wo, HWO⟩ : ∃ wo, Hid (wo = w) := ⟨w, rfl⟩
  go_loopg [9] xs.length (fun gk kv wr => ∃ k : Nat, kv = .int .i64 k ∧ k ≤ xs.length ∧ Hid (findF (ts.drop k) nm k = V) ∧ Hid (Below w.heap.size w wr) ∧ xs.length - k ≤ gk)
  case atStart => exact ⟨0, rfl, by omega, by (show _ = _); rw [List.drop_zero, HV.out], Below.refl _ _, by omega⟩
  case round =>
    obtain ⟨k, rfl, hk, HF, HB, hgk⟩ := hrel
    by_cases hkl : k < xs.length
    · have hki : (k : Int) < (xs.length : Int) := by omega
      have hk0 : (0 : Int) ≤ (k : Int) := by omega
      obtain ⟨b, o, rfl, hbl, hcell⟩ := HX.out.cells (by omega)
      have hxk : xs[k]? = some xs[k] := List.getElem?_eq_getElem hkl
      have htk : ts[k]? = some (ts[k]'(by omega)) := List.getElem?_eq_getElem (by omega)
      have hrg : wr.rangeAt b (o + k * 3) (tbC xs[k]) := fun j v hj => by
        rw [Nat.add_assoc]
        exact (HB.out.cell (p := ⟨b, o + (k * 3 + j), none⟩) hbl).trans (hcell k _ j v hxk hj)
      have hnm := HI.out k _ _ hxk htk
      have HF2 : Hid ((if (xs[k].nm.toList == nm.toList) = true then (k : Int) else findF (ts.drop (k + 1)) nm (k + 1)) = V) := by
        show _ = _
        have h := HF.out
        rw [List.drop_eq_getElem_cons (show k < ts.length by omega), findF] at h
        rw [hnm]
        exact h
      clear hcell hxk htk hnm HF
      generalize xs[k] = x at hrg HF2
      have hz := HB.out.size
      have HA1 : Hid ((((wr.alloc (.cells #[.string ⟨#[]⟩, .string ⟨#[]⟩, .slice none 0 0] 46)).setRow wr.heap.size (tbC x).toArray)).heap[wr.heap.size]? = some (.cells (tbC x).toArray 46)) := setRow_heap _ _ _ _ _ _ (heap_alloc_new wr _)
      have HB1 : Hid (Below w.heap.size w ((wr.alloc (.cells #[.string ⟨#[]⟩, .string ⟨#[]⟩, .slice none 0 0] 46)).setRow wr.heap.size (tbC x).toArray)) := below_setRow (HB.out.alloc hz _) hz _
      go_upto_region 4 with (first
        | (refine wpList_load_mid rfl 46 (.tmp 12) rfl b (o + k * 3) rfl (tbC x) _ hrg hu rfl (by rw [hi]; rfl) ?_)
        | (refine wpList_store_row rfl 46 (.tmp 6) (.tmp 13) rfl (wr.heap.size) (tbC x).toArray rfl rfl 46 _ (heap_alloc_new wr _) (by rw [table_size]; rfl) rfl (tbC_oneA x) ?_))
      clear HB hrg
      generalize hg3 : wr.heap.size = g3 at HA1 HB1 hz ⊢
      generalize (wr.alloc (.cells #[.string ⟨#[]⟩, .string ⟨#[]⟩, .slice none 0 0] 46)).setRow g3 (tbC x).toArray = w2 at HA1 HB1 ⊢
      clear hg3
      have q : w2.cell? ⟨g3, 0, none⟩ = some (.string x.nm) := by rw [cell_of_row _ _ _ _ _ _ HA1.out]; rfl
      by_cases hp : (x.nm.toList == nm.toList) = true
      · rw [if_pos hp] at HF2
        go_wp2_with fail
        go_ret
        exact ⟨ret_int HF2.out, HB1.out⟩
      · have hp2 : (x.nm.toList == nm.toList) = false := by simpa using hp
        rw [if_neg hp] at HF2
        clear hp
        go_wp2_with fail
        go_roundg (xs.length - (k + 1))
        case measure => omega
        case rel => exact ⟨k + 1, by go_num, by omega, HF2.out, HB1.out, Nat.le_refl _⟩
    · obtain rfl : k = xs.length := by omega
      have hki : ¬ (xs.length : Int) < (xs.length : Int) := by omega
      have HF2 : Hid (V = -1) := by
        show _ = _
        rw [← HF.out, List.drop_eq_nil_of_le (by omega)]
        rfl
      go_wp2_with fail
      go_ret
      exact ⟨ret_int HF2.out.symm, HB.out⟩

set_option maxRecDepth 100000 in
set_option maxHeartbeats 4000000 in
theorem side_any (s : ByteArray) (w : World) (hs : s.size ≤ 2147483648) : Calls Tryd.prog 102 #[.string s] w (RetSide w s) := by
  obtain ⟨R, HRR⟩ : ∃ R, Hid (R = RetSide w s) := ⟨_, rfl⟩
  rw [← HRR.out]
  have HPA := Lib.hid (parse_any w s hs)
  by_cases h : s.data.toList = [45]
  · have t1 : (s.toList == [45]) = true := by rw [toList_eq_data, h]; rfl
    have e : sideF s.data.toList = ([], 0) := by unfold sideF; rw [if_pos h]
    clear h
    go_enter Tryd.func102, Tryd.ntmps102
    go_wp2_with fail
    rw [HRR.out]
    exact ⟨_, _, rfl, by rw [e], by rw [e]; exact OwnE.nil, Below.refl _ _⟩
  · have t1 : (s.toList == [45]) = false := by rw [toList_eq_data]; exact beq_eq_false_iff_ne.2 h
    have e : sideF s.data.toList = ((parseF s).1, (parseF s).2.2) := by unfold sideF; rw [if_neg h, ofL_of]
    clear h
    go_enter Tryd.func102, Tryd.ntmps102
    go_wp2_with (go_at_call 113; refine HPA.out.mono ?_; rintro e w1 ⟨v1, rfl, ho1, hb1⟩)
    rw [HRR.out]
    exact ⟨v1, _, rfl, by rw [e], by rw [e]; exact ho1, hb1⟩

end Go.Proofs.YtpboaadjbkaidaaDoor
