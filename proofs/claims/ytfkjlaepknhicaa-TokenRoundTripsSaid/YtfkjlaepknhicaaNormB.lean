
/-
  Normalize of package item; Same of the references.
-/
import Derived.Test.YtfkjlaepknhicaaTok
import Derived.Test.YtfkjlaepknhicaaMathJoin
import Derived.Test.YtfkjlaepknhicaaMemB
import Derived.Lib.AppendStr
import Derived.WalkSpells
namespace Go.Proofs.Ytfkjlaepknhicaa
open Go.RowKit

theorem u8_info : (Try.prog.info? 5).map (fun i => (i.zero, i.size, i.bytes)) = some (some (.int .u8 0), 1, 1) := by kernel_rfl

theorem str_cells_append (a b : ByteArray) : Go.Lib.strCells a ++ Go.Lib.strCells b = Go.Lib.strCells (a ++ b) := by
  unfold Go.Lib.strCells
  simp

/-- A row of bytes of the call's own, as a string. -/
theorem run_string_own {w : World} {base : Nat} {e : TypeId} {A : Option Addr} {n c : Nat} (s : ByteArray) (src dst : TypeId) (hs : Try.prog.underlying src = some (.slice e)) (he : Try.prog.underlying e = some (.int .u8)) (hd : Try.prog.underlying dst = some .string)
    (h : w.ownsRow base e 1 (.slice A n c) n (Go.Lib.strCells s)) (hn : n = s.size) (h0 : 0 < n) : (convert src dst (.slice A n c)).run Try.prog w = .ok (.string s) w := by
  obtain ⟨g, c', hv, _⟩ := own_some h h0
  injection hv with h1 _ h3
  subst h1 h3
  have hl : n = s.data.toList.length := by rw [hn, Lib.size_eq]
  have := run_convert_bytes_back (P := Try.prog) w src dst e ⟨g, 0, none⟩ c s.data.toList hs he hd (fun j hj => by
    have hc := h.cells (g := g) rfl j (.int .u8 (s.data.toList[j].toNat : Int)) (by
      unfold Go.Lib.strCells
      rw [List.getElem?_map, List.getElem?_eq_getElem hj]
      rfl)
    exact hc)
  rw [← hl] at this
  exact this

set_option maxHeartbeats 4000000 in
theorem norm_any (f : List Tk) (v : Value) (w : World) (hf : RdT w v f) (hl : f.length ≤ 100000) (hbt : bytesOf f ≤ 1000000) :
    Calls Try.prog 37 #[v] w (RetOwn 27 tkC 3 w (normL f)) := by
  obtain ⟨A, c, rfl, _, _⟩ := hf.shape
  have HF := Lib.hid hf
  obtain ⟨i8, hi8, hz8, hs8, hb8⟩ := info_parts u8_info
  have HI8 := Lib.hid hi8
  have HZ8 := Lib.hid hz8
  have HS8 := Lib.hid hs8
  have HB8 := Lib.hid hb8
  clear hf hi8 hz8 hs8 hb8
  go_enter Try.func37, Try.ntmps37
  go_wp2
  go_loopw [3, 4] (fun ov i wr => ∃ k : Nat, k ≤ f.length ∧ i = .int .i64 k ∧ Hid (OwnT 27 wr w.heap.size ov (normL (f.take k))) ∧ Below w.heap.size w wr ∧ Hid (∀ h : k < f.length, (f[k]'h).k = 1 → NoText (normL (f.take k)))) (fun _ i _ => f.length - (intOf i).toNat)
  case atStart => exact ⟨0, by omega, rfl, OwnE.nil, Below.refl _ _, fun _ _ y hy => by simp [normL] at hy⟩
  case round =>
    obtain ⟨k, hk, rfl, HO, hb, HN⟩ := hrel
    have hsize := hb.size
    obtain ⟨A', c', hv⟩ := own_shape HO.out
    subst hv
    have hol : (normL (f.take k)).length ≤ f.length := by
      have := normL_length (f.take k)
      rw [List.length_take] at this
      omega
    by_cases hkl : k < f.length
    · obtain ⟨b, o, rfl, hbl, q1, q2, q3⟩ := RdT.at_ HF.out k hkl
      rw [← hb.cell (p := ⟨b, o + k * 3, none⟩) hbl] at q1
      rw [← hb.cell (p := ⟨b, o + k * 3 + 1, none⟩) hbl] at q2
      rw [← hb.cell (p := ⟨b, o + k * 3 + 2, none⟩) hbl] at q3
      have HT := Lib.hid (normL_take f k hkl)
      have HNK := Lib.hid (HN.out hkl)
      generalize hx : f[k] = x at q1 q2 q3 HT HNK
      have HX := Lib.hid hx
      obtain ⟨xk, xt, xd⟩ := x
      simp only at q1 q2 q3
      clear hx
      by_cases h1 : xk = 1
      · have HNO := Lib.hid (HNK.out h1)
        generalize hout : normL (f.take k) = out at HO hol HNO HT
        have HOUT := Lib.hid hout
        subst h1
        clear hout
        go_wp2_with fail
        obtain ⟨wo, rfl⟩ : ∃ wo : World, wo = wr := ⟨_, rfl⟩
        go_loopw [4, 5] (fun i bv wi => ∃ (j : Nat) (bs : ByteArray), k ≤ j ∧ j ≤ f.length ∧ i = .int .i64 j ∧ bs.size ≤ 1000000 ∧ Hid (bs.size ≤ bytesOf (f.take j)) ∧ Hid (wi.ownsRow wo.heap.size 5 1 bv bs.size (Go.Lib.strCells bs)) ∧ Hid (Below wo.heap.size wo wi) ∧ Hid (normL (f.take j) = normStep out ⟨1, bs, 0⟩) ∧ Hid (j = k → bs.size = 0)) (fun i _ _ => f.length - (intOf i).toNat)
        case atStart => exact ⟨k, ⟨#[]⟩, by omega, by omega, rfl, by decide, Nat.zero_le _, World.ownsRow_nil _ _ _ _, Below.refl _ _, by rw [step_none _ _ _ rfl]; exact HOUT.out, fun _ => rfl⟩
        case round =>
          obtain ⟨j, bs, hkj, hj, rfl, hbs, HBS, HBV, HBI, HNJ, HJK⟩ := hrel
          obtain ⟨A2, c2, hv2⟩ := own_shape HBV.out
          subst hv2
          have hzi := HBI.out.size
          have HOI := Lib.hid (own_below HO.out HBI.out (Nat.le_refl _))
          have HBW := Lib.hid (hb.trans (HBI.out.mono hsize))
          by_cases hjl : j < f.length
          · have hlt2 : decide ((j : Int) < (f.length : Int)) = true := by simp; omega
            obtain ⟨b', o', hA', _, p1, p2, p3⟩ := RdT.at_ HF.out j hjl
            injection hA' with hA'
            injection hA' with e1 e2 _
            subst e1 e2
            rw [← HBW.out.cell (p := ⟨b, o + j * 3, none⟩) hbl] at p1
            rw [← HBW.out.cell (p := ⟨b, o + j * 3 + 1, none⟩) hbl] at p2
            rw [← HBW.out.cell (p := ⟨b, o + j * 3 + 2, none⟩) hbl] at p3
            have HTJ := Lib.hid (normL_take f j hjl)
            have hgb := bytesOf_get f j hjl
            have HBJ := Lib.hid (show bytesOf (f.take (j + 1)) = bytesOf (f.take j) + f[j].t.size by
              rw [List.take_succ_eq_append_getElem hjl, bytesOf_append, bytesOf_one])
            generalize hy : f[j] = y at p1 p2 p3 HTJ hgb HBJ
            have HY := Lib.hid hy
            obtain ⟨yk, yt, yd⟩ := y
            simp only at p1 p2 p3 hgb
            clear hy
            have hbsz := HBS.out
            by_cases hy1 : yk = 1
            · subst hy1
              go_wp2_with (at_builtin; go_must (refine Go.Lib.wpList_append_own_string _ rfl (.tmp 37) (.tmp 42) 64 9 rfl wo.heap.size 5 i8 Try.underlying64 Try.underlying9 HI8.out HZ8.out HS8.out HB8.out _ bs.size _ rfl (by exact HBV.out) yt rfl (by unfold maxLen; omega) (by omega) (by exact HBI.out.size) ?_); intro v7 w7 hown7 hgr7 _)
              have hB7 := HBI.out.grown hgr7 (by exact HBI.out.size) (fun q hq => (HBV.out.lt q hq).1)
              refine ⟨⟨j + 1, bs ++ yt, by omega, by omega, by go_num, by rw [ByteArray.size_append]; omega, ?_, ?_, hB7, ?_, fun h => absurd h (by omega)⟩, by simp [intOf]; try omega⟩
              · show (bs ++ yt).size ≤ bytesOf (f.take (j + 1))
                rw [ByteArray.size_append, HBJ.out]
                show bs.size + yt.size ≤ bytesOf (f.take j) + yt.size
                omega
              · rw [str_cells_append] at hown7
                rw [ByteArray.size_append]
                exact hown7
              · show normL (f.take (j + 1)) = normStep out ⟨1, bs ++ yt, 0⟩
                rw [HTJ.out, HNJ.out, step_assoc _ _ _ _ _ 0]
            · have ty : (yk == 1) = false := by simpa using hy1
              have hjk : k < j := by
                rcases Nat.lt_or_ge k j with h | h
                · exact h
                · exfalso
                  obtain rfl : j = k := by omega
                  have := HX.out
                  rw [HY.out] at this
                  injection this with e _ _
                  exact hy1 e
              by_cases hz : 0 < bs.size
              · have hcv := run_string_own bs 64 9 Try.underlying64 Try.underlying5 Try.underlying9 HBV.out rfl hz
                go_wp2_with (at_builtin; go_must (refine wpList_app1 rfl (.tmp 49) (.tmp 53) 22 27 rfl Try.underlying22 _ 3 32 item_info rfl (by decide) w.heap.size _ out.length (out.flatMap tkC) rfl (by exact World.ownsRow.alloc HOI.out _) ⟨wr.heap.size, 0, none⟩ 1 (tkC ⟨1, bs, 0⟩) rfl rfl (by exact cells_at _ _ rfl _ _) (tkC_one _) (by omega) (by decide) (by simp; omega) ?_); intro g cap w1 hown1 hg1 hbel1 hgr1)
                refine ⟨⟨j, by omega, rfl, ?_, hbel1 _ _ (Nat.le_refl _) (by exact HBW.out.alloc (by omega) _), fun h hk => by rw [HY.out] at hk; exact absurd hk hy1⟩, by simp [intOf]; try omega⟩
                rw [HNJ.out, step_noText _ _ _ HNO.out (by omega)]
                exact OwnE.snoc hown1
              · have hz0 : bs.size = 0 := by omega
                have HOJ : Hid (normL (f.take j) = out) := by
                  show normL (f.take j) = out
                  rw [HNJ.out, step_none _ _ _ hz0]
                have HZ0 := Lib.hid hz0
                clear hz0
                go_wp2_with fail
                refine ⟨⟨j, by omega, rfl, ?_, HBW.out, fun h hk => by rw [HY.out] at hk; exact absurd hk hy1⟩, by simp [intOf]; try omega⟩
                rw [HOJ.out]
                exact HOI.out
          · obtain rfl : j = f.length := by omega
            have hlt2 : decide ((f.length : Int) < (f.length : Int)) = false := by simp
            by_cases hz : 0 < bs.size
            · have hcv := run_string_own bs 64 9 Try.underlying64 Try.underlying5 Try.underlying9 HBV.out rfl hz
              go_wp2_with (at_builtin; go_must (refine wpList_app1 rfl (.tmp 49) (.tmp 53) 22 27 rfl Try.underlying22 _ 3 32 item_info rfl (by decide) w.heap.size _ out.length (out.flatMap tkC) rfl (by exact World.ownsRow.alloc HOI.out _) ⟨wr.heap.size, 0, none⟩ 1 (tkC ⟨1, bs, 0⟩) rfl rfl (by exact cells_at _ _ rfl _ _) (tkC_one _) (by omega) (by decide) (by simp; omega) ?_); intro g cap w1 hown1 hg1 hbel1 hgr1)
              refine ⟨⟨f.length, by omega, rfl, ?_, hbel1 _ _ (Nat.le_refl _) (by exact HBW.out.alloc (by omega) _), fun h => absurd h (by omega)⟩, by simp [intOf]; try omega⟩
              rw [HNJ.out, step_noText _ _ _ HNO.out (by omega)]
              exact OwnE.snoc hown1
            · have hz0 : bs.size = 0 := by omega
              have HOJ : Hid (normL (f.take f.length) = out) := by
                show normL (f.take f.length) = out
                rw [HNJ.out, step_none _ _ _ hz0]
              have HZ0 := Lib.hid hz0
              clear hz0
              go_wp2_with fail
              refine ⟨⟨f.length, by omega, rfl, ?_, HBW.out, fun h => absurd h (by omega)⟩, by simp [intOf]; try omega⟩
              rw [HOJ.out]
              exact HOI.out
      · have t1 : (xk != 1) = true := by simpa using h1
        have h1' : xk ≠ 1 := h1
        have H1 := Lib.hid h1'
        clear h1 h1'
        go_wp2_with (at_builtin; go_must (refine wpList_app1 rfl (.tmp 16) (.tmp 21) 22 27 rfl Try.underlying22 _ 3 32 item_info rfl (by decide) w.heap.size _ (normL (f.take k)).length ((normL (f.take k)).flatMap tkC) rfl (by exact World.ownsRow.alloc HO.out _) ⟨wr.heap.size, 0, none⟩ 1 (tkC ⟨xk, xt, xd⟩) rfl rfl (by exact cells_at _ _ rfl _ _) (tkC_one _) (by omega) (by decide) (by simp; omega) ?_); intro g cap w1 hown1 hg1 hbel1 hgr1)
        have hst := step_other (normL (f.take k)) ⟨xk, xt, xd⟩ H1.out
        refine ⟨⟨k + 1, by omega, by go_num, ?_, hbel1 _ _ (Nat.le_refl _) (by exact hb.alloc hsize _), fun h _ y hy => ?_⟩, by simp [intOf]; try omega⟩
        · rw [HT.out, hst]
          exact OwnE.snoc hown1
        · rw [HT.out, hst] at hy
          simp at hy
          rw [← hy]
          exact H1.out
    · obtain rfl : k = f.length := by omega
      have he := HO.out
      rw [List.take_length] at he hol ⊢
      have HE := Lib.hid he
      have e0 : decide ((f.length : Int) < (f.length : Int)) = false := by simp
      clear he HO
      go_wp2_with fail
      go_ret
      exact ⟨_, rfl, HE.out, hb⟩

set_option maxHeartbeats 1000000 in
theorem same3_yes (l : List Tk) (v u : Value) (w : World) (h1 : RdT w v l) (h2 : RdT w u l) (hl : l.length ≤ 1000000) :
    Calls Try.prog 28 #[v, u] w (QuietRet w (.bool true)) := by
  obtain ⟨A, c, rfl, _, _⟩ := h1.shape
  obtain ⟨A2, c2, rfl, _, _⟩ := h2.shape
  have H1 := Lib.hid h1
  have H2 := Lib.hid h2
  clear h1 h2
  go_enter Try.func28, Try.ntmps28
  go_wp2_with fail
  go_loopw [13] (fun i wr => ∃ k nq : Nat, k ≤ l.length ∧ i = .int .i64 k ∧ wr = w.drewN nq) (fun i _ => l.length - (intOf i).toNat)
  case atStart => exact ⟨0, 0, by omega, rfl, rfl⟩
  case round =>
    obtain ⟨k, nq, hk, rfl, rfl⟩ := hrel
    by_cases hkl : k < l.length
    · obtain ⟨b, o, rfl, hbl, q1, q2, q3⟩ := RdT.at_ H1.out k hkl
      obtain ⟨b2, o2, rfl, hbl2, r1, r2, r3⟩ := RdT.at_ H2.out k hkl
      generalize l[k] = x at q1 q2 q3 r1 r2 r3
      obtain ⟨xk, xt, xd⟩ := x
      simp only at q1 q2 q3 r1 r2 r3
      go_wp2_with fail
      go_quiet (fail)
      go_wp2_with fail
      exact ⟨⟨k + 1, _, by omega, by go_num, rfl⟩, by simp [intOf]; try omega⟩
    · obtain rfl : k = l.length := by omega
      go_wp2_with fail
      go_ret
      exact ⟨rfl, nq, rfl⟩

end Go.Proofs.Ytfkjlaepknhicaa
