
/-
  Contracts of the reference of package item (chapter 3): Normalize, Concat, Name.
-/
import Derived.Test.YteccphcophjhpaaTok
import Derived.Test.YteccphcophjhpaaMathNorm
import Derived.WalkSpells
namespace Go.Proofs.Yteccphcophjhpaa
open Go.RowKit

theorem OwnT.unsnoc {e : TypeId} {w : World} {B : Nat} {v : Value} {l : List Tk} {x : Tk} (h : OwnT e w B v (l ++ [x])) : ∃ g cap, v = .slice (some ⟨g, 0, none⟩) (l.length + 1) cap ∧ B ≤ g ∧
    w.ownsRow B e 3 (.slice (some ⟨g, 0, none⟩) (l.length + 1) cap) (l.length + 1) (l.flatMap tkC ++ tkC x) := by
  unfold OwnT OwnE at h
  rw [List.length_append, List.flatMap_append] at h
  obtain ⟨g, c, hv, hb⟩ := own_some h (by simp)
  subst hv
  exact ⟨g, c, rfl, hb, by simpa using h⟩
section
variable {e : TypeId} {w : World} {B g cap : Nat} {l : List Tk} {x : Tk}
theorem OwnT.lastCells (h : w.ownsRow B e 3 (.slice (some ⟨g, 0, none⟩) (l.length + 1) cap) (l.length + 1) (l.flatMap tkC ++ tkC x)) :
    w.cell? ⟨g, l.length * 3, none⟩ = some (.int .i64 x.k) ∧ w.cell? ⟨g, l.length * 3 + 1, none⟩ = some (.string x.t) ∧ w.cell? ⟨g, l.length * 3 + 2, none⟩ = some (.int .i64 x.d) := by
  have hl := flat_length tkC 3 tkC_three l
  refine ⟨?_, ?_, ?_⟩
  · rw [h.cellAt _ (by omega), List.getElem?_append_right (by omega), hl, Nat.sub_self]; rfl
  · rw [h.cellAt _ (by omega), List.getElem?_append_right (by omega), hl, Nat.add_sub_cancel_left]; rfl
  · rw [h.cellAt _ (by omega), List.getElem?_append_right (by omega), hl, Nat.add_sub_cancel_left]; rfl
/-- The last token replaced, cell by cell. -/
theorem OwnT.lastSet (h : w.ownsRow B e 3 (.slice (some ⟨g, 0, none⟩) (l.length + 1) cap) (l.length + 1) (l.flatMap tkC ++ tkC x)) (y : Tk) :
    OwnT e (((w.setCell ⟨g, l.length * 3, none⟩ (.int .i64 y.k)).setCell ⟨g, l.length * 3 + 1, none⟩ (.string y.t)).setCell ⟨g, l.length * 3 + 2, none⟩ (.int .i64 y.d)) B (.slice (some ⟨g, 0, none⟩) (l.length + 1) cap) (l ++ [y]) := by
  have hl := flat_length tkC 3 tkC_three l
  have h1 := (h.stored (l.length * 3) (.int .i64 y.k)).1
  have h2 := (h1.stored (l.length * 3 + 1) (.string y.t)).1
  have h3 := (h2.stored (l.length * 3 + 2) (.int .i64 y.d)).1
  refine OwnE.snoc ?_
  rw [List.set_append_right _ _ (by omega), hl, Nat.sub_self, List.set_append_right _ _ (by omega), hl, Nat.add_sub_cancel_left, List.set_append_right _ _ (by omega), hl, Nat.add_sub_cancel_left] at h3
  exact h3
end

set_option maxHeartbeats 4000000 in
theorem rnorm_any (f : List Tk) (v : Value) (w : World) (hf : RdT w v f) (hl : f.length ≤ 100000) (hbt : bytesOf f ≤ 1000000) :
    Calls Try.prog 57 #[v] w (RetOwn 58 tkC 3 w (normL f)) := by
  obtain ⟨A, c, rfl, _, _⟩ := hf.shape
  have HF := Lib.hid hf
  clear hf
  go_enter Try.func57, Try.ntmps57
  go_wp2
  go_loopw [3, 9] (fun ov i wr => ∃ k : Nat, k ≤ f.length ∧ i = .int .i64 k ∧ Hid (OwnT 58 wr w.heap.size ov (normL (f.take k))) ∧ Below w.heap.size w wr) (fun _ i _ => f.length - (intOf i).toNat)
  case atStart => exact ⟨0, by omega, rfl, OwnE.nil, Below.refl _ _⟩
  case round =>
    obtain ⟨k, hk, rfl, HO, hb⟩ := hrel
    have hsize := hb.size
    by_cases hkl : k < f.length
    · obtain ⟨b, o, rfl, hbl, q1, q2, q3⟩ := RdT.at_ HF.out k hkl
      rw [← hb.cell (p := ⟨b, o + k * 3, none⟩) hbl] at q1
      rw [← hb.cell (p := ⟨b, o + k * 3 + 1, none⟩) hbl] at q2
      rw [← hb.cell (p := ⟨b, o + k * 3 + 2, none⟩) hbl] at q3
      have HT := Lib.hid (normL_take f k hkl)
      have hol : (normL (f.take k)).length ≤ 100000 := by
        have := normL_length (f.take k)
        rw [List.length_take] at this
        omega
      have hob : bytesOf (normL (f.take k)) + f[k].t.size ≤ 1000000 := by
        rw [normL_bytes]
        have := bytesOf_get f k hkl
        omega
      generalize f[k] = x at q1 q2 q3 HT hob
      obtain ⟨xk, xt, xd⟩ := x
      simp only at q1 q2 q3 hob
      generalize normL (f.take k) = out at HO HT hol hob
      by_cases h1 : xk = 1
      · subst h1
        by_cases he : xt.size = 0
        · have hxe : xt = ⟨#[]⟩ := bytes_ext (List.eq_nil_of_length_eq_zero (by rw [← Lib.size_eq]; exact he))
          have HX := Lib.hid (step_empty out ⟨1, xt, xd⟩ rfl he)
          subst hxe
          obtain ⟨A', c', hv⟩ := own_shape HO.out
          subst hv
          go_wp2_with fail
          refine ⟨⟨k + 1, by omega, by go_num, ?_, hb.alloc hsize _⟩, by simp [intOf]; try omega⟩
          rw [HT.out, HX.out]
          exact World.ownsRow.alloc HO.out _
        · have hne : (xt.toList == []) = false := by
            rw [beq_eq_false_iff_ne, toList_eq_data]
            intro h
            apply he
            rw [Lib.size_eq, h]
            rfl
          have hne2 : xt.toList.isEmpty = false := by
            rw [List.isEmpty_eq_false_iff]
            simpa using hne
          rcases List.eq_nil_or_concat out with rfl | ⟨o2, y, rfl⟩
          · have HX := Lib.hid (step_first ⟨1, xt, xd⟩ rfl he)
            obtain ⟨A', c', hv⟩ := own_shape HO.out
            subst hv
            clear he
            go_wp2_with (at_builtin; go_must (refine wpList_app1 rfl (.tmp 53) (.tmp 57) 59 58 rfl Try.underlying59 _ 3 32 item_info rfl (by decide) w.heap.size _ 0 [] rfl (by exact World.ownsRow.alloc (World.ownsRow.alloc HO.out _) _) ⟨wr.heap.size + 1, 0, none⟩ 1 (tkC ⟨1, xt, 0⟩) rfl rfl (by exact cells_at _ _ (by simp) _ _) (tkC_one _) (by omega) (by decide) (by simp; omega) ?_); intro g cap w1 hown1 hg1 hbel1 hgr1)
            refine ⟨⟨k + 1, by omega, by go_num, ?_, hbel1 _ _ (Nat.le_refl _) (by exact (hb.alloc hsize _).alloc (by simp; omega) _)⟩, by simp [intOf]; try omega⟩
            rw [HT.out, HX.out]
            exact hown1
          · rw [List.concat_eq_append] at HO HT hol hob
            obtain ⟨yk, yt, yd⟩ := y
            obtain ⟨g, cap, hv, hg, hown⟩ := OwnT.unsnoc HO.out
            subst hv
            obtain ⟨p1, p2, p3⟩ := OwnT.lastCells hown
            have hol2 : o2.length + 1 ≤ 100000 := by simpa using hol
            have hgl : g < wr.heap.size := World.block_lt_of_cell? _ _ p1
            have p1' : ∀ ob, (wr.alloc ob).cell? ⟨g, o2.length * 3, none⟩ = some (.int .i64 yk) := fun ob => (World.cell?_alloc_lt _ _ _ hgl).trans p1
            by_cases hy : yk = 1
            · subst hy
              have HX := Lib.hid (step_join o2 ⟨1, yt, yd⟩ ⟨1, xt, xd⟩ rfl he rfl)
              have hyt : yt.size + xt.size ≤ 1000000 := by
                rw [bytesOf_append, bytesOf_one] at hob
                simp only at hob
                omega
              clear he hol hob
              go_wp2_with fail
              have s1 := (World.cell?_alloc_lt wr (.cells #[.int .i64 1, .string xt, .int .i64 xd] 58) ⟨g, o2.length * 3, none⟩ hgl).trans p1
              have s2 := (World.cell?_alloc_lt wr (.cells #[.int .i64 1, .string xt, .int .i64 xd] 58) ⟨g, o2.length * 3 + 1, none⟩ hgl).trans p2
              have s3 := (World.cell?_alloc_lt wr (.cells #[.int .i64 1, .string xt, .int .i64 xd] 58) ⟨g, o2.length * 3 + 2, none⟩ hgl).trans p3
              have z1 : (wr.alloc (.cells #[.int .i64 1, .string xt, .int .i64 xd] 58)).cell? ⟨wr.heap.size, 1, none⟩ = some (.string xt) := cells_at wr _ rfl [.int .i64 1, .string xt, .int .i64 xd] 58 1 _ rfl
              have hownW := World.ownsRow.alloc hown (.cells #[.int .i64 1, .string xt, .int .i64 xd] 58)
              have fz := fun j => hownW.frozenAt j
              have hbW := hb.alloc hsize (.cells #[.int .i64 1, .string xt, .int .i64 xd] 58)
              have HOW := Lib.hid hownW
              have HBW := Lib.hid hbW
              have hsW : (wr.alloc (.cells #[.int .i64 1, .string xt, .int .i64 xd] 58)).heap.size = wr.heap.size + 1 := by simp
              have HSW := Lib.hid hsW
              have ew : IntKind.i64.wrap ((o2.length : Int) + 1 - 1) = (o2.length : Int) := by rw [IntKind.wrap_i64]; omega
              clear p1 p2 p3 p1' hownW hbW hsW q1 q2 q3 hown HO
              generalize (wr.alloc (.cells #[.int .i64 1, .string xt, .int .i64 xd] 58)) = W1 at s1 s2 s3 z1 fz HOW HBW HSW ⊢
              go_region
              go_wp2_with fail
              refine ⟨⟨k + 1, by omega, by go_num, ?_, ?_⟩, by simp [intOf]; try omega⟩
              · rw [HT.out, HX.out]
                exact OwnT.lastSet HOW.out ⟨1, yt ++ xt, 0⟩
              · exact (((HBW.out.setCell (p := ⟨g, o2.length * 3, none⟩) hg _).setCell (p := ⟨g, o2.length * 3 + 1, none⟩) hg _).setCell (p := ⟨g, o2.length * 3 + 2, none⟩) hg _).drew
            · have HX := Lib.hid (step_new o2 ⟨yk, yt, yd⟩ ⟨1, xt, xd⟩ rfl he hy)
              have hyf : (yk == 1) = false := by simpa using hy
              have hol3 : (o2 ++ [⟨yk, yt, yd⟩] : List Tk).length = o2.length + 1 := by simp
              have HOW := Lib.hid hown
              clear he hy hob hol hown
              go_wp2_with (at_builtin; go_must (refine wpList_app1 rfl (.tmp 53) (.tmp 57) 59 58 rfl Try.underlying59 _ 3 32 item_info rfl (by decide) w.heap.size _ (o2.length + 1) (o2.flatMap tkC ++ tkC ⟨yk, yt, yd⟩) rfl (by exact World.ownsRow.alloc (World.ownsRow.alloc HOW.out _) _) ⟨wr.heap.size + 1, 0, none⟩ 1 (tkC ⟨1, xt, 0⟩) rfl rfl (by exact cells_at _ _ (by simp) _ _) (tkC_one _) (by omega) (by decide) (by simp; omega) ?_); intro g2 cap2 w1 hown1 hg3 hbel1 hgr1)
              refine ⟨⟨k + 1, by omega, by go_num, ?_, hbel1 _ _ (Nat.le_refl _) (by exact (hb.alloc hsize _).alloc (by simp; omega) _)⟩, by simp [intOf]; try omega⟩
              rw [HT.out, HX.out]
              refine OwnE.snoc ?_
              rw [hol3, List.flatMap_append]
              simpa using hown1
      · have HX := Lib.hid (step_other out ⟨xk, xt, xd⟩ h1)
        have hxf : (xk == 1) = false := by simpa using h1
        have hxn : (xk != 1) = true := by simpa using h1
        obtain ⟨A', c', hv⟩ := own_shape HO.out
        subst hv
        clear h1
        go_wp2_with (at_builtin; go_must (refine wpList_app1 rfl (.tmp 19) (.tmp 21) 59 58 rfl Try.underlying59 _ 3 32 item_info rfl (by decide) w.heap.size _ _ _ rfl (by exact World.ownsRow.alloc (World.ownsRow.alloc HO.out _) _) ⟨wr.heap.size + 1, 0, none⟩ 1 (tkC ⟨xk, xt, xd⟩) rfl rfl (by exact cells_at _ _ (by simp) _ _) (tkC_one _) (by omega) (by decide) (by simp; omega) ?_); intro g cap w1 hown1 hg1 hbel1 hgr1)
        refine ⟨⟨k + 1, by omega, by go_num, ?_, hbel1 _ _ (Nat.le_refl _) (by exact (hb.alloc hsize _).alloc (by simp; omega) _)⟩, by simp [intOf]; try omega⟩
        rw [HT.out, HX.out]
        exact OwnE.snoc hown1
    · obtain rfl : k = f.length := by omega
      obtain ⟨A', c', hv⟩ := own_shape HO.out
      subst hv
      go_wp2_with fail
      go_ret
      refine ⟨_, rfl, ?_, hb⟩
      have he := HO.out
      rw [List.take_length] at he ⊢
      exact he

theorem rconcat_any (f g : List Tk) (v u : Value) (w : World) (hf : RdT w v f) (hg : RdT w u g) (hl : f.length + g.length ≤ 100000) (hbt : bytesOf f + bytesOf g ≤ 1000000) :
    Calls Try.prog 49 #[v, u] w (RetOwn 58 tkC 3 w (normL (f ++ g))) := by
  obtain ⟨A, c, rfl, _, _⟩ := hf.shape
  obtain ⟨A2, c2, rfl, _, _⟩ := hg.shape
  have HF := Lib.hid hf
  have HG := Lib.hid hg
  clear hf hg
  go_enter Try.func49, Try.ntmps49
  go_wp2_with (first
    | (at_builtin; refine wpList_appE rfl (.const (.slice none 0 0)) (.tmp 5) 59 58 rfl Try.underlying59 _ tkC 3 32 item_info rfl (by decide) tkC_three tkC_one w.heap.size _ [] rfl (by exact OwnE.nil) _ f rfl (by exact HF.out) (by simp; omega) (by decide) (Nat.le_refl _) ?_; intro v1 w1 hown1 hbel1 hgr1; have HO1 := Lib.hid hown1; have HB1 := Lib.hid (hbel1 w.heap.size w (Nat.le_refl _) (Below.refl _ _)); have hz1 := HB1.out.size; clear hown1 hbel1 hgr1)
    | (at_builtin; refine wpList_appE rfl (.tmp 6) (.tmp 7) 59 58 rfl Try.underlying59 _ tkC 3 32 item_info rfl (by decide) tkC_three tkC_one w.heap.size _ f rfl (by exact HO1.out) _ g rfl (by exact RdE.below HG.out HB1.out (Nat.le_refl _)) (by omega) (by decide) hz1 ?_; intro v2 w2 hown2 hbel2 hgr2; have HO2 := Lib.hid hown2; have HB2 := Lib.hid (hbel2 w.heap.size w (Nat.le_refl _) HB1.out); have hz2 := HB2.out.size; clear hown2 hbel2 hgr2)
    | (go_at_call 57; refine (rnorm_any (f ++ g) _ _ (by exact OwnE.rd tkC_three HO2.out) (by rw [List.length_append]; exact hl) (by rw [bytesOf_append]; exact hbt)).mono ?_; rintro e w3 ⟨v3, rfl, hown3, hb3⟩))
  go_ret
  exact ⟨v3, rfl, own_base hown3 hz2, HB2.out.trans (hb3.mono hz2)⟩

/-- The name of the content of a tag. -/
def nameOf (l : List UInt8) : List UInt8 := l.takeWhile (fun c => c != 32)

theorem nameOf_sp (c : UInt8) (r : List UInt8) (h : c = 32) : nameOf (c :: r) = [] := by
  subst h
  rfl
theorem nameOf_in (c : UInt8) (r : List UInt8) (h : (c != 32) = true) : nameOf (c :: r) = c :: nameOf r := by
  rw [nameOf, List.takeWhile_cons, if_pos h]
  rfl

theorem name_any (s : ByteArray) (w : World) (hs : s.size ≤ 1000000) :
    Calls Try.prog 48 #[.string s] w fun e w' => e = .returned (.string ⟨(nameOf s.data.toList).toArray⟩) ∧ w = w' := by
  go_enter Try.func48, Try.ntmps48
  go_wp2
  go_loop [3] (fun i => ∃ k : Nat, k ≤ s.size ∧ i = .int .i64 k ∧ Hid (nameOf s.data.toList = s.data.toList.take k ++ nameOf (s.data.toList.drop k))) (fun i => s.size - (intOf i).toNat)
  case atStart => exact ⟨0, by omega, rfl, rfl⟩
  case round =>
    obtain ⟨k, hk, rfl, HR⟩ := hrel
    by_cases hlt : k < s.size
    · have hl : k < s.data.toList.length := by rw [← Lib.size_eq]; exact hlt
      have h255 : s[k].toNat < 256 := s[k].toNat_lt
      have HD := Lib.hid (show s.data.toList.drop k = s[k] :: s.data.toList.drop (k + 1) from List.drop_eq_getElem_cons hl)
      have HK := Lib.hid (show s.data.toList.take (k + 1) = s.data.toList.take k ++ [s[k]] from List.take_succ_eq_append_getElem hl)
      by_cases hc : s[k].toNat = 32
      · have ht : ((s[k].toNat : Int) == 32) = true := by simp; omega
        have h32 : s[k] = 32 := UInt8.toNat_inj.1 hc
        have H32 := Lib.hid h32
        clear hc h32
        go_wp2_with fail
        go_ret
        have hj := HR.out
        rw [HD.out, nameOf_sp _ _ H32.out, List.append_nil] at hj
        refine ⟨ret_val ?_, rfl⟩
        rw [hj]
        show Value.string (s.extract 0 k) = _
        rw [Lib.extract_eq, List.drop_zero, Nat.sub_zero]
      · have ht : ((s[k].toNat : Int) == 32) = false := by simp; omega
        have h32 : (s[k] != 32) = true := by
          rw [bne_iff_ne]
          intro h
          rw [h] at hc
          exact hc rfl
        have H32 := Lib.hid h32
        clear hc h32
        go_wp2_with fail
        refine ⟨⟨k + 1, by omega, by go_num, ?_⟩, by simp [intOf]; try omega⟩
        have hj := HR.out
        show _ = _
        rw [hj, HD.out, HK.out, List.append_assoc, nameOf_in _ _ H32.out]
        rfl
    · have hz : s.data.toList.drop k = [] := List.drop_of_length_le (by rw [← Lib.size_eq]; omega)
      have hz2 : s.data.toList.take k = s.data.toList := List.take_of_length_le (by rw [← Lib.size_eq]; omega)
      go_wp2_with fail
      go_ret
      have hj := HR.out
      rw [hz, hz2] at hj
      refine ⟨ret_val ?_, rfl⟩
      rw [hj]
      show Value.string s = .string ⟨(s.data.toList ++ []).toArray⟩
      rw [List.append_nil, Lib.mk_data]

end Go.Proofs.Yteccphcophjhpaa
