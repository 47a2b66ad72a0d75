/-
  The walk of the law TokenShapes.
-/
import Derived.Test.YtfkjlaepknhicaaLaw11A
import Derived.Test.YtfkjlaepknhicaaMathShape
namespace Go.Proofs.Ytfkjlaepknhicaa
open Go.RowKit

theorem kindC_eq (c : UInt8) : kindC c = kindI (c.toNat : Int) := by
  unfold kindC
  by_cases h4 : clsN (c.toNat : Int) = 4
  · rw [if_pos h4]; exact ((kindI_6 _).2 h4).symm
  · rw [if_neg h4]
    by_cases h3 : clsN (c.toNat : Int) = 3
    · rw [if_pos h3]; exact ((kindI_7 _).2 h3).symm
    · rw [if_neg h3]
      by_cases h2 : clsN (c.toNat : Int) = 2
      · rw [if_pos h2]; exact ((kindI_8 _).2 h2).symm
      · rw [if_neg h2]
        rcases kindI_set (c.toNat : Int) with h | h | h | h
        · exact absurd ((kindI_6 _).1 h) h4
        · exact absurd ((kindI_7 _).1 h) h3
        · exact absurd ((kindI_8 _).1 h) h2
        · exact h.symm

/-- What the statement asks of one token, over its bytes. -/
theorem tok_facts (k : Int) (t : List UInt8) (h : TokOK k t) : ∃ tb : ByteArray, tb = ⟨t.toArray⟩ ∧ 0 < tb.size ∧ (∀ h : 0 < tb.size, kindI ((tb[0]'h).toNat : Int) = k) ∧ (k = 9 → tb.size = 1) ∧
    (k = 6 ∨ k = 7 ∨ k = 8 ∨ k = 9) ∧ ∀ i (h : i < tb.size), (kindI ((tb[i]'h).toNat : Int) = 8 → k = 8) ∧ (k = 7 → kindI ((tb[i]'h).toNat : Int) ≠ 6) := by
  obtain ⟨⟨c, r, ht, hc⟩, h9, hall⟩ := h
  subst ht
  refine ⟨_, rfl, ?_, fun _ => ?_, fun hk => ?_, ?_, fun i hi => ?_⟩
  · show 0 < (c :: r).toArray.size; simp
  · rw [← kindC_eq]; exact hc
  · show (c :: r).toArray.size = 1
    have := h9 hk
    simpa using this
  · rw [← hc, kindC_eq]; exact kindI_set _
  · rw [← kindC_eq]
    refine hall _ ?_
    have hil : i < (c :: r).length := by
      have : (ByteArray.mk (c :: r).toArray).size = (c :: r).length := by show (c :: r).toArray.size = _; simp
      omega
    show (c :: r)[i] ∈ c :: r
    exact List.getElem_mem hil

set_option maxRecDepth 100000 in
set_option maxHeartbeats 8000000 in
theorem walk_TokenShapes (s : ByteArray) (w : World) (hs : s.size ≤ maxLen) :
    Calls Try.prog 4 #[.string s] w fun e w' => e = .returned (.bool true) ∧ Below w.heap.size w w' := by
  unfold maxLen at hs
  by_cases h1 : 300 < s.size
  · go_enter Try.func4, Try.ntmps4
    go_wp2_with (go_at_call 11; refine (known_any _).mono ?_; rintro e w' ⟨rfl, hb'⟩)
    go_ret
    exact ⟨rfl, hb'⟩
  have ct := fun (v : Value) (w : World) (h : RdT w v [⟨1, s, 0⟩]) => tokens_any [⟨1, s, 0⟩] v w h (by simp) (by simp [bytesOf]; omega)
  have htk : tokensL [⟨1, s, 0⟩] = (cutL s.data.toList).map tkOf := by
    have : tokensL [⟨1, s, 0⟩] = (cutL s.data.toList).map tkOf ++ [] := rfl
    rw [this, List.append_nil]
  have hsh := cut_shape _ s.data.toList 0 (Nat.le_refl _) (fun h => absurd h (by decide))
  have hfl := cut_flat _ s.data.toList (Nat.le_refl _)
  have hcl := cutL_length _ s.data.toList (Nat.le_refl _)
  rw [← Lib.size_eq] at hcl
  rw [htk] at ct
  generalize cutL s.data.toList = C at ct hsh hfl hcl
  have CT := Lib.hid ct
  have HS0 := Lib.hid hsh
  have HF0 := Lib.hid hfl
  have HZ := Lib.hid (Lib.size_eq s)
  clear ct htk hsh hfl
  go_enter Try.func4, Try.ntmps4
  go_wp2_with fail
  refine (CT.out _ _ (by exact RdT.one w ⟨1, s, 0⟩ _)).mono ?_
  rintro e w1 ⟨v, rfl, hown, hb1⟩
  have hz1 := hb1.size
  have hbw : Below w.heap.size w w1 := ((Below.refl _ _).alloc (Nat.le_refl _) _).trans (hb1.mono (by simp))
  have HR := Lib.hid (OwnE.rd tkC_three hown)
  obtain ⟨A, c, hv⟩ := own_shape hown
  subst hv
  have hmap : (C.map tkOf).length = C.length := List.length_map ..
  rw [hmap] at HR ⊢
  clear hown hmap CT hb1 hz1
  go_wp2_with fail
  go_loopw [3, 4, 19] (fun av lv i wr => ∃ (j : Nat) (all : ByteArray) (last : Int), j ≤ C.length ∧ i = .int .i64 j ∧ av = .string all ∧ lv = .int .i64 last ∧ Below w1.heap.size w1 wr ∧ all.size ≤ 300 ∧ Hid (ShapeOK last (C.drop j)) ∧
      Hid (all.data.toList ++ ((C.drop j).map (·.2)).flatten = s.data.toList)) (fun _ _ i _ => C.length - (intOf i).toNat)
  case atStart => exact ⟨0, ⟨#[]⟩, 0, by omega, rfl, rfl, rfl, Below.refl _ _, by show 0 ≤ 300; omega, HS0.out, HF0.out⟩
  case round =>
    obtain ⟨j, all, last, hj, rfl, rfl, rfl, hb, hall, HS, HF⟩ := hrel
    have hsize := hb.size
    by_cases hjl : j < C.length
    · obtain ⟨b, o, rfl, hbl, q1, q2, q3⟩ := RdT.at_ HR.out j (by rw [List.length_map]; exact hjl)
      rw [← hb.cell (p := ⟨b, o + j * 3, none⟩) hbl] at q1
      rw [← hb.cell (p := ⟨b, o + j * 3 + 1, none⟩) hbl] at q2
      rw [← hb.cell (p := ⟨b, o + j * 3 + 2, none⟩) hbl] at q3
      have hd := List.drop_eq_getElem_cons hjl
      have hsh := HS.out
      have hfl := HF.out
      rw [hd] at hsh hfl
      rw [List.getElem_map] at q1 q2 q3
      generalize C[j] = x at q1 q2 q3 hsh hfl
      obtain ⟨k, t⟩ := x
      obtain ⟨hok, hnb, hrest⟩ := hsh
      rw [List.map_cons, List.flatten_cons, ← List.append_assoc] at hfl
      have q1' : wr.cell? ⟨b, o + j * 3, none⟩ = some (.int .i64 k) := q1
      have q2' : wr.cell? ⟨b, o + j * 3 + 1, none⟩ = some (.string ⟨t.toArray⟩) := q2
      have q3' : wr.cell? ⟨b, o + j * 3 + 2, none⟩ = some (.int .i64 0) := q3
      clear q1 q2 q3 hd
      obtain ⟨tb, htb, t0, tk0, t9, tset, tall⟩ := tok_facts k t hok
      rw [← htb] at q2'
      have hfl2 : (all ++ tb).data.toList ++ ((C.drop (j + 1)).map (·.2)).flatten = s.data.toList := by rw [data_append, htb]; exact hfl
      have hsz2 : (all ++ tb).size ≤ 300 := by
        have h1 := congrArg List.length hfl2
        rw [List.length_append, ← Lib.size_eq, ← HZ.out] at h1
        omega
      have HF2 := Lib.hid hfl2
      have HS2 := Lib.hid hrest
      have HA := Lib.hid tall
      have hne : (tb.toList == []) = false := by
        rw [beq_eq_false_iff_ne, toList_eq_data]
        intro h
        have := Lib.size_eq tb
        rw [h] at this
        simp only [List.length_nil] at this
        omega
      have hne2 : tb.toList.isEmpty = false := by
        rw [List.isEmpty_eq_false_iff]
        simpa using hne
      have l255 : (tb[0]'t0).toNat < 256 := (tb[0]'t0).toNat_lt
      have tk1 := tk0 t0
      have hab : all.size + tb.size ≤ 300 := by rw [ByteArray.size_append] at hsz2; exact hsz2
      have hle8 : k = 8 → (last == 8) = false := fun h => by
        rw [beq_eq_false_iff_ne]
        exact fun h' => hnb ⟨h, h'⟩
      clear hfl2 hrest tall hfl hok tk0 hnb htb HF HS
      rcases tset with rfl | rfl | rfl | rfl
      · clear t9
        clear hle8
        go_wp2_with (go_at_call 16; refine (kind_any _ _ (by omega) (by omega)).mono ?_; rintro e w' ⟨rfl, rfl⟩)
        go_loop [8] (fun i => ∃ i' : Nat, i' ≤ tb.size ∧ i = .int .i64 i') (fun i => tb.size - (intOf i).toNat)
        case atStart => exact ⟨0, by omega, rfl⟩
        case round =>
          obtain ⟨i, hi', rfl⟩ := hrel
          by_cases hi : i < tb.size
          · have i255 : (tb[i]'hi).toNat < 256 := (tb[i]'hi).toNat_lt
            have e8 : (kindI (tb[i].toNat : Int) == 8) = false := by
              rw [beq_eq_false_iff_ne]
              exact fun h => absurd ((HA.out i hi).1 h) (by decide)
            go_wp2_with (go_at_call 16; refine (kind_any _ _ (by omega) (by omega)).mono ?_; rintro e w' ⟨rfl, rfl⟩)
            exact ⟨⟨i + 1, by omega, by go_num⟩, by simp [intOf]; try omega⟩
          · go_wp2_with fail
            exact ⟨⟨j + 1, all ++ tb, 6, by omega, by go_num, rfl, rfl, hb.alloc hsize _, hsz2, HS2.out, HF2.out⟩, by simp [intOf]; try omega⟩
      · clear t9
        clear hle8
        go_wp2_with (go_at_call 16; refine (kind_any _ _ (by omega) (by omega)).mono ?_; rintro e w' ⟨rfl, rfl⟩)
        go_loop [8] (fun i => ∃ i' : Nat, i' ≤ tb.size ∧ i = .int .i64 i') (fun i => tb.size - (intOf i).toNat)
        case atStart => exact ⟨0, by omega, rfl⟩
        case round =>
          obtain ⟨i, hi', rfl⟩ := hrel
          by_cases hi : i < tb.size
          · have i255 : (tb[i]'hi).toNat < 256 := (tb[i]'hi).toNat_lt
            have e8 : (kindI (tb[i].toNat : Int) == 8) = false := by
              rw [beq_eq_false_iff_ne]
              exact fun h => absurd ((HA.out i hi).1 h) (by decide)
            have e6 : (kindI (tb[i].toNat : Int) == 6) = false := by
              rw [beq_eq_false_iff_ne]
              exact (HA.out i hi).2 (by simp)
            go_wp2_with (go_at_call 16; refine (kind_any _ _ (by omega) (by omega)).mono ?_; rintro e w' ⟨rfl, rfl⟩)
            exact ⟨⟨i + 1, by omega, by go_num⟩, by simp [intOf]; try omega⟩
          · go_wp2_with fail
            exact ⟨⟨j + 1, all ++ tb, 7, by omega, by go_num, rfl, rfl, hb.alloc hsize _, hsz2, HS2.out, HF2.out⟩, by simp [intOf]; try omega⟩
      · clear t9
        have hl8 := hle8 rfl
        clear hle8
        go_wp2_with (go_at_call 16; refine (kind_any _ _ (by omega) (by omega)).mono ?_; rintro e w' ⟨rfl, rfl⟩)
        go_loop [8] (fun i => ∃ i' : Nat, i' ≤ tb.size ∧ i = .int .i64 i') (fun i => tb.size - (intOf i).toNat)
        case atStart => exact ⟨0, by omega, rfl⟩
        case round =>
          obtain ⟨i, hi', rfl⟩ := hrel
          by_cases hi : i < tb.size
          · have i255 : (tb[i]'hi).toNat < 256 := (tb[i]'hi).toNat_lt
            by_cases hk8 : kindI (tb[i].toNat : Int) = 8
            · have e8 : (kindI (tb[i].toNat : Int) == 8) = true := by rw [hk8]; rfl
              clear hk8
              go_wp2_with (go_at_call 16; refine (kind_any _ _ (by omega) (by omega)).mono ?_; rintro e w' ⟨rfl, rfl⟩)
              exact ⟨⟨i + 1, by omega, by go_num⟩, by simp [intOf]; try omega⟩
            · have e8 : (kindI (tb[i].toNat : Int) == 8) = false := by simpa using hk8
              clear hk8
              go_wp2_with (go_at_call 16; refine (kind_any _ _ (by omega) (by omega)).mono ?_; rintro e w' ⟨rfl, rfl⟩)
              exact ⟨⟨i + 1, by omega, by go_num⟩, by simp [intOf]; try omega⟩
          · go_wp2_with fail
            exact ⟨⟨j + 1, all ++ tb, 8, by omega, by go_num, rfl, rfl, hb.alloc hsize _, hsz2, HS2.out, HF2.out⟩, by simp [intOf]; try omega⟩
      · have ht9 : tb.size = 1 := t9 rfl
        have h19 : ((tb.size : Int) != 1) = false := by rw [ht9]; rfl
        have h19' : ((tb.size : Int) == 1) = true := by rw [ht9]; rfl
        clear ht9 t9 hle8
        go_wp2_with (go_at_call 16; refine (kind_any _ _ (by omega) (by omega)).mono ?_; rintro e w' ⟨rfl, rfl⟩)
        go_loop [8] (fun i => ∃ i' : Nat, i' ≤ tb.size ∧ i = .int .i64 i') (fun i => tb.size - (intOf i).toNat)
        case atStart => exact ⟨0, by omega, rfl⟩
        case round =>
          obtain ⟨i, hi', rfl⟩ := hrel
          by_cases hi : i < tb.size
          · have i255 : (tb[i]'hi).toNat < 256 := (tb[i]'hi).toNat_lt
            have e8 : (kindI (tb[i].toNat : Int) == 8) = false := by
              rw [beq_eq_false_iff_ne]
              exact fun h => absurd ((HA.out i hi).1 h) (by decide)
            go_wp2_with (go_at_call 16; refine (kind_any _ _ (by omega) (by omega)).mono ?_; rintro e w' ⟨rfl, rfl⟩)
            exact ⟨⟨i + 1, by omega, by go_num⟩, by simp [intOf]; try omega⟩
          · go_wp2_with fail
            exact ⟨⟨j + 1, all ++ tb, 9, by omega, by go_num, rfl, rfl, hb.alloc hsize _, hsz2, HS2.out, HF2.out⟩, by simp [intOf]; try omega⟩
    · obtain rfl : j = C.length := by omega
      have hfl := HF.out
      rw [List.drop_length, List.map_nil, List.flatten_nil, List.append_nil] at hfl
      have hall2 : all = s := bytes_ext hfl
      subst hall2
      go_wp2_with (go_at_call 11; refine (known_any _).mono ?_; rintro e w' ⟨rfl, hb'⟩)
      go_ret
      exact ⟨ret_bool (by simp), (hbw.trans (hb.mono hbw.size)).trans (hb'.mono (Nat.le_trans hbw.size hsize))⟩

end Go.Proofs.Ytfkjlaepknhicaa
