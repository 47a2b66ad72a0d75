
/-
  The tags that one list has more than the other: the walk of surplus of package distance.
-/
import Derived.Test.YteccphcophjhpaaSurA
import Derived.Test.YteccphcophjhpaaDistA
import Derived.BigRegion
import Derived.RegionTactic
namespace Go.Proofs.Yteccphcophjhpaa
open Go.RowKit Go.Maps

/-- Block b is a map of tags: at a key x it counts C x; its keys are among ks. -/
def SurMap (w : World) (b n : Nat) (ks : List Tk) (C : Tk → Int) : Prop :=
  ∃ D : DataW Unit, w.ownsMap Try.prog 23 (plainElem Try.prog 3) b n D ∧ IsMap D ∧ (∀ x, KeyIn x → D.atKey (klOf x) (.lit (.int .i64 0)) = .lit (.int .i64 (C x))) ∧ (∀ kl, Maps.has D kl = true → ∃ x ∈ ks, klOf x = kl) ∧ ∀ x ∈ ks, KeyIn x

theorem SurMap.same {w w' : World} {b n : Nat} {ks : List Tk} {C : Tk → Int} (h : SurMap w b n ks C) (e : w'.heap[b]? = w.heap[b]?) : SurMap w' b n ks C := by
  obtain ⟨D, h1, h2⟩ := h
  exact ⟨D, ownsMap_same h1 e, h2⟩
theorem SurMap.lt {w : World} {b n : Nat} {ks : List Tk} {C : Tk → Int} (h : SurMap w b n ks C) : b < w.heap.size := by
  obtain ⟨D, h1, _⟩ := h
  exact h1.lt
theorem SurMap.below {w w' : World} {b n : Nat} {ks : List Tk} {C : Tk → Int} (h : SurMap w b n ks C) (hb : Below w.heap.size w w') : SurMap w' b n ks C := h.same (hb.block b h.lt)
theorem SurMap.made (w : World) : SurMap (w.alloc (.map #[] 0)) w.heap.size 0 [] (fun _ => 0) :=
  ⟨_, World.ownsMap_made _ _ _ _, isMap_empty, fun x _ => rfl, fun kl h => by simp [Maps.has] at h, by simp⟩
theorem SurMap.congr {w : World} {b n : Nat} {ks : List Tk} {C C' : Tk → Int} (h : SurMap w b n ks C) (e : ∀ x, KeyIn x → C x = C' x) : SurMap w b n ks C' := by
  obtain ⟨D, h1, h2, h3, h4⟩ := h
  exact ⟨D, h1, h2, fun x hx => by rw [h3 x hx, e x hx], h4⟩

theorem SurMap.entry {w : World} {b n : Nat} {ks : List Tk} {C : Tk → Int} (h : SurMap w b n ks C) (hn : n < maxLen) (x : Tk) (hx : KeyIn x) (c' : Int) (hw : (Lit.int .i64 c').wf = true) :
    ∃ (v0 : Value) (st : Nat) (w1 w2 : World), (Instr.lookup 72 (.map (some b)) (keyV x) false).run Try.prog w = .ok (.int .i64 (C x)) w ∧
      (Instr.mapEntry 72 (.map (some b)) (keyV x)).run Try.prog w = .ok (.tuple #[v0, .int .i64 st]) w1 ∧ (Instr.lookup 72 (.map (some b)) (keyV x) false).run Try.prog w1 = .ok (.int .i64 (C x)) w1 ∧
      (Instr.entryStore 72 (.map (some b)) (.int .i64 st) (.int .i64 c')).run Try.prog w1 = .ok () w2 ∧ SurMap w2 b (n + 1) (ks ++ [x]) (fun y => if y = x then c' else C y) ∧ w.grownBy w2 (some b) ∧ w2.heap.size = w.heap.size := by
  obtain ⟨D, h1, h2, h3, h4, h5⟩ := h
  have hkey := key_tok hx
  have h0 : plainElem (H := Unit) Try.prog 3 (.int .i64 0) = some (.lit (.int .i64 0), []) := plainElem_int Try.underlying3 (by decide)
  obtain ⟨v0, st, w1, hme, hg1, hs1, ⟨D1, hD1, hat1⟩, hst⟩ := entry_law tok_law Try.underlying72 zero_int h1 hn hkey h0 h2
  obtain ⟨w2, hes, hD2, hg2, hs2⟩ := hst (.int .i64 c') _ _ (plainElem_int Try.underlying3 hw)
  obtain ⟨c, hlk, hat, _⟩ := h1.lookup_int tok_keyed Try.underlying72 Try.underlying3 (zero_int w) hkey
  obtain ⟨cc, hlk1, hat2, _⟩ := hD1.lookup_int tok_keyed Try.underlying72 Try.underlying3 (zero_int w1) hkey
  have e1 : c = C x := by
    rw [h3 x hx] at hat
    injection hat with hat
    injection hat with _ hat
    exact hat.symm
  have e2 : cc = C x := by
    rw [hat1, h3 x hx] at hat2
    injection hat2 with hat2
    injection hat2 with _ hat2
    exact hat2.symm
  subst e1
  rw [e2] at hlk1
  refine ⟨v0, st, w1, w2, hlk, hme, hlk1, hes, ⟨_, hD2, h2.put _ _, fun y hy => ?_, fun kl hkl => ?_, fun y hy => ?_⟩, hg2, hs2⟩
  · show (D.put (klOf x) (.lit (.int .i64 c'))).atKey (klOf y) (.lit (.int .i64 0)) = .lit (.int .i64 (if y = x then c' else C y))
    by_cases e : y = x
    · subst e
      rw [if_pos rfl, atKey_put_same h2 (tok_keyed.key hkey)]
    · rw [if_neg e, atKey_put_other (fun e' => e (klOf_inj hy hx e'))]
      exact h3 y hy
  · by_cases e : kl = klOf x
    · exact ⟨x, by simp, e.symm⟩
    · have : Maps.has D kl = true := by
        refine Classical.byContradiction fun hno => ?_
        have hno' : Maps.has D kl = false := by simpa using hno
        have hz : ∀ z, (D.put (klOf x) (.lit (.int .i64 c'))).atKey kl z = z := fun z => by rw [atKey_put_other e, atKey_of_not_has hno']
        have := has_false_of_atKey hz
        rw [this] at hkl
        cases hkl
      obtain ⟨y, hy, hk⟩ := h4 kl this
      exact ⟨y, by simp [hy], hk⟩
  · rcases List.mem_append.1 hy with hy | hy
    · exact h5 y hy
    · rw [List.mem_singleton.1 hy]; exact hx

/-- A token whose kind and text fit. -/
def TkD (x : Tk) : Prop := x.t.size ≤ maxLen ∧ (-9223372036854775808 ≤ x.k ∧ x.k ≤ 9223372036854775807)
theorem TkIn.toD {x : Tk} (h : TkIn x) : TkD x := ⟨h.1, h.2.1⟩
theorem kf_in {x : Tk} (h : TkD x) : KeyIn (kf x) := by
  obtain ⟨h1, h2⟩ := h
  refine ⟨?_, h1, by show (Lit.int .i64 0).wf = true; decide⟩
  show (Lit.int .i64 x.k).wf = true
  simp only [Lit.wf, Bool.and_eq_true, decide_eq_true_eq]
  exact h2
theorem keys_in {l : List Tk} (h : ∀ x ∈ l, TkD x) : ∀ x ∈ keysOf l, KeyIn x := by
  intro x hx
  obtain ⟨y, hy, _, rfl⟩ := keysOf_mem hx
  exact kf_in (h y hy)
theorem wf_small {n : Int} (h : -1000000 ≤ n ∧ n ≤ 1000000) : (Lit.int .i64 n).wf = true := by
  simp only [Lit.wf, Bool.and_eq_true, decide_eq_true_eq]
  exact ⟨by show -9223372036854775808 ≤ n; omega, by show n ≤ 9223372036854775807; omega⟩
theorem cnt_take (l : List Tk) (k : Nat) (h : k < l.length) (y : Tk) : cntI (l.take (k + 1)) y = cntI (l.take k) y + if isTagB l[k] = true ∧ kf l[k] = y then 1 else 0 := by
  rw [List.take_succ_eq_append_getElem h, cntI_append]
  congr 1
  unfold cntI
  rw [keysOf_one]
  by_cases ht : isTagB l[k] = true
  · rw [if_pos ht]
    by_cases e : kf l[k] = y
    · rw [if_pos ⟨ht, e⟩, e]; simp
    · rw [if_neg fun h => e h.2, List.count_eq_zero_of_not_mem (by simpa using fun h => e h.symm)]; rfl
  · rw [if_neg ht, if_neg fun h => ht h.1]; rfl
theorem cnt_bd (l : List Tk) (y : Tk) : 0 ≤ cntI l y ∧ cntI l y ≤ l.length := by
  refine ⟨cntI_nonneg _ _, ?_⟩
  have h1 := keysOf_length l
  have h2 := List.count_le_length (a := y) (l := keysOf l)
  unfold cntI
  omega

theorem sumOn_strike {u : List Tk} (hu : u.Nodup) (f : Tk → Int) (left : Lit → Bool) {x : Tk} (hx : x ∈ u) (hk : ∀ y ∈ u, KeyIn y) (hl : left (klOf x) = true) :
    sumOn u (fun y => if left (klOf y) = true then f y else 0) = f x + sumOn u (fun y => if (left (klOf y) && !(klOf y).sameKey (klOf x)) = true then f y else 0) := by
  rw [sumOn_erase _ hx, sumOn_erase (fun y => if (left (klOf y) && !(klOf y).sameKey (klOf x)) = true then f y else 0) hx, if_pos hl]
  have hs : (klOf x).sameKey (klOf x) = true := by simp [klOf, Lit.sameKey]
  rw [if_neg (by rw [hs]; simp)]
  have : sumOn (u.erase x) (fun y => if left (klOf y) = true then f y else 0) = sumOn (u.erase x) (fun y => if (left (klOf y) && !(klOf y).sameKey (klOf x)) = true then f y else 0) := by
    refine sumOn_congr fun y hy => ?_
    obtain ⟨hne, hyu⟩ := (List.Nodup.mem_erase_iff hu).1 hy
    have : (klOf y).sameKey (klOf x) = false := sameKey_ne fun e => hne (klOf_inj (hk y hyu) (hk x hx) e)
    rw [this]
    simp
  rw [this]
  omega

set_option maxHeartbeats 8000000 in
theorem surplus_any (a b : List Tk) (va vb : Value) (w : World) (ha : RdT w va a) (hb : RdT w vb b) (hla : a.length ≤ 100000) (hlb : b.length ≤ 100000) (hia : ∀ x ∈ a, TkD x) (hib : ∀ x ∈ b, TkD x) :
    Calls Try.prog 39 #[va, vb] w fun e w' => e = .returned (.int .i64 (2 * supI a b)) ∧ Below w.heap.size w w' := by
  obtain ⟨A, c, rfl, _, _⟩ := ha.shape
  obtain ⟨A2, c2, rfl, _, _⟩ := hb.shape
  have HA := Lib.hid ha
  have HB := Lib.hid hb
  have HIA := Lib.hid hia
  have HIB := Lib.hid hib
  have hmm := @run_makeMap Try.prog
  clear ha hb hia hib
  go_enter Try.func39, Try.ntmps39
  go_wp2_with fail
  go_loopw [16] (fun i wr => ∃ k : Nat, k ≤ a.length ∧ i = .int .i64 k ∧ SurMap wr w.heap.size k (keysOf (a.take k)) (cntI (a.take k)) ∧ Below w.heap.size w wr) (fun i _ => a.length - (intOf i).toNat)
  case atStart => exact ⟨0, by omega, rfl, SurMap.made w, (Below.refl _ _).alloc (Nat.le_refl _) _⟩
  case round =>
    obtain ⟨k, hk, rfl, hsm, hbw⟩ := hrel
    have hsz := hbw.size
    have hlt0 := hsm.lt
    by_cases hkl : k < a.length
    · obtain ⟨bb, o, rfl, hbl, q1, q2, q3⟩ := RdT.at_ HA.out k hkl
      rw [← hbw.cell (p := ⟨bb, o + k * 3, none⟩) hbl] at q1
      rw [← hbw.cell (p := ⟨bb, o + k * 3 + 1, none⟩) hbl] at q2
      rw [← hbw.cell (p := ⟨bb, o + k * 3 + 2, none⟩) hbl] at q3
      have hin := HIA.out a[k] (List.getElem_mem hkl)
      have HCT := Lib.hid (cnt_take a k hkl)
      have HKT := Lib.hid (keysOf_take a k hkl)
      have hcb := cnt_bd (a.take k) (kf a[k])
      have hlk : (a.take k).length = k := by rw [List.length_take]; omega
      rw [hlk] at hcb
      clear hlk
      generalize a[k] = x at q1 q2 q3 hin HCT HKT hcb
      obtain ⟨xk, xt, xd⟩ := x
      simp only at q1 q2 q3
      have HSM := Lib.hid (hsm.below ((Below.refl _ _).alloc (Nat.le_refl _) (.cells #[.int .i64 xk, .string xt, .int .i64 xd] 23)))
      have HIN := Lib.hid hin
      have HKO := Lib.hid (keysOf_one ⟨xk, xt, xd⟩)
      clear hin
      by_cases htag : isTagB ⟨xk, xt, xd⟩ = true
      · go_wp2_with fail
        refine (isTag_any xk xd xt _).mono ?_
        rintro e w1 ⟨rfl, hb1⟩
        have hbx : w1.heap[wr.heap.size]? = some (.cells #[.int .i64 xk, .string xt, .int .i64 xd] 23) := (hb1.block _ (by simp)).trans Array.getElem?_push_size
        obtain ⟨p0, p1, p2⟩ := tbox hbx
        have hS1 := HSM.out.below hb1
        have hB1 := (hbw.alloc hsz (.cells #[.int .i64 xk, .string xt, .int .i64 xd] 23)).trans (hb1.mono (by simp; omega))
        obtain ⟨v0, st, wa, wb, L0, E, L1, S, hS2, hg2, hz2⟩ := (hS1.same (w' := w1.drew) rfl).entry (by unfold maxLen; omega) (kf ⟨xk, xt, xd⟩) (kf_in HIN.out) (cntI (a.take k) (kf ⟨xk, xt, xd⟩) + 1) (wf_small (by omega))
        have HS2 := Lib.hid hS2
        have HG2 := Lib.hid hg2
        have HZ2 := Lib.hid hz2
        have HB1 := Lib.hid hB1
        have hzz := hB1.size
        have L0' : (Instr.lookup 72 (.map (some w.heap.size)) (.agg #[.int .i64 xk, .string xt, .int .i64 0]) false).run Try.prog w1.drew = .ok (.int .i64 (cntI (a.take k) (kf ⟨xk, xt, xd⟩))) w1.drew := L0
        have L1' : (Instr.lookup 72 (.map (some w.heap.size)) (.agg #[.int .i64 xk, .string xt, .int .i64 0]) false).run Try.prog wa = .ok (.int .i64 (cntI (a.take k) (kf ⟨xk, xt, xd⟩))) wa := L1
        have E' : (Instr.mapEntry 72 (.map (some w.heap.size)) (.agg #[.int .i64 xk, .string xt, .int .i64 0])).run Try.prog w1.drew = .ok (.tuple #[v0, .int .i64 st]) wa := E
        clear L0 L1 E hS2 hg2 hz2 hB1 hS1 hsm hbw
        generalize hcn : cntI (a.take k) (kf ⟨xk, xt, xd⟩) = cn at hcb L0' L1' S HS2
        have HCN := Lib.hid hcn
        clear hcn
        go_wp2_with fail
        go_region
        all_goals
          go_wp2_with fail
          have hfin : SurMap wb w.heap.size (k + 1) (keysOf (a.take (k + 1))) (fun y => cntI (a.take (k + 1)) (y)) := by
            rw [HKT.out, HKO.out, if_pos htag]
            refine (SurMap.congr (C' := fun y => cntI (a.take (k + 1)) (y)) HS2.out fun y _ => ?_) |> fun h => (by simpa only [List.append_assoc] using h)
            show (if y = kf ⟨xk, xt, xd⟩ then cn + 1 else cntI (a.take k) (y)) = cntI (a.take (k + 1)) (y)
            rw [HCT.out y]
            by_cases hy : kf ⟨xk, xt, xd⟩ = y
            · rw [if_pos hy.symm, if_pos ⟨htag, hy⟩, ← HCN.out, hy] <;> omega
            · rw [if_neg (fun e => hy e.symm), if_neg (fun e => hy e.2)]; omega
          exact ⟨⟨k + 1, by omega, by go_num, hfin, (below_drewN HB1.out 1).grown HG2.out hzz (fun j hj => by cases hj; exact Nat.le_refl _)⟩, by simp [intOf]; try omega⟩
      · have htag' : isTagB ⟨xk, xt, xd⟩ = false := by simpa using htag
        have HT := Lib.hid htag
        clear htag
        go_wp2_with fail
        refine (isTag_any xk xd xt _).mono ?_
        rintro e w1 ⟨rfl, hb1⟩
        have hS1 := Lib.hid (HSM.out.below hb1)
        have hB1 := Lib.hid ((hbw.alloc hsz (.cells #[.int .i64 xk, .string xt, .int .i64 xd] 23)).trans (hb1.mono (by simp; omega)))
        go_wp2_with fail
        have hfin : SurMap w1 w.heap.size (k + 1) (keysOf (a.take (k + 1))) (fun y => cntI (a.take (k + 1)) (y)) := by
          rw [HKT.out, HKO.out, if_neg HT.out]
          have h0 : SurMap w1 w.heap.size (k + 1) (keysOf (a.take k)) (fun y => cntI (a.take k) (y)) := by
            obtain ⟨D, d1, d2⟩ := hS1.out
            exact ⟨D, d1.mono (by omega), d2⟩
          refine (SurMap.congr (C' := fun y => cntI (a.take (k + 1)) (y)) h0 fun y _ => ?_) |> fun h => (by simpa only [List.append_nil] using h)
          show cntI (a.take k) (y) = cntI (a.take (k + 1)) (y)
          rw [HCT.out y, if_neg (fun e => HT.out e.1)]
          omega
        exact ⟨⟨k + 1, by omega, by go_num, hfin, hB1.out⟩, by simp [intOf]; try omega⟩
    · obtain rfl : k = a.length := by omega
      rw [List.take_length] at hsm
      have HSM0 := Lib.hid hsm
      have HBW0 := Lib.hid hbw
      clear hsm hbw
      go_wp2_with fail
      obtain ⟨wo, rfl⟩ : ∃ wo : World, wo = wr := ⟨_, rfl⟩
      go_loopw [35] (fun i wr => ∃ k : Nat, k ≤ b.length ∧ i = .int .i64 k ∧ SurMap wr w.heap.size (a.length + k) (keysOf a ++ keysOf (b.take k)) (fun y => cntI a y - cntI (b.take k) y) ∧ Below w.heap.size w wr) (fun i _ => b.length - (intOf i).toNat)
      case atStart =>
        refine ⟨0, by omega, rfl, ?_, HBW0.out⟩
        have h := HSM0.out.congr (C' := fun y => cntI a y - cntI [] y) (fun y _ => by show cntI a y = cntI a y - 0; omega)
        show SurMap wo w.heap.size (a.length + 0) (keysOf a ++ []) (fun y => cntI a y - cntI [] y)
        rw [List.append_nil]
        exact h
      case round =>
        obtain ⟨k, hk, rfl, hsm, hbw⟩ := hrel
        have hsz := hbw.size
        have hlt0 := hsm.lt
        by_cases hkl : k < b.length
        · obtain ⟨bb, o, rfl, hbl, q1, q2, q3⟩ := RdT.at_ HB.out k hkl
          rw [← hbw.cell (p := ⟨bb, o + k * 3, none⟩) hbl] at q1
          rw [← hbw.cell (p := ⟨bb, o + k * 3 + 1, none⟩) hbl] at q2
          rw [← hbw.cell (p := ⟨bb, o + k * 3 + 2, none⟩) hbl] at q3
          have hin := HIB.out b[k] (List.getElem_mem hkl)
          have HCT := Lib.hid (cnt_take b k hkl)
          have HKT := Lib.hid (keysOf_take b k hkl)
          have hcb0 := cnt_bd (b.take k) (kf b[k])
          have hcb1 := cnt_bd a (kf b[k])
          have hlk : (b.take k).length = k := by rw [List.length_take]; omega
          rw [hlk] at hcb0
          have hcb : -100000 ≤ cntI a (kf b[k]) - cntI (b.take k) (kf b[k]) ∧ cntI a (kf b[k]) - cntI (b.take k) (kf b[k]) ≤ 100000 := by omega
          clear hlk hcb0 hcb1
          generalize b[k] = x at q1 q2 q3 hin HCT HKT hcb
          obtain ⟨xk, xt, xd⟩ := x
          simp only at q1 q2 q3
          have HSM := Lib.hid (hsm.below ((Below.refl _ _).alloc (Nat.le_refl _) (.cells #[.int .i64 xk, .string xt, .int .i64 xd] 23)))
          have HIN := Lib.hid hin
          have HKO := Lib.hid (keysOf_one ⟨xk, xt, xd⟩)
          clear hin
          by_cases htag : isTagB ⟨xk, xt, xd⟩ = true
          · go_wp2_with fail
            refine (isTag_any xk xd xt _).mono ?_
            rintro e w1 ⟨rfl, hb1⟩
            have hbx : w1.heap[wr.heap.size]? = some (.cells #[.int .i64 xk, .string xt, .int .i64 xd] 23) := (hb1.block _ (by simp)).trans Array.getElem?_push_size
            obtain ⟨p0, p1, p2⟩ := tbox hbx
            have hS1 := HSM.out.below hb1
            have hB1 := (hbw.alloc hsz (.cells #[.int .i64 xk, .string xt, .int .i64 xd] 23)).trans (hb1.mono (by simp; omega))
            obtain ⟨v0, st, wa, wb, L0, E, L1, S, hS2, hg2, hz2⟩ := (hS1.same (w' := w1.drew) rfl).entry (by unfold maxLen; omega) (kf ⟨xk, xt, xd⟩) (kf_in HIN.out) (cntI a (kf ⟨xk, xt, xd⟩) - cntI (b.take k) (kf ⟨xk, xt, xd⟩) - 1) (wf_small (by omega))
            have HS2 := Lib.hid hS2
            have HG2 := Lib.hid hg2
            have HZ2 := Lib.hid hz2
            have HB1 := Lib.hid hB1
            have hzz := hB1.size
            have L0' : (Instr.lookup 72 (.map (some w.heap.size)) (.agg #[.int .i64 xk, .string xt, .int .i64 0]) false).run Try.prog w1.drew = .ok (.int .i64 (cntI a (kf ⟨xk, xt, xd⟩) - cntI (b.take k) (kf ⟨xk, xt, xd⟩))) w1.drew := L0
            have L1' : (Instr.lookup 72 (.map (some w.heap.size)) (.agg #[.int .i64 xk, .string xt, .int .i64 0]) false).run Try.prog wa = .ok (.int .i64 (cntI a (kf ⟨xk, xt, xd⟩) - cntI (b.take k) (kf ⟨xk, xt, xd⟩))) wa := L1
            have E' : (Instr.mapEntry 72 (.map (some w.heap.size)) (.agg #[.int .i64 xk, .string xt, .int .i64 0])).run Try.prog w1.drew = .ok (.tuple #[v0, .int .i64 st]) wa := E
            clear L0 L1 E hS2 hg2 hz2 hB1 hS1 hsm hbw
            generalize hcn : cntI a (kf ⟨xk, xt, xd⟩) - cntI (b.take k) (kf ⟨xk, xt, xd⟩) = cn at hcb L0' L1' S HS2
            have HCN := Lib.hid hcn
            clear hcn
            go_wp2_with fail
            go_region
            all_goals
              go_wp2_with fail
              have hfin : SurMap wb w.heap.size ((a.length + k) + 1) (keysOf a ++ keysOf (b.take (k + 1))) (fun y => cntI a (y) - cntI (b.take (k + 1)) (y)) := by
                rw [HKT.out, HKO.out, if_pos htag]
                refine (SurMap.congr (C' := fun y => cntI a (y) - cntI (b.take (k + 1)) (y)) HS2.out fun y _ => ?_) |> fun h => (by simpa only [List.append_assoc] using h)
                show (if y = kf ⟨xk, xt, xd⟩ then cn - 1 else cntI a (y) - cntI (b.take k) (y)) = cntI a (y) - cntI (b.take (k + 1)) (y)
                rw [HCT.out y]
                by_cases hy : kf ⟨xk, xt, xd⟩ = y
                · rw [if_pos hy.symm, if_pos ⟨htag, hy⟩, ← HCN.out, hy] <;> omega
                · rw [if_neg (fun e => hy e.symm), if_neg (fun e => hy e.2)]; omega
              exact ⟨⟨k + 1, by omega, by go_num, hfin, (below_drewN HB1.out 1).grown HG2.out hzz (fun j hj => by cases hj; exact Nat.le_refl _)⟩, by simp [intOf]; try omega⟩
          · have htag' : isTagB ⟨xk, xt, xd⟩ = false := by simpa using htag
            have HT := Lib.hid htag
            clear htag
            go_wp2_with fail
            refine (isTag_any xk xd xt _).mono ?_
            rintro e w1 ⟨rfl, hb1⟩
            have hS1 := Lib.hid (HSM.out.below hb1)
            have hB1 := Lib.hid ((hbw.alloc hsz (.cells #[.int .i64 xk, .string xt, .int .i64 xd] 23)).trans (hb1.mono (by simp; omega)))
            go_wp2_with fail
            have hfin : SurMap w1 w.heap.size ((a.length + k) + 1) (keysOf a ++ keysOf (b.take (k + 1))) (fun y => cntI a (y) - cntI (b.take (k + 1)) (y)) := by
              rw [HKT.out, HKO.out, if_neg HT.out]
              have h0 : SurMap w1 w.heap.size ((a.length + k) + 1) (keysOf a ++ keysOf (b.take k)) (fun y => cntI a (y) - cntI (b.take k) (y)) := by
                obtain ⟨D, d1, d2⟩ := hS1.out
                exact ⟨D, d1.mono (by omega), d2⟩
              refine (SurMap.congr (C' := fun y => cntI a (y) - cntI (b.take (k + 1)) (y)) h0 fun y _ => ?_) |> fun h => (by simpa only [List.append_nil] using h)
              show cntI a (y) - cntI (b.take k) (y) = cntI a (y) - cntI (b.take (k + 1)) (y)
              rw [HCT.out y, if_neg (fun e => HT.out e.1)]
              omega
            exact ⟨⟨k + 1, by omega, by go_num, hfin, hB1.out⟩, by simp [intOf]; try omega⟩
        · obtain rfl : k = b.length := by omega
          rw [List.take_length] at hsm
          obtain ⟨D, hown, hM, hat, hhas, hks⟩ := hsm
          have hnd := nodup_nub (keysOf a ++ keysOf b)
          have hmem : ∀ kl, Maps.has D kl = true → ∃ x ∈ nub (keysOf a ++ keysOf b), klOf x = kl := fun kl h => by
            obtain ⟨x, hx, e⟩ := hhas kl h
            exact ⟨x, (mem_nub _ _).2 hx, e⟩
          have hki : ∀ x ∈ nub (keysOf a ++ keysOf b), KeyIn x := fun x hx => hks x ((mem_nub _ _).1 hx)
          have htot : sumOn (nub (keysOf a ++ keysOf b)) (fun x => 2 * difI a b x) = 2 * supI a b := by rw [sumOn_mul]; rfl
          have hbd := supI_bound a b
          have hcz : ∀ x, x ∉ nub (keysOf a ++ keysOf b) → True := fun _ _ => trivial
          have HOWN := Lib.hid hown
          have HAT := Lib.hid hat
          have HBW := Lib.hid hbw
          have HND := Lib.hid hnd
          have HMEM := Lib.hid hmem
          have HKI := Lib.hid hki
          have hpos : ∀ left : Lit → Bool, 0 ≤ sumOn (nub (keysOf a ++ keysOf b)) (fun y => if left (klOf y) = true then 2 * difI a b y else 0) := fun left => sumOn_nonneg fun y _ => by
            have := difI_nonneg a b y
            split <;> omega
          have HPOS := Lib.hid hpos
          have hst : sumOn (nub (keysOf a ++ keysOf b)) (fun y => if Maps.has D (klOf y) = true then 2 * difI a b y else 0) = 2 * supI a b := by
            rw [← htot]
            refine sumOn_congr fun y hy => ?_
            by_cases h : Maps.has D (klOf y) = true
            · rw [if_pos h]
            · rw [if_neg h]
              have h1 := hat y (hki y hy)
              rw [atKey_of_not_has (by simpa using h)] at h1
              injection h1 with h1
              injection h1 with _ h1
              have h1' : 0 = cntI a y - cntI b y := h1
              unfold difI absI
              rw [← h1']
              rfl
          have HST := Lib.hid hst
          generalize htt : 2 * supI a b = tot at HST hbd
          generalize nub (keysOf a ++ keysOf b) = u at HND HMEM HKI HPOS HST
          clear hown hat hhas hks hnd hmem hki htot hcz hpos hst hbw hM
          have htot2 : 0 ≤ tot ∧ tot ≤ 400000 := by have := supI_nonneg a b; omega
          have HTT := Lib.hid htt
          clear htt hbd
          go_wp2_with (at_range; refine wpList_range_own _ rfl _ 72 rfl 23 3 tok_keyed Try.underlying72 _ w.heap.size _ D rfl HOWN.out ?_; intro w0 hrg0 hg0 hs0; have HRG0 := Lib.hid hrg0; have HG0 := Lib.hid (HBW.out.grown hg0 hsz (fun j hj => by cases hj)); clear hrg0 hg0 hs0)
          try go_frame
          obtain ⟨wq, rfl⟩ : ∃ wq : World, wq = wr := ⟨_, rfl⟩
          go_loopw [10] (fun sv wr => ∃ (left : Lit → Bool) (cnt : Nat) (S : Int), sv = .int .i64 S ∧ 0 ≤ S ∧ Hid (wr.ranges Try.prog 23 (plainElem Try.prog 3) w.heap.size wq.heap.size (a.length + b.length) D left cnt) ∧ Hid (Below w.heap.size w wr) ∧ Hid (S + sumOn u (fun y => if left (klOf y) = true then 2 * difI a b y else 0) = tot) ∧ Hid (∀ kl, left kl = true → ∃ x ∈ u, klOf x = kl)) (fun _ wr => wr.rangeLeft w.heap.size wq.heap.size)
          case atStart => exact ⟨_, _, 0, rfl, by decide, HRG0.out, HG0.out, by show 0 + _ = _; rw [HST.out]; omega, HMEM.out⟩
          case round =>
            obtain ⟨left, cnt, S, rfl, hS0, HRG, HBR, HSUM, HLEFT⟩ := hrel
            have hb0 := HPOS.out left
            have hsb : S ≤ 400000 := by have := HSUM.out; omega
            clear hb0
            go_wp2_with (at_next; refine wpList_next_ranges _ rfl _ rfl 23 tok_keyed (plainElem Try.prog 3) (fun v : Value => v) (fun z : Int => .int .i64 z) (fun key _ _ => ⟨key, rfl⟩) (fun v y h => by obtain ⟨z, rfl, _⟩ := plainElem_int_inv Try.underlying3 h; exact ⟨z, rfl⟩) w.heap.size wq.heap.size _ D left cnt rfl HRG.out ?_ ?_)
            · intro _ hl0
              have hz : sumOn u (fun y => if left (klOf y) = true then 2 * difI a b y else 0) = 0 := sumOn_zero fun y _ => by rw [hl0]; simp
              have HS := Lib.hid (show S = tot by have := HSUM.out; omega)
              clear hz
              go_wp2_with fail
              go_ret
              exact ⟨ret_int (HS.out.trans HTT.out.symm), HBR.out⟩
            · intro key z kl y1 y2 w1 cnt1 hkey hlk hR hatk hrg1 hlt hg1 hs1 hen
              obtain ⟨x, hxu, rfl⟩ := HLEFT.out kl hlk
              have hz : z = cntI a x - cntI b x := by
                have h1 := HAT.out x (HKI.out x hxu)
                rw [hatk] at h1
                obtain ⟨z', hz', hy, _⟩ := plainElem_int_inv Try.underlying3 hR
                injection hz' with _ hz'
                injection hy with hy _
                rw [hy] at h1
                injection h1 with h1
                injection h1 with _ h1
                rw [hz', h1]
              have hsk := sumOn_strike HND.out (fun y => 2 * difI a b y) left hxu HKI.out hlk
              have hdx : difI a b x = max z (-z) := by unfold difI absI; rw [hz]
              simp only [hdx] at hsk
              have hp2 := HPOS.out (fun z => left z && !z.sameKey (klOf x))
              have hzb : -100000 ≤ z ∧ z ≤ 100000 := by
                have h1 := cnt_bd a x
                have h2 := cnt_bd b x
                omega
              have HSK : Hid (S + 2 * max z (-z) + sumOn u (fun y => if (left (klOf y) && !(klOf y).sameKey (klOf x)) = true then 2 * difI a b y else 0) = tot) := by
                show S + 2 * max z (-z) + _ = tot
                have := HSUM.out
                omega
              have HRG1 := Lib.hid hrg1
              have HLT := Lib.hid hlt
              have HBR1 := Lib.hid (HBR.out.grown hg1 HBR.out.size (fun j hj => by cases hj; exact hsz))
              have HL1 : Hid (∀ kl, (fun z => left z && !z.sameKey (klOf x)) kl = true → ∃ x ∈ u, klOf x = kl) := fun kl h => HLEFT.out kl (by simp only [Bool.and_eq_true] at h; exact h.1)
              clear hkey hlk hR hatk hrg1 hlt hg1 hs1 hsk hdx hp2 hz
              go_wp2_with fail
              have hm : (if z < -z then -z else z) = max z (-z) := by split <;> omega
              rw [hm]
              refine ⟨⟨fun z => left z && !z.sameKey (klOf x), cnt1, S + 2 * max z (-z), rfl, by omega, HRG1.out, HBR1.out, HSK.out, HL1.out⟩, ?_⟩
              rw [HRG1.out.left_eq, HRG.out.left_eq]
              exact HLT.out

end Go.Proofs.Yteccphcophjhpaa
