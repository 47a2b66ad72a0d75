
/-
  The price of a script: the program's walk.
-/
import Derived.Test.YteccphcophjhpaaMathPrice
import Derived.Test.YteccphcophjhpaaMathEd
import Derived.Test.YteccphcophjhpaaDistB
namespace Go.Proofs.Yteccphcophjhpaa
open Go.RowKit

theorem prS_pair {a b : List Tk} {i k : Nat} {s : Int} {e : Ed} (hA : e.A = i) (hi : i < a.length) (hB : e.B = k) (hk : k < b.length) (hc : costOk a[i] b[k] = true) : prS a b ⟨i, k, s⟩ e = some ⟨i + 1, k + 1, s + costI a[i] b[k]⟩ := by
  unfold prS
  simp only
  rw [dif_pos ⟨hA, hi⟩, dif_pos ⟨hB, hk⟩, if_pos hc]
theorem prS_pairno {a b : List Tk} {i k : Nat} {s : Int} {e : Ed} (hA : e.A = i) (hi : i < a.length) (hB : e.B = k) (hk : k < b.length) (hc : costOk a[i] b[k] = false) : prS a b ⟨i, k, s⟩ e = none := by
  unfold prS
  simp only
  rw [dif_pos ⟨hA, hi⟩, dif_pos ⟨hB, hk⟩, if_neg (by rw [hc]; decide)]
theorem prS_del {a b : List Tk} {i k : Nat} {s : Int} {e : Ed} (hA : e.A = i) (hi : i < a.length) (hB : e.B = -1) : prS a b ⟨i, k, s⟩ e = some ⟨i + 1, k, s + singleI a[i]⟩ := by
  unfold prS
  simp only
  rw [dif_pos ⟨hA, hi⟩, dif_neg (by omega), if_pos hB]
theorem prS_ins {a b : List Tk} {i k : Nat} {s : Int} {e : Ed} (hA : e.A = -1) (hB : e.B = k) (hk : k < b.length) : prS a b ⟨i, k, s⟩ e = some ⟨i, k + 1, s + singleI b[k]⟩ := by
  unfold prS
  simp only
  rw [dif_neg (by omega), if_pos hA, dif_pos ⟨hB, hk⟩]
theorem prS_bad {a b : List Tk} {i k : Nat} {s : Int} {e : Ed} (h : ¬ ((e.A = i ∧ i < a.length) ∧ (e.B = k ∧ k < b.length)) ∧ ¬ ((e.A = i ∧ i < a.length) ∧ e.B = -1) ∧ ¬ (e.A = -1 ∧ (e.B = k ∧ k < b.length))) : prS a b ⟨i, k, s⟩ e = none := by
  obtain ⟨h1, h2, h3⟩ := h
  unfold prS
  simp only
  by_cases hA : e.A = i ∧ i < a.length
  · rw [dif_pos hA, dif_neg (fun e => h1 ⟨hA, e⟩), if_neg (fun e => h2 ⟨hA, e⟩)]
  · rw [dif_neg hA]
    by_cases hA' : e.A = -1
    · rw [if_pos hA', dif_neg (fun e => h3 ⟨hA', e⟩)]
    · rw [if_neg hA']
theorem prF_cons {a b : List Tk} {e : Ed} {l : List Ed} {q : PS} : prF a b (e :: l) q = (prS a b q e).bind (prF a b l) := rfl
/-- How a place of a script stands to a counter. -/
theorem ed_way (z : Int) (i n : Nat) : (z = i ∧ i < n) ∨ (z = -1) ∨ ((z = i ∧ ¬ i < n)) ∨ ((z == (i : Int)) = false ∧ (z == -1) = false ∧ (z != -1) = true ∧ z ≠ i ∧ z ≠ -1) := by
  by_cases h1 : z = i
  · by_cases h2 : i < n
    · exact .inl ⟨h1, h2⟩
    · exact .inr (.inr (.inl ⟨h1, h2⟩))
  · by_cases h2 : z = -1
    · exact .inr (.inl h2)
    · exact .inr (.inr (.inr ⟨by simpa using h1, by simpa using h2, by simpa using h2, h1, h2⟩))

set_option maxRecDepth 100000 in
set_option maxHeartbeats 16000000 in
theorem price_any (a b : List Tk) (l : List Ed) (va vb vl : Value) (w : World) (ha : RdT w va a) (hb : RdT w vb b) (hl : RdEd w vl l) (hla : a.length ≤ 100000) (hlb : b.length ≤ 100000) (hll : l.length ≤ 9223372036854775807) (hia : ∀ x ∈ a, TkD x) (hib : ∀ x ∈ b, TkD x) :
    Calls Try.prog 23 #[va, vb, vl] w fun e w' => e = .returned (.tuple #[.int .i64 ((priceO a b l).getD 0), .bool (priceO a b l).isSome]) ∧ Below w.heap.size w w' := by
  obtain ⟨A, c, rfl, _, _⟩ := ha.shape
  obtain ⟨A2, c2, rfl, _, _⟩ := hb.shape
  obtain ⟨A3, c3, rfl, _, _⟩ := hl.shape
  have HA := Lib.hid ha
  have HB := Lib.hid hb
  have HL := Lib.hid hl
  have HIA := Lib.hid hia
  have HIB := Lib.hid hib
  have HSU := Lib.hid (fun (w : World) (h1 : RdT w (.slice A a.length c) a) (h2 : RdT w (.slice A2 b.length c2) b) => surplus_any a b _ _ w h1 h2 hla hlb hia hib)
  have hs0 := supI_bound a b
  have hs1 := supI_nonneg a b
  have HP : Hid (priceO a b l = (prF a b (l.drop 0) ⟨0, 0, 0⟩).bind (prE a b)) := rfl
  generalize priceO a b l = tgt at HP
  clear ha hb hl hia hib
  go_enter Try.func23, Try.ntmps23
  go_wp2_with fail
  go_loopw [8, 9, 10, 19] (fun iv kv sv tv wr => ∃ (i k : Nat) (s : Int) (t : Nat), t ≤ l.length ∧ tv = .int .i64 t ∧ iv = .int .i64 i ∧ kv = .int .i64 k ∧ sv = .int .i64 s ∧ POk a b ⟨i, k, s⟩ ∧ Hid (Below w.heap.size w wr) ∧ Hid (tgt = (prF a b (l.drop t) ⟨i, k, s⟩).bind (prE a b))) (fun _ _ _ tv _ => l.length - (intOf tv).toNat)
  case atStart => exact ⟨0, 0, 0, 0, Nat.zero_le _, rfl, rfl, rfl, rfl, POk.start a b, Below.refl _ _, HP.out⟩
  case round =>
    clear HP
    obtain ⟨i, k, s, t, ht, rfl, rfl, rfl, rfl, hok, HBW, HT⟩ := hrel
    obtain ⟨hi0, hk0, hs2, hs3⟩ := hok
    simp only at hi0 hk0 hs2 hs3
    have hsz := HBW.out.size
    by_cases htl : t < l.length
    · have HDR : Hid (l.drop t = l[t] :: l.drop (t + 1)) := Lib.hid (List.drop_eq_getElem_cons htl)
      rw [HDR.out, prF_cons] at HT
      obtain ⟨b3, o3, rfl, hbl3, r1, r2⟩ := RdEd.at_ HL.out t htl
      rw [← HBW.out.cell (p := ⟨b3, o3 + t * 2, none⟩) hbl3] at r1
      rw [← HBW.out.cell (p := ⟨b3, o3 + t * 2 + 1, none⟩) hbl3] at r2
      generalize l[t] = ed at HT r1 r2
      obtain ⟨eA, eB⟩ := ed
      simp only at r1 r2
      have HBE := Lib.hid (HBW.out.alloc hsz (.cells #[.int .i64 eA, .int .i64 eB] 43))
      have hi1 : ((i : Int) == -1) = false := beq_eq_false_iff_ne.2 (by omega)
      have hk1 : ((k : Int) == -1) = false := beq_eq_false_iff_ne.2 (by omega)
      have hi2 : ((-1 : Int) == (i : Int)) = false := beq_eq_false_iff_ne.2 (by omega)
      have hk2 : ((-1 : Int) == (k : Int)) = false := beq_eq_false_iff_ne.2 (by omega)
      have hi3 : ((i : Int) != -1) = true := bne_iff_ne.2 (by omega)
      have hk3 : ((k : Int) != -1) = true := bne_iff_ne.2 (by omega)
      rcases ed_way eA i a.length with ⟨rfl, g1⟩ | rfl | ⟨rfl, g1⟩ | ⟨g1, g2, g5, g3, g4⟩ <;> rcases ed_way eB k b.length with ⟨rfl, j1⟩ | rfl | ⟨rfl, j1⟩ | ⟨j1, j2, j5, j3, j4⟩
      · obtain ⟨bb, ob, rfl, hbl, q1, q2, q3⟩ := RdT.at_ HA.out i g1
        rw [← HBE.out.cell (p := ⟨bb, ob + i * 3, none⟩) hbl] at q1
        rw [← HBE.out.cell (p := ⟨bb, ob + i * 3 + 1, none⟩) hbl] at q2
        rw [← HBE.out.cell (p := ⟨bb, ob + i * 3 + 2, none⟩) hbl] at q3
        have hxi := HIA.out a[i] (List.getElem_mem g1)
        have hsx := single_bd a[i]
        obtain ⟨b2, o2, rfl, hbl2, p1, p2, p3⟩ := RdT.at_ HB.out k j1
        rw [← HBE.out.cell (p := ⟨b2, o2 + k * 3, none⟩) hbl2] at p1
        rw [← HBE.out.cell (p := ⟨b2, o2 + k * 3 + 1, none⟩) hbl2] at p2
        rw [← HBE.out.cell (p := ⟨b2, o2 + k * 3 + 2, none⟩) hbl2] at p3
        have hyi := HIB.out b[k] (List.getElem_mem j1)
        have hsy := single_bd b[k]
        have HPO := Lib.hid (fun hc => prS_pair (a := a) (b := b) (s := s) (e := ⟨i, k⟩) rfl g1 rfl j1 hc)
        have HPN := Lib.hid (fun hc => prS_pairno (a := a) (b := b) (s := s) (e := ⟨i, k⟩) rfl g1 rfl j1 hc)
        generalize a[i] = x at q1 q2 q3 hxi hsx HPO HPN
        obtain ⟨xk, xt, xd⟩ := x
        have hxt : xt.size ≤ maxLen := hxi.1
        clear hxi
        simp only at q1 q2 q3
        generalize b[k] = y at p1 p2 p3 hyi hsy HPO HPN
        obtain ⟨yk, yt, yd⟩ := y
        have hyt : yt.size ≤ maxLen := hyi.1
        clear hyi
        simp only at p1 p2 p3
        have hcb := costV_bd ⟨xk, xt, xd⟩ ⟨yk, yt, yd⟩
        have hl0 : bb < (wr.alloc (.cells #[.int .i64 i, .int .i64 k] 43)).heap.size := by simp; omega
        have hl2 : b2 < (wr.alloc (.cells #[.int .i64 i, .int .i64 k] 43)).heap.size := by simp; omega
        have i1 : (i : Int) < (a.length : Int) := by omega
        have k1 : (k : Int) < (b.length : Int) := by omega
        have hzE := HBE.out.size
        by_cases hc : costOk ⟨xk, xt, xd⟩ ⟨yk, yt, yd⟩ = true
        · have HV := Lib.hid (costV_ok hc)
          have HT1 : Hid (tgt = (prF a b (l.drop (t + 1)) ⟨i + 1, k + 1, s + costV ⟨xk, xt, xd⟩ ⟨yk, yt, yd⟩⟩).bind (prE a b)) := by have h := HT.out; rw [HPO.out hc, ← HV.out] at h; exact h
          clear HT HPO HPN HV
          have u1 : IntKind.i64.wrap (s + costV ⟨xk, xt, xd⟩ ⟨yk, yt, yd⟩) = s + costV ⟨xk, xt, xd⟩ ⟨yk, yt, yd⟩ := by rw [IntKind.wrap_i64]; omega
          have e3 : IntKind.i64.wrap ((i : Int) + 1) = (i : Int) + 1 := by rw [IntKind.wrap_i64]; omega
          have f3 : IntKind.i64.wrap ((k : Int) + 1) = (k : Int) + 1 := by rw [IntKind.wrap_i64]; omega
          go_wp2_with fail
          generalize (wr.alloc (.cells #[.int .i64 i, .int .i64 k] 43)) = wq at HBE hl0 hl2 q1 q2 q3 p1 p2 p3 hzE
          have KP : Hid (∀ X X' : World, Below X.heap.size X X' → (X.cell? ⟨bb, ob + i * 3, none⟩ = some (.int .i64 xk) ∧ X.cell? ⟨bb, ob + i * 3 + 1, none⟩ = some (.string xt) ∧ X.cell? ⟨bb, ob + i * 3 + 2, none⟩ = some (.int .i64 xd) ∧ X.cell? ⟨b2, o2 + k * 3, none⟩ = some (.int .i64 yk) ∧ X.cell? ⟨b2, o2 + k * 3 + 1, none⟩ = some (.string yt) ∧ X.cell? ⟨b2, o2 + k * 3 + 2, none⟩ = some (.int .i64 yd) ∧ Hid (Below wq.heap.size wq X ∧ bb < wq.heap.size ∧ b2 < wq.heap.size)) → (X'.cell? ⟨bb, ob + i * 3, none⟩ = some (.int .i64 xk) ∧ X'.cell? ⟨bb, ob + i * 3 + 1, none⟩ = some (.string xt) ∧ X'.cell? ⟨bb, ob + i * 3 + 2, none⟩ = some (.int .i64 xd) ∧ X'.cell? ⟨b2, o2 + k * 3, none⟩ = some (.int .i64 yk) ∧ X'.cell? ⟨b2, o2 + k * 3 + 1, none⟩ = some (.string yt) ∧ X'.cell? ⟨b2, o2 + k * 3 + 2, none⟩ = some (.int .i64 yd) ∧ Hid (Below wq.heap.size wq X' ∧ bb < wq.heap.size ∧ b2 < wq.heap.size))) := by
            rintro X X' hb ⟨q0, q1, q2, q3, q4, q5, hH⟩
            obtain ⟨hB, l0, l1⟩ := hH.out
            have hsz := hB.size
            exact ⟨(hb.cell (p := ⟨bb, ob + i * 3, none⟩) (Nat.lt_of_lt_of_le l0 hsz)).trans q0, (hb.cell (p := ⟨bb, ob + i * 3 + 1, none⟩) (Nat.lt_of_lt_of_le l0 hsz)).trans q1, (hb.cell (p := ⟨bb, ob + i * 3 + 2, none⟩) (Nat.lt_of_lt_of_le l0 hsz)).trans q2, (hb.cell (p := ⟨b2, o2 + k * 3, none⟩) (Nat.lt_of_lt_of_le l1 hsz)).trans q3, (hb.cell (p := ⟨b2, o2 + k * 3 + 1, none⟩) (Nat.lt_of_lt_of_le l1 hsz)).trans q4, (hb.cell (p := ⟨b2, o2 + k * 3 + 2, none⟩) (Nat.lt_of_lt_of_le l1 hsz)).trans q5, ⟨hB.trans (hb.mono hsz), l0, l1⟩⟩
          have KD : Hid (∀ X : World, (X.cell? ⟨bb, ob + i * 3, none⟩ = some (.int .i64 xk) ∧ X.cell? ⟨bb, ob + i * 3 + 1, none⟩ = some (.string xt) ∧ X.cell? ⟨bb, ob + i * 3 + 2, none⟩ = some (.int .i64 xd) ∧ X.cell? ⟨b2, o2 + k * 3, none⟩ = some (.int .i64 yk) ∧ X.cell? ⟨b2, o2 + k * 3 + 1, none⟩ = some (.string yt) ∧ X.cell? ⟨b2, o2 + k * 3 + 2, none⟩ = some (.int .i64 yd) ∧ Hid (Below wq.heap.size wq X ∧ bb < wq.heap.size ∧ b2 < wq.heap.size)) → (X.drew.cell? ⟨bb, ob + i * 3, none⟩ = some (.int .i64 xk) ∧ X.drew.cell? ⟨bb, ob + i * 3 + 1, none⟩ = some (.string xt) ∧ X.drew.cell? ⟨bb, ob + i * 3 + 2, none⟩ = some (.int .i64 xd) ∧ X.drew.cell? ⟨b2, o2 + k * 3, none⟩ = some (.int .i64 yk) ∧ X.drew.cell? ⟨b2, o2 + k * 3 + 1, none⟩ = some (.string yt) ∧ X.drew.cell? ⟨b2, o2 + k * 3 + 2, none⟩ = some (.int .i64 yd) ∧ Hid (Below wq.heap.size wq X.drew ∧ bb < wq.heap.size ∧ b2 < wq.heap.size))) := by
            rintro X ⟨q0, q1, q2, q3, q4, q5, hH⟩
            exact ⟨q0, q1, q2, q3, q4, q5, ⟨below_drewN hH.out.1 1, hH.out.2⟩⟩
          have K0 : Hid (wq.cell? ⟨bb, ob + i * 3, none⟩ = some (.int .i64 xk) ∧ wq.cell? ⟨bb, ob + i * 3 + 1, none⟩ = some (.string xt) ∧ wq.cell? ⟨bb, ob + i * 3 + 2, none⟩ = some (.int .i64 xd) ∧ wq.cell? ⟨b2, o2 + k * 3, none⟩ = some (.int .i64 yk) ∧ wq.cell? ⟨b2, o2 + k * 3 + 1, none⟩ = some (.string yt) ∧ wq.cell? ⟨b2, o2 + k * 3 + 2, none⟩ = some (.int .i64 yd) ∧ Hid (Below wq.heap.size wq wq ∧ bb < wq.heap.size ∧ b2 < wq.heap.size)) := ⟨(q1), (q2), (q3), (p1), (p2), (p3), ⟨Below.refl _ _, (hl0), (hl2)⟩⟩
          go_region_held3 (fun w' => w'.cell? ⟨bb, ob + i * 3, none⟩ = some (.int .i64 xk) ∧ w'.cell? ⟨bb, ob + i * 3 + 1, none⟩ = some (.string xt) ∧ w'.cell? ⟨bb, ob + i * 3 + 2, none⟩ = some (.int .i64 xd) ∧ w'.cell? ⟨b2, o2 + k * 3, none⟩ = some (.int .i64 yk) ∧ w'.cell? ⟨b2, o2 + k * 3 + 1, none⟩ = some (.string yt) ∧ w'.cell? ⟨b2, o2 + k * 3 + 2, none⟩ = some (.int .i64 yd) ∧ Hid (Below wq.heap.size wq w' ∧ bb < wq.heap.size ∧ b2 < wq.heap.size))
            (first | exact K0.out | exact KD.out _ K0.out | assumption | exact KP.out _ _ hb' (KD.out _ K0.out) | (refine KP.out _ _ hb' ?_; with_reducible_and_instances assumption) | (refine KD.out _ ?_; with_reducible_and_instances assumption))
            (first
              | (go_at_call 15; refine (cost_any xk xd yk yd xt yt _ hxt hyt).mono ?_; rintro e w' ⟨rfl, hb'⟩))
          rename_i hh
          obtain ⟨t0, t1, t2, t3, t4, t5, tH⟩ := hh
          clear KP KD K0
          have HB1 := Lib.hid (HBE.out.trans (tH.out.1.mono hzE))
          clear t0 t1 t2 t3 t4 t5 tH
          go_wp2_with fail
          exact ⟨⟨i + 1, k + 1, s + costV ⟨xk, xt, xd⟩ ⟨yk, yt, yd⟩, t + 1, by omega, by go_num, by go_num, by go_num, rfl, ⟨by show i + 1 ≤ _; omega, by show k + 1 ≤ _; omega, by show 0 ≤ s + _; omega, by show s + _ ≤ 4 * (((i + 1 : Nat) : Int) + ((k + 1 : Nat) : Int)); omega⟩, HB1.out, HT1.out⟩, by simp [intOf]; try omega⟩
        · have hc' : costOk ⟨xk, xt, xd⟩ ⟨yk, yt, yd⟩ = false := by simpa using hc
          have HN : Hid (tgt = none) := by have h := HT.out; rw [HPN.out hc'] at h; exact h
          clear hc HT HPO HPN
          go_wp2_with fail
          generalize (wr.alloc (.cells #[.int .i64 i, .int .i64 k] 43)) = wq at HBE hl0 hl2 q1 q2 q3 p1 p2 p3 hzE
          have KP : Hid (∀ X X' : World, Below X.heap.size X X' → (X.cell? ⟨bb, ob + i * 3, none⟩ = some (.int .i64 xk) ∧ X.cell? ⟨bb, ob + i * 3 + 1, none⟩ = some (.string xt) ∧ X.cell? ⟨bb, ob + i * 3 + 2, none⟩ = some (.int .i64 xd) ∧ X.cell? ⟨b2, o2 + k * 3, none⟩ = some (.int .i64 yk) ∧ X.cell? ⟨b2, o2 + k * 3 + 1, none⟩ = some (.string yt) ∧ X.cell? ⟨b2, o2 + k * 3 + 2, none⟩ = some (.int .i64 yd) ∧ Hid (Below wq.heap.size wq X ∧ bb < wq.heap.size ∧ b2 < wq.heap.size)) → (X'.cell? ⟨bb, ob + i * 3, none⟩ = some (.int .i64 xk) ∧ X'.cell? ⟨bb, ob + i * 3 + 1, none⟩ = some (.string xt) ∧ X'.cell? ⟨bb, ob + i * 3 + 2, none⟩ = some (.int .i64 xd) ∧ X'.cell? ⟨b2, o2 + k * 3, none⟩ = some (.int .i64 yk) ∧ X'.cell? ⟨b2, o2 + k * 3 + 1, none⟩ = some (.string yt) ∧ X'.cell? ⟨b2, o2 + k * 3 + 2, none⟩ = some (.int .i64 yd) ∧ Hid (Below wq.heap.size wq X' ∧ bb < wq.heap.size ∧ b2 < wq.heap.size))) := by
            rintro X X' hb ⟨q0, q1, q2, q3, q4, q5, hH⟩
            obtain ⟨hB, l0, l1⟩ := hH.out
            have hsz := hB.size
            exact ⟨(hb.cell (p := ⟨bb, ob + i * 3, none⟩) (Nat.lt_of_lt_of_le l0 hsz)).trans q0, (hb.cell (p := ⟨bb, ob + i * 3 + 1, none⟩) (Nat.lt_of_lt_of_le l0 hsz)).trans q1, (hb.cell (p := ⟨bb, ob + i * 3 + 2, none⟩) (Nat.lt_of_lt_of_le l0 hsz)).trans q2, (hb.cell (p := ⟨b2, o2 + k * 3, none⟩) (Nat.lt_of_lt_of_le l1 hsz)).trans q3, (hb.cell (p := ⟨b2, o2 + k * 3 + 1, none⟩) (Nat.lt_of_lt_of_le l1 hsz)).trans q4, (hb.cell (p := ⟨b2, o2 + k * 3 + 2, none⟩) (Nat.lt_of_lt_of_le l1 hsz)).trans q5, ⟨hB.trans (hb.mono hsz), l0, l1⟩⟩
          have KD : Hid (∀ X : World, (X.cell? ⟨bb, ob + i * 3, none⟩ = some (.int .i64 xk) ∧ X.cell? ⟨bb, ob + i * 3 + 1, none⟩ = some (.string xt) ∧ X.cell? ⟨bb, ob + i * 3 + 2, none⟩ = some (.int .i64 xd) ∧ X.cell? ⟨b2, o2 + k * 3, none⟩ = some (.int .i64 yk) ∧ X.cell? ⟨b2, o2 + k * 3 + 1, none⟩ = some (.string yt) ∧ X.cell? ⟨b2, o2 + k * 3 + 2, none⟩ = some (.int .i64 yd) ∧ Hid (Below wq.heap.size wq X ∧ bb < wq.heap.size ∧ b2 < wq.heap.size)) → (X.drew.cell? ⟨bb, ob + i * 3, none⟩ = some (.int .i64 xk) ∧ X.drew.cell? ⟨bb, ob + i * 3 + 1, none⟩ = some (.string xt) ∧ X.drew.cell? ⟨bb, ob + i * 3 + 2, none⟩ = some (.int .i64 xd) ∧ X.drew.cell? ⟨b2, o2 + k * 3, none⟩ = some (.int .i64 yk) ∧ X.drew.cell? ⟨b2, o2 + k * 3 + 1, none⟩ = some (.string yt) ∧ X.drew.cell? ⟨b2, o2 + k * 3 + 2, none⟩ = some (.int .i64 yd) ∧ Hid (Below wq.heap.size wq X.drew ∧ bb < wq.heap.size ∧ b2 < wq.heap.size))) := by
            rintro X ⟨q0, q1, q2, q3, q4, q5, hH⟩
            exact ⟨q0, q1, q2, q3, q4, q5, ⟨below_drewN hH.out.1 1, hH.out.2⟩⟩
          have K0 : Hid (wq.cell? ⟨bb, ob + i * 3, none⟩ = some (.int .i64 xk) ∧ wq.cell? ⟨bb, ob + i * 3 + 1, none⟩ = some (.string xt) ∧ wq.cell? ⟨bb, ob + i * 3 + 2, none⟩ = some (.int .i64 xd) ∧ wq.cell? ⟨b2, o2 + k * 3, none⟩ = some (.int .i64 yk) ∧ wq.cell? ⟨b2, o2 + k * 3 + 1, none⟩ = some (.string yt) ∧ wq.cell? ⟨b2, o2 + k * 3 + 2, none⟩ = some (.int .i64 yd) ∧ Hid (Below wq.heap.size wq wq ∧ bb < wq.heap.size ∧ b2 < wq.heap.size)) := ⟨(q1), (q2), (q3), (p1), (p2), (p3), ⟨Below.refl _ _, (hl0), (hl2)⟩⟩
          go_region_held3 (fun w' => w'.cell? ⟨bb, ob + i * 3, none⟩ = some (.int .i64 xk) ∧ w'.cell? ⟨bb, ob + i * 3 + 1, none⟩ = some (.string xt) ∧ w'.cell? ⟨bb, ob + i * 3 + 2, none⟩ = some (.int .i64 xd) ∧ w'.cell? ⟨b2, o2 + k * 3, none⟩ = some (.int .i64 yk) ∧ w'.cell? ⟨b2, o2 + k * 3 + 1, none⟩ = some (.string yt) ∧ w'.cell? ⟨b2, o2 + k * 3 + 2, none⟩ = some (.int .i64 yd) ∧ Hid (Below wq.heap.size wq w' ∧ bb < wq.heap.size ∧ b2 < wq.heap.size))
            (first | exact K0.out | exact KD.out _ K0.out | assumption | exact KP.out _ _ hb' (KD.out _ K0.out) | (refine KP.out _ _ hb' ?_; with_reducible_and_instances assumption) | (refine KD.out _ ?_; with_reducible_and_instances assumption))
            (first
              | (go_at_call 15; refine (cost_any xk xd yk yd xt yt _ hxt hyt).mono ?_; rintro e w' ⟨rfl, hb'⟩))
          rename_i hh
          obtain ⟨t0, t1, t2, t3, t4, t5, tH⟩ := hh
          clear KP KD K0
          have HB1 := Lib.hid (HBE.out.trans (tH.out.1.mono hzE))
          clear t0 t1 t2 t3 t4 t5 tH
          go_wp2_with fail
          go_ret2
          exact ⟨by rw [HN.out]; rfl, HB1.out⟩
      · obtain ⟨bb, ob, rfl, hbl, q1, q2, q3⟩ := RdT.at_ HA.out i g1
        rw [← HBE.out.cell (p := ⟨bb, ob + i * 3, none⟩) hbl] at q1
        rw [← HBE.out.cell (p := ⟨bb, ob + i * 3 + 1, none⟩) hbl] at q2
        rw [← HBE.out.cell (p := ⟨bb, ob + i * 3 + 2, none⟩) hbl] at q3
        have hxi := HIA.out a[i] (List.getElem_mem g1)
        have hsx := single_bd a[i]
        have HPO := Lib.hid (prS_del (a := a) (b := b) (k := k) (s := s) (e := ⟨i, -1⟩) rfl g1 rfl)
        generalize a[i] = x at q1 q2 q3 hxi hsx HPO
        obtain ⟨xk, xt, xd⟩ := x
        have hxt : xt.size ≤ maxLen := hxi.1
        clear hxi
        simp only at q1 q2 q3
        have HT1 : Hid (tgt = (prF a b (l.drop (t + 1)) ⟨i + 1, k, s + singleI ⟨xk, xt, xd⟩⟩).bind (prE a b)) := by have h := HT.out; rw [HPO.out] at h; exact h
        clear HT HPO
        have i1 : (i : Int) < (a.length : Int) := by omega
        have hzE := HBE.out.size
        have u1 : IntKind.i64.wrap (s + singleI ⟨xk, xt, xd⟩) = s + singleI ⟨xk, xt, xd⟩ := by rw [IntKind.wrap_i64]; omega
        have e3 : IntKind.i64.wrap ((i : Int) + 1) = (i : Int) + 1 := by rw [IntKind.wrap_i64]; omega
        go_wp2_with fail
        refine (single_any xk xd xt _).mono ?_
        rintro e w1 ⟨rfl, hb1⟩
        have HB1 := Lib.hid (HBE.out.trans (hb1.mono hzE))
        clear hb1
        go_wp2_with fail
        exact ⟨⟨i + 1, k, s + singleI ⟨xk, xt, xd⟩, t + 1, by omega, by go_num, by go_num, by go_num, rfl, ⟨by show i + 1 ≤ _; omega, hk0, by show 0 ≤ s + _; omega, by show s + _ ≤ 4 * (((i + 1 : Nat) : Int) + (k : Int)); omega⟩, HB1.out, HT1.out⟩, by simp [intOf]; try omega⟩
      · have HN : Hid (tgt = none) := by have h := HT.out; rw [prS_bad (by refine ⟨?_, ?_, ?_⟩ <;> simp only <;> omega)] at h; exact h
        (try clear g3 g4)
        (try clear j3 j4)
        go_wp2_with fail
        go_ret2
        exact ⟨by rw [HN.out]; rfl, HBE.out⟩
      · have HN : Hid (tgt = none) := by have h := HT.out; rw [prS_bad (by refine ⟨?_, ?_, ?_⟩ <;> simp only <;> omega)] at h; exact h
        (try clear g3 g4)
        (try clear j3 j4)
        go_wp2_with fail
        go_ret2
        exact ⟨by rw [HN.out]; rfl, HBE.out⟩
      · obtain ⟨b2, o2, rfl, hbl2, p1, p2, p3⟩ := RdT.at_ HB.out k j1
        rw [← HBE.out.cell (p := ⟨b2, o2 + k * 3, none⟩) hbl2] at p1
        rw [← HBE.out.cell (p := ⟨b2, o2 + k * 3 + 1, none⟩) hbl2] at p2
        rw [← HBE.out.cell (p := ⟨b2, o2 + k * 3 + 2, none⟩) hbl2] at p3
        have hyi := HIB.out b[k] (List.getElem_mem j1)
        have hsy := single_bd b[k]
        have HPO := Lib.hid (prS_ins (a := a) (b := b) (i := i) (s := s) (e := ⟨-1, k⟩) rfl rfl j1)
        generalize b[k] = y at p1 p2 p3 hyi hsy HPO
        obtain ⟨yk, yt, yd⟩ := y
        have hyt : yt.size ≤ maxLen := hyi.1
        clear hyi
        simp only at p1 p2 p3
        have HT1 : Hid (tgt = (prF a b (l.drop (t + 1)) ⟨i, k + 1, s + singleI ⟨yk, yt, yd⟩⟩).bind (prE a b)) := by have h := HT.out; rw [HPO.out] at h; exact h
        clear HT HPO
        have k1 : (k : Int) < (b.length : Int) := by omega
        have hzE := HBE.out.size
        have u1 : IntKind.i64.wrap (s + singleI ⟨yk, yt, yd⟩) = s + singleI ⟨yk, yt, yd⟩ := by rw [IntKind.wrap_i64]; omega
        have f3 : IntKind.i64.wrap ((k : Int) + 1) = (k : Int) + 1 := by rw [IntKind.wrap_i64]; omega
        go_wp2_with fail
        refine (single_any yk yd yt _).mono ?_
        rintro e w1 ⟨rfl, hb1⟩
        have HB1 := Lib.hid (HBE.out.trans (hb1.mono hzE))
        clear hb1
        go_wp2_with fail
        exact ⟨⟨i, k + 1, s + singleI ⟨yk, yt, yd⟩, t + 1, by omega, by go_num, by go_num, by go_num, rfl, ⟨hi0, by show k + 1 ≤ _; omega, by show 0 ≤ s + _; omega, by show s + _ ≤ 4 * ((i : Int) + ((k + 1 : Nat) : Int)); omega⟩, HB1.out, HT1.out⟩, by simp [intOf]; try omega⟩
      · have HN : Hid (tgt = none) := by have h := HT.out; rw [prS_bad (by refine ⟨?_, ?_, ?_⟩ <;> simp only <;> omega)] at h; exact h
        (try clear g3 g4)
        (try clear j3 j4)
        go_wp2_with fail
        go_ret2
        exact ⟨by rw [HN.out]; rfl, HBE.out⟩
      · have HN : Hid (tgt = none) := by have h := HT.out; rw [prS_bad (by refine ⟨?_, ?_, ?_⟩ <;> simp only <;> omega)] at h; exact h
        (try clear g3 g4)
        (try clear j3 j4)
        go_wp2_with fail
        go_ret2
        exact ⟨by rw [HN.out]; rfl, HBE.out⟩
      · have HN : Hid (tgt = none) := by have h := HT.out; rw [prS_bad (by refine ⟨?_, ?_, ?_⟩ <;> simp only <;> omega)] at h; exact h
        (try clear g3 g4)
        (try clear j3 j4)
        go_wp2_with fail
        go_ret2
        exact ⟨by rw [HN.out]; rfl, HBE.out⟩
      · have HN : Hid (tgt = none) := by have h := HT.out; rw [prS_bad (by refine ⟨?_, ?_, ?_⟩ <;> simp only <;> omega)] at h; exact h
        (try clear g3 g4)
        (try clear j3 j4)
        go_wp2_with fail
        go_ret2
        exact ⟨by rw [HN.out]; rfl, HBE.out⟩
      · have HN : Hid (tgt = none) := by have h := HT.out; rw [prS_bad (by refine ⟨?_, ?_, ?_⟩ <;> simp only <;> omega)] at h; exact h
        (try clear g3 g4)
        (try clear j3 j4)
        go_wp2_with fail
        go_ret2
        exact ⟨by rw [HN.out]; rfl, HBE.out⟩
      · have HN : Hid (tgt = none) := by have h := HT.out; rw [prS_bad (by refine ⟨?_, ?_, ?_⟩ <;> simp only <;> omega)] at h; exact h
        (try clear g3 g4)
        (try clear j3 j4)
        go_wp2_with fail
        go_ret2
        exact ⟨by rw [HN.out]; rfl, HBE.out⟩
      · have HN : Hid (tgt = none) := by have h := HT.out; rw [prS_bad (by refine ⟨?_, ?_, ?_⟩ <;> simp only <;> omega)] at h; exact h
        (try clear g3 g4)
        (try clear j3 j4)
        go_wp2_with fail
        go_ret2
        exact ⟨by rw [HN.out]; rfl, HBE.out⟩
      · have HN : Hid (tgt = none) := by have h := HT.out; rw [prS_bad (by refine ⟨?_, ?_, ?_⟩ <;> simp only <;> omega)] at h; exact h
        (try clear g3 g4)
        (try clear j3 j4)
        go_wp2_with fail
        go_ret2
        exact ⟨by rw [HN.out]; rfl, HBE.out⟩
      · have HN : Hid (tgt = none) := by have h := HT.out; rw [prS_bad (by refine ⟨?_, ?_, ?_⟩ <;> simp only <;> omega)] at h; exact h
        (try clear g3 g4)
        (try clear j3 j4)
        go_wp2_with fail
        go_ret2
        exact ⟨by rw [HN.out]; rfl, HBE.out⟩
      · have HN : Hid (tgt = none) := by have h := HT.out; rw [prS_bad (by refine ⟨?_, ?_, ?_⟩ <;> simp only <;> omega)] at h; exact h
        (try clear g3 g4)
        (try clear j3 j4)
        go_wp2_with fail
        go_ret2
        exact ⟨by rw [HN.out]; rfl, HBE.out⟩
      · have HN : Hid (tgt = none) := by have h := HT.out; rw [prS_bad (by refine ⟨?_, ?_, ?_⟩ <;> simp only <;> omega)] at h; exact h
        (try clear g3 g4)
        (try clear j3 j4)
        go_wp2_with fail
        go_ret2
        exact ⟨by rw [HN.out]; rfl, HBE.out⟩
    · have htl' : l.length ≤ t := by omega
      have HE : Hid (tgt = prE a b ⟨i, k, s⟩) := by have h := HT.out; rw [List.drop_of_length_le htl'] at h; exact h
      have hte : ¬ (t : Int) < (l.length : Int) := by omega
      clear HT
      by_cases hab : i < a.length ∨ k < b.length
      · have HN : Hid (tgt = none) := by have h := HE.out; unfold prE at h; rw [if_neg (by simp only; omega)] at h; exact h
        rcases hab with hab | hab
        · go_wp2_with fail
          go_ret2
          exact ⟨by rw [HN.out]; rfl, HBW.out⟩
        · by_cases hia : i < a.length
          · go_wp2_with fail
            go_ret2
            exact ⟨by rw [HN.out]; rfl, HBW.out⟩
          · go_wp2_with fail
            go_ret2
            exact ⟨by rw [HN.out]; rfl, HBW.out⟩
      · have HN : Hid (tgt = some (s + 2 * supI a b)) := by have h := HE.out; unfold prE at h; rw [if_pos (by simp only; omega)] at h; exact h
        have hia : ¬ i < a.length := by omega
        have hkb : ¬ k < b.length := by omega
        have u1 : IntKind.i64.wrap (s + 2 * supI a b) = s + 2 * supI a b := by rw [IntKind.wrap_i64]; omega
        go_wp2_with fail
        refine (HSU.out _ (by exact RdE.below HA.out HBW.out (Nat.le_refl _)) (by exact RdE.below HB.out HBW.out (Nat.le_refl _))).mono ?_
        rintro e w1 ⟨rfl, hb1⟩
        have HB1 := Lib.hid (HBW.out.trans (hb1.mono hsz))
        clear hb1
        go_wp2_with fail
        go_ret2
        exact ⟨by rw [HN.out]; rfl, HB1.out⟩

end Go.Proofs.Yteccphcophjhpaa
