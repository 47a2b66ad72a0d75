
/-
  The map of tags: counts by kind and text; a map's entry read, made and stored.
-/
import Derived.Test.YteccphcophjhpaaMathSur
import Derived.Test.YteccphcophjhpaaOpenTok
import Derived.Maps.Own
import Derived.Maps.OwnOps
import Derived.Maps.Views
import Derived.Maps.RangeWalk
import Derived.WideKeyEntry
import Derived.DeepKeys5
namespace Go.Proofs.Yteccphcophjhpaa
open Go.RowKit Go.Maps
open Go.WideElems (Fit rd rg pl rd_val elemAt)

section
variable {H : Type} {P : Program} {w : World} {t k e : TypeId} {R : Value → Option (DataW H × List MemPlace)} {b n : Nat} {D : DataW H}
theorem ownsMap_same {w' : World} (h : w.ownsMap P k R b n D) (e : w'.heap[b]? = w.heap[b]?) : w'.ownsMap P k R b n D := by
  obtain ⟨es, clock, hb, F, hs, hD⟩ := h
  exact ⟨es, clock, e.trans hb, F, hs, hD⟩

/-- 'm[k]++' and the like: the entry is read or made, then stored. -/
theorem entry_law (K : WideMaps.KeyLaw P k) (ht : P.underlying t = some (.map k e)) {z : Value} (hz : ∀ u : World, (zeroValue e).run P u = .ok z u) (h : w.ownsMap P k R b n D) (hn : n < maxLen) {key : Value} {kl : Lit} (hkey : keyOf P k key = some kl)
    {zd : DataW H} {zp : List MemPlace} (hR : R z = some (zd, zp)) (hM : IsMap D) :
    ∃ (v0 : Value) (st : Nat) (w1 : World), (Instr.mapEntry t (.map (some b)) key).run P w = .ok (.tuple #[v0, goInt st]) w1 ∧ w.grownBy w1 (some b) ∧ w1.heap.size = w.heap.size ∧
      (∃ D1, w1.ownsMap P k R b (n + 1) D1 ∧ D1.atKey kl zd = D.atKey kl zd) ∧
      ∀ (val : Value) (d : DataW H) (ps : List MemPlace), R val = some (d, ps) → ∃ w2, (Instr.entryStore t (.map (some b)) (goInt st) val).run P w1 = .ok () w2 ∧ w2.ownsMap P k R b (n + 1) (D.put kl d) ∧ w.grownBy w2 (some b) ∧ w2.heap.size = w.heap.size := by
  have KK : Keyed P k := Keyed.of_law K
  obtain ⟨es, clock, hb, F, hs, hD⟩ := h
  have hown : w.ownsMap P k R b n D := ⟨es, clock, hb, F, hs, hD⟩
  obtain ⟨v0, st, es1, clock1, hrun, hv0, hst⟩ := WideElems.entry_then_store K ht hz hb F hkey
  have hg1 : w.grownBy (ChangeMaps.setBlock w b (.map es1 clock1)) (some b) := ⟨rfl, rfl, rfl, by simp [ChangeMaps.setBlock], fun i _ hi => ChangeMaps.heap_setBlock_other hb _ (fun e => hi (by rw [e]))⟩
  have hs1 : (ChangeMaps.setBlock w b (.map es1 clock1)).heap.size = w.heap.size := by simp [ChangeMaps.setBlock]
  refine ⟨v0, st, ChangeMaps.setBlock w b (.map es1 clock1), hrun, hg1, hs1, ?_, ?_⟩
  · rcases K.find w hkey es.toList F.keys with ⟨h1, h2⟩ | ⟨j, e0, h1, h2, h3⟩
    · -- the key is new
      have hme : (Instr.mapEntry t (.map (some b)) key).run P w = .ok (.tuple #[z, goInt clock]) (ChangeMaps.setBlock w b (.map (es.push ⟨key, z, clock⟩) (clock + 1))) := by
        simp [Instr.mapEntry, run_underlying ht, MapKept.run_getObj_map hb, K.check w false hkey, h1, hz, MapKept.run_setObj_map _ hb, Result.andThen, ChangeMaps.setBlock]
      have hmu : (Instr.mapUpdate t (.map (some b)) key z).run P w = .ok () (ChangeMaps.setBlock w b (.map (es.push ⟨key, z, clock⟩) (clock + 1))) := by
        simp [Instr.mapUpdate, run_underlying ht, MapKept.run_getObj_map hb, K.check w false hkey, h1, MapKept.run_setObj_map _ hb, Result.andThen, ChangeMaps.setBlock]
      rw [hrun] at hme
      injection hme with _ hw
      obtain ⟨w', hmu', hown', _⟩ := hown.update KK ht hn hkey hR
      rw [hmu] at hmu'
      injection hmu' with _ hw'
      rw [hw, hw']
      refine ⟨_, hown', ?_⟩
      rw [atKey_put_same hM (KK.key hkey)]
      obtain ⟨v, ps, hlk, hRv⟩ := hown.lookup KK ht (hz w) hR hkey
      have hlk' : (Instr.lookup t (.map (some b)) key false).run P w = .ok z w := by
        simp [Instr.lookup, run_underlying ht, MapKept.run_getObj_map hb, K.check w es.isEmpty hkey, h1, hz, Result.andThen]
      rw [hlk'] at hlk
      injection hlk with hv _
      rw [← hv, hR] at hRv
      injection hRv with hRv
      injection hRv
    · have hj : es[j]? = some e0 := by simpa using h2
      have hsame : es.modify j (fun e => { e with key := key }) = es := by
        apply Array.ext'
        rw [Array.toList_modify, ChangeMaps.modify_eq_set _ _ _ _ h2]
        have : ({ e0 with key := key } : MapEntry) = e0 := by rw [← h3]
        rw [this]
        exact WideElems.set_self _ _ _ h2
      have hme : (Instr.mapEntry t (.map (some b)) key).run P w = .ok (.tuple #[e0.val, goInt e0.born]) (ChangeMaps.setBlock w b (.map es clock)) := by
        simp [Instr.mapEntry, run_underlying ht, MapKept.run_getObj_map hb, K.check w false hkey, h1, hj, h3, K.stays w hkey, hsame, MapKept.run_setObj_map _ hb, Result.andThen, ChangeMaps.setBlock]
      rw [hrun] at hme
      injection hme with _ hw
      rw [hw]
      exact ⟨D, ⟨es, clock, ChangeMaps.heap_setBlock_same hb _, F, by omega, hD⟩, rfl⟩
  · intro val d ps hval
    obtain ⟨es', clock', hrs, hmu⟩ := hst (ChangeMaps.setBlock w b (.map es1 clock1)) val (ChangeMaps.heap_setBlock_same hb _)
    obtain ⟨w', hmu', hown', hg'⟩ := hown.update KK ht hn hkey hval
    rw [hmu] at hmu'
    injection hmu' with _ hw'
    have hb1 := ChangeMaps.heap_setBlock_same hb (.map es1 clock1)
    refine ⟨_, hrs, ?_, ?_, by simp [ChangeMaps.setBlock]⟩
    · refine ownsMap_same hown' ?_
      rw [← hw', ChangeMaps.heap_setBlock_same hb1, ChangeMaps.heap_setBlock_same hb]
    · exact ⟨rfl, rfl, rfl, by simp [ChangeMaps.setBlock], fun i hi hne => (ChangeMaps.heap_setBlock_other hb1 _ (fun e => hne (by rw [e]))).trans (ChangeMaps.heap_setBlock_other hb _ (fun e => hne (by rw [e])))⟩
end

/-! ### Tokens as keys -/
theorem laid_out : laidOutB Try.prog = true := by kernel_rfl
theorem tok_law : WideMaps.KeyLaw Try.prog 23 := deep_law_gate laid_out (of_decide_eq_true (by kernel_rfl)) (of_decide_eq_true (by kernel_rfl)) (by kernel_rfl) (by kernel_rfl)
theorem tok_keyed : Keyed Try.prog 23 := Keyed.of_law tok_law
theorem zero_int (w : World) : (zeroValue 3).run Try.prog w = .ok (.int .i64 0) w := by kernel_rfl

def keyV (x : Tk) : Value := .agg #[.int .i64 x.k, .string x.t, .int .i64 x.d]
def klOf (x : Tk) : Lit := .string (keyBytes [.int .i64 x.k, .string x.t.data.toList, .int .i64 x.d])
def KeyIn (x : Tk) : Prop := (Lit.int .i64 x.k).wf = true ∧ x.t.size ≤ maxLen ∧ (Lit.int .i64 x.d).wf = true
theorem key_tok {x : Tk} (h : KeyIn x) : keyOf Try.prog 23 (keyV x) = some (klOf x) := by
  obtain ⟨h1, h2, h3⟩ := h
  have hk : Try.prog.keyType 23 = true := by kernel_rfl
  have hc : Try.prog.cellsOf 23 = 3 := by kernel_rfl
  have c1 : Try.prog.cellsOf 3 = 1 := by kernel_rfl
  have c2 : Try.prog.cellsOf 9 = 1 := by kernel_rfl
  obtain ⟨m, hm⟩ : ∃ m, Try.prog.types.size = m + 1 := ⟨Try.prog.types.size - 1, by have : 0 < Try.prog.types.size := of_decide_eq_true (by kernel_rfl); omega⟩
  have hf : (keyV x).formed Try.prog 23 = true := by simp [keyV, Value.formed, Try.underlying23, hc]
  unfold keyOf
  rw [Try.underlying23]
  simp only [hk, hf, Bool.and_self, if_true]
  rw [hm]
  simp [Program.keyLits, Try.underlying23, hc, c1, c2, keyV, Value.cells, Try.underlying3, Try.underlying9, h1, h2, h3, klOf]
theorem klOf_inj {x y : Tk} (hx : KeyIn x) (hy : KeyIn y) (h : klOf x = klOf y) : x = y := by
  have h1 := key_tok hx
  rw [h] at h1
  have := tok_keyed.inj h1 (key_tok hy)
  unfold keyV at this
  injection this with this
  have h2 : [Value.int .i64 x.k, .string x.t, .int .i64 x.d] = [Value.int .i64 y.k, .string y.t, .int .i64 y.d] := congrArg Array.toList this
  injection h2 with e1 h2
  injection h2 with e2 h2
  injection h2 with e3 _
  injection e1 with _ e1
  injection e2 with e2
  injection e3 with _ e3
  exact Tk.ext' e1 e2 e3

end Go.Proofs.Yteccphcophjhpaa
