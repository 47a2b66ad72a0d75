
/-
  One tag moved, left out, added: what it costs. Plain.
-/
import Derived.Test.YteccphcophjhpaaMathSur
namespace Go.Proofs.Yteccphcophjhpaa
open Go.RowKit

def insL (l : List Tk) (i : Nat) (t : Tk) : List Tk := l.take i ++ t :: l.drop i
def brT : Tk := ⟨4, ⟨#[98, 114]⟩, 7⟩
theorem insL_length (l : List Tk) (i : Nat) (t : Tk) (h : i ≤ l.length) : (insL l i t).length = l.length + 1 := by
  unfold insL
  rw [List.length_append, List.length_cons, List.length_take, List.length_drop]
  omega
theorem insL_mem {l : List Tk} {i : Nat} {t x : Tk} (h : x ∈ insL l i t) : x ∈ l ∨ x = t := by
  unfold insL at h
  rcases List.mem_append.1 h with h | h
  · exact .inl (List.mem_of_mem_take h)
  · rcases List.mem_cons.1 h with h | h
    · exact .inr h
    · exact .inl (List.mem_of_mem_drop h)
theorem sup_br : supI [brT] [] = 1 := by decide +kernel
theorem single_br : singleI brT = 1 := by decide +kernel
theorem weighty_br : 2 ≤ brT.k ∧ brT.k ≤ 9 := by decide
theorem sup_one (d : List Tk) : supI (brT :: d) d = 1 := by
  have h := supI_tails d [brT] []
  rw [sup_br] at h
  exact h
theorem ed_one (d : List Tk) (h : Weighty d) : ed (brT :: d) d = 1 := by
  have h1 := ed_grow brT d
  rw [single_br] at h1
  have h0 := ed_nonneg (brT :: d) d
  have hz := ed_zero (brT :: d) d (fun x hx => by
    rcases List.mem_cons.1 hx with rfl | hx
    · exact weighty_br
    · exact h x hx) h
  have hs : sameL (brT :: d) d = false := by
    unfold sameL
    have : ((brT :: d).length == d.length) = false := by simp
    rw [this]
    rfl
  rw [hs] at hz
  have : ed (brT :: d) d ≠ 0 := fun e => by cases hz.1 e
  omega
/-- What a tag more costs. -/
theorem dist_more (l : List Tk) (i : Nat) (h : Weighty l) : distI (insL l i brT) l = 3 := by
  have h1 : distI (insL l i brT) (l.take i ++ l.drop i) = distI (brT :: l.drop i) (l.drop i) := distI_heads _ _ _
  rw [List.take_append_drop] at h1
  rw [h1]
  unfold distI
  rw [ed_one _ (fun x hx => h x (List.mem_of_mem_drop hx)), sup_one]
  rfl
theorem cnt_ins (l : List Tk) (i : Nat) (t x : Tk) : cntI (insL l i t) x = cntI l x + cntI [t] x := by
  have e : insL l i t = l.take i ++ ([t] ++ l.drop i) := rfl
  have h2 : cntI (l.take i ++ l.drop i) x = cntI (l.take i) x + cntI (l.drop i) x := cntI_append _ _ _
  rw [List.take_append_drop] at h2
  rw [e, cntI_append, cntI_append, h2]
  omega
/-- What a moved tag costs. -/
theorem dist_moved (l : List Tk) (i k : Nat) (h : Weighty l) : distI (insL l i brT) (insL l k brT) ≤ 2 := by
  have hw : ∀ j, ed (insL l j brT) l = 1 := fun j => by
    have h1 : ed (insL l j brT) (l.take j ++ l.drop j) = ed (brT :: l.drop j) (l.drop j) := ed_heads _ _ _
    rw [List.take_append_drop] at h1
    rw [h1]
    exact ed_one _ (fun x hx => h x (List.mem_of_mem_drop hx))
  have ht := ed_tri (insL l i brT) l (insL l k brT)
  rw [hw i, ed_symm l, hw k] at ht
  have hs : supI (insL l i brT) (insL l k brT) = 0 := sumOn_zero fun x _ => by
    unfold difI absI
    rw [cnt_ins, cnt_ins]
    omega
  unfold distI
  rw [hs]
  omega
theorem dist_moved0 (l : List Tk) (i : Nat) : distI (insL l i brT) (insL l i brT) = 0 := distI_self _
theorem weighty_ins (l : List Tk) (i : Nat) (h : Weighty l) : Weighty (insL l i brT) := fun x hx => by
  rcases insL_mem hx with hx | rfl
  · exact h x hx
  · exact weighty_br
/-- The tokens that are no tags. -/
def noTags (l : List Tk) : List Tk := l.filter fun x => !isTagB x
theorem noTags_take (l : List Tk) (k : Nat) (h : k < l.length) : noTags (l.take (k + 1)) = noTags (l.take k) ++ if isTagB l[k] = true then [] else [l[k]] := by
  rw [List.take_succ_eq_append_getElem h]
  unfold noTags
  rw [List.filter_append]
  cases hb : isTagB l[k] <;> simp [hb]
theorem noTags_length (l : List Tk) : (noTags l).length ≤ l.length := List.length_filter_le _ _
theorem noTags_weighty {l : List Tk} (h : Weighty l) : Weighty (noTags l) := fun x hx => h x (List.mem_filter.1 hx).1

end Go.Proofs.Yteccphcophjhpaa
