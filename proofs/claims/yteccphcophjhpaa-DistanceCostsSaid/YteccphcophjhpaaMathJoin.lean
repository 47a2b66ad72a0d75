
/-
  Joining tokens: plain functions and laws; no program in sight.
-/
import Derived.Test.YteccphcophjhpaaMathNorm
import Derived.Test.YteccphcophjhpaaMathShape
namespace Go.Proofs.Yteccphcophjhpaa
open Go.RowKit

/-- The items of a token. -/
def itemOf (x : Tk) : List Tk := if 6 ≤ x.k ∧ x.k ≤ 9 then [⟨1, x.t, 0⟩] else if 2 ≤ x.k ∧ x.k ≤ 5 then [x] else []
def itemsOf (l : List Tk) : List Tk := l.flatMap itemOf
theorem itemsOf_append (l m : List Tk) : itemsOf (l ++ m) = itemsOf l ++ itemsOf m := by simp [itemsOf]
theorem itemsOf_take (l : List Tk) (k : Nat) (h : k < l.length) : itemsOf (l.take (k + 1)) = itemsOf (l.take k) ++ itemOf l[k] := by
  rw [List.take_succ_eq_append_getElem h, itemsOf_append]
  simp [itemsOf]
theorem itemOf_text (x : Tk) (h1 : 6 ≤ x.k) (h2 : x.k ≤ 9) : itemOf x = [⟨1, x.t, 0⟩] := by rw [itemOf, if_pos ⟨h1, h2⟩]
theorem itemOf_item (x : Tk) (h1 : 2 ≤ x.k) (h2 : x.k ≤ 5) : itemOf x = [x] := by rw [itemOf, if_neg (by omega), if_pos ⟨h1, h2⟩]
theorem itemOf_none (x : Tk) (h1 : ¬ (2 ≤ x.k ∧ x.k ≤ 9)) : itemOf x = [] := by rw [itemOf, if_neg (by omega), if_neg (by omega)]
theorem itemOf_length (x : Tk) : (itemOf x).length ≤ 1 ∧ bytesOf (itemOf x) ≤ x.t.size := by
  unfold itemOf
  split
  · exact ⟨by simp, by rw [bytesOf_one]; exact Nat.le_refl _⟩
  · split
    · exact ⟨by simp, by rw [bytesOf_one]; exact Nat.le_refl _⟩
    · exact ⟨by simp, by simp [bytesOf]⟩
theorem itemsOf_length (l : List Tk) : (itemsOf l).length ≤ l.length ∧ bytesOf (itemsOf l) ≤ bytesOf l := by
  induction l with
  | nil => simp [itemsOf, bytesOf]
  | cons x l ih =>
    have h : itemsOf (x :: l) = itemOf x ++ itemsOf l := rfl
    have h1 := itemOf_length x
    rw [h, List.length_append, bytesOf_append, bytesOf_cons, List.length_cons]
    omega

def NoText (out : List Tk) : Prop := ∀ y, out.getLast? = some y → y.k ≠ 1
theorem empty_of_size {a : ByteArray} (h : a.size = 0) : a = ⟨#[]⟩ := by
  apply bytes_ext
  rw [Lib.size_eq] at h
  exact List.eq_nil_of_length_eq_zero h
theorem append_empty (a : ByteArray) : a ++ ⟨#[]⟩ = a := by apply bytes_ext; simp
theorem empty_append (a : ByteArray) : (⟨#[]⟩ : ByteArray) ++ a = a := by apply bytes_ext; simp
theorem append_assoc' (a b c : ByteArray) : a ++ b ++ c = a ++ (b ++ c) := by apply bytes_ext; simp

theorem step_noText (out : List Tk) (t : ByteArray) (d : Int) (h : NoText out) (h0 : t.size ≠ 0) : normStep out ⟨1, t, d⟩ = out ++ [⟨1, t, 0⟩] := by
  rcases List.eq_nil_or_concat out with rfl | ⟨o, y, rfl⟩
  · exact step_first ⟨1, t, d⟩ rfl h0
  · rw [List.concat_eq_append] at h ⊢
    exact step_new o y ⟨1, t, d⟩ rfl h0 (h y (by simp))
theorem step_none (out : List Tk) (t : ByteArray) (d : Int) (h0 : t.size = 0) : normStep out ⟨1, t, d⟩ = out := step_empty out ⟨1, t, d⟩ rfl h0

/-- Two texts one behind the other are one. -/
theorem step_assoc (out : List Tk) (a b : ByteArray) (d d' d'' : Int) : normStep (normStep out ⟨1, a, d⟩) ⟨1, b, d'⟩ = normStep out ⟨1, a ++ b, d''⟩ := by
  by_cases ha : a.size = 0
  · rw [step_none _ _ _ ha, empty_of_size ha, empty_append]
    by_cases hb : b.size = 0
    · rw [step_none _ _ _ hb, step_none _ _ _ hb]
    · rcases List.eq_nil_or_concat out with rfl | ⟨o, y, rfl⟩
      · rw [step_first ⟨1, b, d'⟩ rfl hb, step_first ⟨1, b, d''⟩ rfl hb]
      · by_cases hy : y.k = 1
        · rw [List.concat_eq_append, step_join o y ⟨1, b, d'⟩ rfl hb hy, step_join o y ⟨1, b, d''⟩ rfl hb hy]
        · rw [List.concat_eq_append, step_new o y ⟨1, b, d'⟩ rfl hb hy, step_new o y ⟨1, b, d''⟩ rfl hb hy]
  · have hab : (a ++ b).size ≠ 0 := by rw [ByteArray.size_append]; omega
    have key : ∀ o z, normStep (o ++ [⟨1, z, 0⟩]) ⟨1, b, d'⟩ = o ++ [⟨1, z ++ b, 0⟩] := by
      intro o z
      by_cases hb : b.size = 0
      · rw [step_none _ _ _ hb, empty_of_size hb, append_empty]
      · rw [step_join o ⟨1, z, 0⟩ ⟨1, b, d'⟩ rfl hb rfl]
    rcases List.eq_nil_or_concat out with rfl | ⟨o, y, rfl⟩
    · rw [step_first ⟨1, a, d⟩ rfl ha, step_first ⟨1, a ++ b, d''⟩ rfl hab]
      exact key [] a
    · rw [List.concat_eq_append]
      by_cases hy : y.k = 1
      · rw [step_join o y ⟨1, a, d⟩ rfl ha hy, step_join o y ⟨1, a ++ b, d''⟩ rfl hab hy, key, append_assoc']
      · rw [step_new o y ⟨1, a, d⟩ rfl ha hy, step_new o y ⟨1, a ++ b, d''⟩ rfl hab hy, key]

theorem pieces_step (ps : List (Int × List UInt8)) : ∀ (out : List Tk) (t : ByteArray), (ps.map fun p => (⟨1, ⟨p.2.toArray⟩, 0⟩ : Tk)).foldl normStep (normStep out ⟨1, t, 0⟩) = normStep out ⟨1, t ++ ⟨((ps.map (·.2)).flatten).toArray⟩, 0⟩ := by
  induction ps with
  | nil => intro out t; simp only [List.map_nil, List.foldl_nil, List.flatten_nil]; rw [append_empty]
  | cons p ps ih =>
    intro out t
    rw [List.map_cons, List.foldl_cons, step_assoc _ _ _ _ _ 0, ih]
    congr 2
    apply bytes_ext
    simp

theorem cut_kinds (n : Nat) : ∀ l : List UInt8, l.length ≤ n → ∀ p ∈ cutL l, 6 ≤ p.1 ∧ p.1 ≤ 9 := by
  induction n with
  | zero =>
    intro l h p hp
    have : l = [] := List.eq_nil_of_length_eq_zero (by omega)
    subst this
    simp [cutL_nil] at hp
  | succ n ih =>
    intro l h p hp
    by_cases hl : l = []
    · subst hl; simp [cutL_nil] at hp
    · rw [cutL_cons l hl] at hp
      rcases List.mem_cons.1 hp with rfl | hp
      · show 6 ≤ (nextL l).1 ∧ (nextL l).1 ≤ 9
        match l, hl with
        | c :: r, _ =>
          unfold nextL
          repeat' split
          all_goals (constructor <;> simp)
      · have hpos := nextL_pos l
        refine ih _ ?_ p hp
        rw [List.length_drop]
        have : 0 < l.length := List.length_pos_iff.2 hl
        omega

theorem itemsOf_cut (t : ByteArray) : itemsOf ((cutL t.data.toList).map tkOf) = (cutL t.data.toList).map fun p => (⟨1, ⟨p.2.toArray⟩, 0⟩ : Tk) := by
  have h := cut_kinds _ t.data.toList (Nat.le_refl _)
  generalize cutL t.data.toList = ps at h
  induction ps with
  | nil => rfl
  | cons p ps ih =>
    have h1 := h p (by simp)
    rw [List.map_cons, List.map_cons, ← ih (fun q hq => h q (by simp [hq]))]
    show itemOf (tkOf p) ++ _ = _
    rw [itemOf_text (tkOf p) h1.1 h1.2]
    rfl

theorem tok_step (out : List Tk) (x : Tk) (h : 1 ≤ x.k ∧ x.k ≤ 5) : (itemsOf (tok1 x)).foldl normStep out = normStep out x := by
  by_cases h1 : x.k = 1
  · obtain ⟨xk, xt, xd⟩ := x
    simp only at h1
    subst h1
    have ht : tok1 ⟨1, xt, xd⟩ = (cutL xt.data.toList).map tkOf := by rw [tok1, if_pos rfl]
    have hf := cut_flat _ xt.data.toList (Nat.le_refl _)
    rw [ht, itemsOf_cut]
    have e0 : out = normStep out ⟨1, ⟨#[]⟩, 0⟩ := (step_none out _ 0 rfl).symm
    have hp := pieces_step (cutL xt.data.toList) out ⟨#[]⟩
    rw [← e0] at hp
    rw [hp, hf, empty_append]
    by_cases hz : xt.size = 0
    · rw [step_none _ _ _ hz, step_none _ _ _ hz]
    · have := step_assoc out ⟨#[]⟩ xt 0 xd 0
      rw [← e0, empty_append] at this
      exact this.symm
  · have ht : tok1 x = [x] := by rw [tok1, if_neg h1, if_pos (by omega)]
    rw [ht]
    show (itemOf x ++ []).foldl normStep out = _
    rw [itemOf_item x (by omega) (by omega)]
    rfl

/-- Joining the tokens of a fragment gives its normal form. -/
theorem join_tokens (f : List Tk) (h : Kinds f) : normL (itemsOf (tokensL f)) = normL f := by
  have key : ∀ (f out : List Tk), Kinds f → (itemsOf (tokensL f)).foldl normStep out = f.foldl normStep out := by
    intro f
    induction f with
    | nil => intro out _; rfl
    | cons x f ih =>
      intro out hk
      have h2 : tokensL (x :: f) = tok1 x ++ tokensL f := rfl
      rw [h2, itemsOf_append, List.foldl_append, tok_step out x (hk x (by simp)), ih _ (fun y hy => hk y (by simp [hy]))]
      rfl
  exact key f [] h
theorem round_trip (f : List Tk) (h : Kinds f) (hn : Normal f) : normL (itemsOf (tokensL f)) = f := by rw [join_tokens f h, normL_of_normal f hn]

theorem bytesOf_tokens (f : List Tk) : bytesOf (tokensL f) ≤ bytesOf f := by
  induction f with
  | nil => simp [tokensL, bytesOf]
  | cons x f ih =>
    have h2 : tokensL (x :: f) = tok1 x ++ tokensL f := rfl
    rw [h2, bytesOf_append, bytesOf_cons]
    have : bytesOf (tok1 x) ≤ x.t.size := by
      unfold tok1
      split
      · have hf := cut_flat _ x.t.data.toList (Nat.le_refl _)
        have e : ∀ ps : List (Int × List UInt8), bytesOf (ps.map tkOf) = ((ps.map (·.2)).flatten).length := by
          intro ps
          induction ps with
          | nil => rfl
          | cons p ps ih => rw [List.map_cons, bytesOf_cons, ih, List.map_cons, List.flatten_cons, List.length_append]; rfl
        rw [e, hf, ← Lib.size_eq]
        exact Nat.le_refl _
      · split
        · rw [bytesOf_one]; exact Nat.le_refl _
        · simp [bytesOf]
    omega

end Go.Proofs.Yteccphcophjhpaa
