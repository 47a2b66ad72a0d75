
/-
  Plain functions for chapter 3 (normal fragments) and for the makers of inputs; no program in sight.
-/
import Derived.Test.YtpboaadjbkaidaaDoorMath11
namespace Go.Proofs.YtpboaadjbkaidaaDoor
set_option maxRecDepth 100000
open Go.RowKit

/-- One item more, texts joined. -/
def normStep (out : List Tk) (x : Tk) : List Tk :=
  if x.k ≠ 1 then out ++ [x] else if x.t.size = 0 then out else match out.getLast? with
    | some y => if y.k = 1 then out.dropLast ++ [⟨1, y.t ++ x.t, 0⟩] else out ++ [⟨1, x.t, 0⟩]
    | none => [⟨1, x.t, 0⟩]
def normL (f : List Tk) : List Tk := f.foldl normStep []

theorem normL_snoc (f : List Tk) (x : Tk) : normL (f ++ [x]) = normStep (normL f) x := by simp [normL]
theorem normL_nil : normL [] = [] := rfl
theorem normL_take (f : List Tk) (k : Nat) (h : k < f.length) : normL (f.take (k + 1)) = normStep (normL (f.take k)) f[k] := by
  rw [List.take_succ_eq_append_getElem h, normL_snoc]
theorem normL_append (f g : List Tk) : normL (f ++ g) = g.foldl normStep (normL f) := by simp [normL]

theorem step_other (out : List Tk) (x : Tk) (h : x.k ≠ 1) : normStep out x = out ++ [x] := by rw [normStep, if_pos h]
theorem step_empty (out : List Tk) (x : Tk) (h : x.k = 1) (h2 : x.t.size = 0) : normStep out x = out := by
  rw [normStep, if_neg (by omega), if_pos h2]
theorem step_first (x : Tk) (h : x.k = 1) (h2 : x.t.size ≠ 0) : normStep [] x = [⟨1, x.t, 0⟩] := by
  rw [normStep, if_neg (by omega), if_neg h2]
  rfl
theorem step_join (out : List Tk) (y x : Tk) (h : x.k = 1) (h2 : x.t.size ≠ 0) (hy : y.k = 1) : normStep (out ++ [y]) x = out ++ [⟨1, y.t ++ x.t, 0⟩] := by
  rw [normStep, if_neg (by omega), if_neg h2]
  simp [hy]
theorem step_new (out : List Tk) (y x : Tk) (h : x.k = 1) (h2 : x.t.size ≠ 0) (hy : y.k ≠ 1) : normStep (out ++ [y]) x = out ++ [y] ++ [⟨1, x.t, 0⟩] := by
  rw [normStep, if_neg (by omega), if_neg h2]
  simp [hy]

theorem normStep_length (out : List Tk) (x : Tk) : (normStep out x).length ≤ out.length + 1 := by
  unfold normStep
  split
  · simp
  · split
    · omega
    · split
      · split
        · simp; try omega
        · simp
      · simp
theorem normL_length (f : List Tk) : (normL f).length ≤ f.length := by
  suffices h : ∀ (g : List Tk) (out : List Tk), (g.foldl normStep out).length ≤ out.length + g.length by
    have := h f []
    simpa [normL] using this
  intro g
  induction g with
  | nil => intro out; simp
  | cons x g ih =>
    intro out
    rw [List.foldl_cons, List.length_cons]
    have h1 := ih (normStep out x)
    have h2 := normStep_length out x
    omega
theorem bytesOf_append (f g : List Tk) : bytesOf (f ++ g) = bytesOf f + bytesOf g := by simp [bytesOf]
theorem bytesOf_one (x : Tk) : bytesOf [x] = x.t.size := by simp [bytesOf]
theorem normStep_bytes (out : List Tk) (x : Tk) : bytesOf (normStep out x) = bytesOf out + x.t.size := by
  by_cases h : x.k = 1
  · by_cases h2 : x.t.size = 0
    · rw [step_empty out x h h2]; omega
    · rcases List.eq_nil_or_concat out with rfl | ⟨o, y, rfl⟩
      · rw [step_first x h h2]; simp [bytesOf]
      · rw [List.concat_eq_append]
        by_cases hy : y.k = 1
        · rw [step_join o y x h h2 hy, bytesOf_append, bytesOf_append, bytesOf_one, bytesOf_one]
          simp
          omega
        · rw [step_new o y x h h2 hy, bytesOf_append, bytesOf_append, bytesOf_one, bytesOf_one]
  · rw [step_other out x h, bytesOf_append, bytesOf_one]
theorem normL_bytes (f : List Tk) : bytesOf (normL f) = bytesOf f := by
  suffices h : ∀ (g : List Tk) (out : List Tk), bytesOf (g.foldl normStep out) = bytesOf out + bytesOf g by
    have := h f []
    simpa [normL, bytesOf] using this
  intro g
  induction g with
  | nil => intro out; simp [bytesOf]
  | cons x g ih =>
    intro out
    rw [List.foldl_cons, ih, normStep_bytes, bytesOf_cons]
    omega

/-- A normal fragment: no empty text, no two texts side by side, texts without numbers. -/
def Normal : List Tk → Prop
  | [] => True
  | x :: r => (x.k = 1 → x.t.size ≠ 0 ∧ x.d = 0 ∧ ∀ y, r.head? = some y → y.k ≠ 1) ∧ Normal r

theorem Normal.snoc_other (out : List Tk) (x : Tk) (h : Normal out) (hx : x.k ≠ 1) : Normal (out ++ [x]) := by
  induction out with
  | nil => exact ⟨fun h => absurd h hx, trivial⟩
  | cons y r ih =>
    refine ⟨fun hy => ?_, ih h.2⟩
    obtain ⟨a, b, c⟩ := h.1 hy
    refine ⟨a, b, fun z hz => ?_⟩
    cases r with
    | nil => simp at hz; rw [← hz]; exact hx
    | cons u r => exact c z (by simpa using hz)
theorem Normal.snoc_text (out : List Tk) (y x : Tk) (h : Normal (out ++ [y])) (hy : y.k ≠ 1) (h2 : x.t.size ≠ 0) (h3 : x.d = 0) : Normal (out ++ [y] ++ [x]) := by
  induction out with
  | nil => exact ⟨fun h => absurd h hy, fun _ => ⟨h2, h3, fun z hz => by simp at hz⟩, trivial⟩
  | cons u r ih =>
    refine ⟨fun hu => ?_, ih h.2⟩
    obtain ⟨a, b, c⟩ := h.1 hu
    refine ⟨a, b, fun z hz => c z ?_⟩
    cases r with
    | nil => simpa using hz
    | cons u r => simpa using hz
theorem Normal.replace (out : List Tk) (y x : Tk) (h : Normal (out ++ [y])) (hy : y.k = 1) (_h1 : x.k = 1) (h2 : x.t.size ≠ 0) (h3 : x.d = 0) : Normal (out ++ [x]) := by
  induction out with
  | nil => exact ⟨fun _ => ⟨h2, h3, fun z hz => by simp at hz⟩, trivial⟩
  | cons u r ih =>
    refine ⟨fun hu => ?_, ih h.2⟩
    obtain ⟨a, b, c⟩ := h.1 hu
    refine ⟨a, b, fun z hz => ?_⟩
    cases r with
    | nil => exact absurd hy (c y rfl)
    | cons v r => exact c z (by simpa using hz)
theorem Normal.step (out : List Tk) (x : Tk) (h : Normal out) : Normal (normStep out x) := by
  by_cases hk : x.k = 1
  · by_cases h2 : x.t.size = 0
    · rw [step_empty out x hk h2]; exact h
    · rcases List.eq_nil_or_concat out with rfl | ⟨o, y, rfl⟩
      · rw [step_first x hk h2]
        exact ⟨fun _ => ⟨h2, rfl, fun z hz => by simp at hz⟩, trivial⟩
      · rw [List.concat_eq_append] at h ⊢
        by_cases hy : y.k = 1
        · rw [step_join o y x hk h2 hy]
          exact Normal.replace o y _ h hy rfl (by show (y.t ++ x.t).size ≠ 0; rw [ByteArray.size_append]; omega) rfl
        · rw [step_new o y x hk h2 hy]
          exact Normal.snoc_text o y _ h hy h2 rfl
  · rw [step_other out x hk]
    exact Normal.snoc_other out x h hk
theorem normL_normal (f : List Tk) : Normal (normL f) := by
  suffices h : ∀ (g out : List Tk), Normal out → Normal (g.foldl normStep out) from h f [] trivial
  intro g
  induction g with
  | nil => intro out h; exact h
  | cons x g ih => intro out h; exact ih _ (Normal.step out x h)

/-- Kinds of items. -/
def Kinds (f : List Tk) : Prop := ∀ x ∈ f, 1 ≤ x.k ∧ x.k ≤ 5
theorem Kinds.step (out : List Tk) (x : Tk) (h : Kinds out) (hx : 1 ≤ x.k ∧ x.k ≤ 5) : Kinds (normStep out x) := by
  intro z hz
  by_cases hk : x.k = 1
  · by_cases h2 : x.t.size = 0
    · rw [step_empty out x hk h2] at hz; exact h z hz
    · rcases List.eq_nil_or_concat out with rfl | ⟨o, y, rfl⟩
      · rw [step_first x hk h2] at hz
        simp at hz
        subst hz
        exact ⟨by show (1 : Int) ≤ 1; omega, by show (1 : Int) ≤ 5; omega⟩
      · rw [List.concat_eq_append] at h hz
        by_cases hy : y.k = 1
        · rw [step_join o y x hk h2 hy] at hz
          rcases List.mem_append.1 hz with hz | hz
          · exact h z (List.mem_append.2 (.inl hz))
          · simp at hz
            subst hz
            exact ⟨by show (1 : Int) ≤ 1; omega, by show (1 : Int) ≤ 5; omega⟩
        · rw [step_new o y x hk h2 hy] at hz
          rcases List.mem_append.1 hz with hz | hz
          · exact h z hz
          · simp at hz
            subst hz
            exact ⟨by show (1 : Int) ≤ 1; omega, by show (1 : Int) ≤ 5; omega⟩
  · rw [step_other out x hk] at hz
    rcases List.mem_append.1 hz with hz | hz
    · exact h z hz
    · simp at hz
      subst hz
      exact hx
theorem Kinds.norm (f : List Tk) (h : Kinds f) : Kinds (normL f) := by
  suffices hh : ∀ (g out : List Tk), Kinds g → Kinds out → Kinds (g.foldl normStep out) from hh f [] h (fun _ h => by simp at h)
  intro g
  induction g with
  | nil => intro out _ h; exact h
  | cons x g ih => intro out hg ho; exact ih _ (fun y hy => hg y (List.mem_cons_of_mem _ hy)) (Kinds.step out x ho (hg x (List.mem_cons_self ..)))

/-- Normal fragments stay. -/
theorem foldl_normal (f out : List Tk) (h : Normal (out ++ f)) : f.foldl normStep out = out ++ f := by
  induction f generalizing out with
  | nil => simp
  | cons x r ih =>
    have hx : normStep out x = out ++ [x] := by
      by_cases hk : x.k = 1
      · have hgen : ∀ o : List Tk, Normal (o ++ x :: r) → x.t.size ≠ 0 ∧ x.d = 0 ∧ ∀ p y, o = p ++ [y] → y.k ≠ 1 := by
          intro o
          induction o with
          | nil => intro h; exact ⟨(h.1 hk).1, (h.1 hk).2.1, fun p y e => by simp at e⟩
          | cons u o iho =>
            intro h
            obtain ⟨a, b, c⟩ := iho h.2
            refine ⟨a, b, fun p y e => ?_⟩
            cases p with
            | nil =>
              simp at e
              obtain ⟨rfl, rfl⟩ := e
              intro hu
              exact (h.1 hu).2.2 x rfl hk
            | cons q p =>
              simp at e
              exact c p y e.2
        obtain ⟨a, b, c⟩ := hgen out h
        have hxe : (⟨1, x.t, 0⟩ : Tk) = x := Tk.ext' hk.symm rfl b.symm
        rcases List.eq_nil_or_concat out with rfl | ⟨o, y, rfl⟩
        · rw [step_first x hk a, hxe]; rfl
        · rw [List.concat_eq_append]
          rw [step_new o y x hk a (c o y (by rw [List.concat_eq_append])), hxe]
      · exact step_other out x hk
    rw [List.foldl_cons, hx, ih _ (by rw [List.append_assoc]; exact h), List.append_assoc]
    rfl
theorem normL_of_normal (f : List Tk) (h : Normal f) : normL f = f := by
  have := foldl_normal f [] h
  simpa [normL] using this

end Go.Proofs.YtpboaadjbkaidaaDoor
