/- Plain: characters at the bounds of a text. -/
import Derived.Test.YtbgggeobpiaamaaDoorEP
namespace Go.Proofs.YtbgggeobpiaamaaDoor
set_option linter.unusedVariables false
theorem getD_app {a b : List Nat} {i : Nat} (h : i < a.length) : (a ++ b).getD i 0 = a.getD i 0 := by simp [List.getD, List.getElem?_append_left h]
theorem whole_app {a : List Nat} (b : List Nat) (h : wholeB a = true) : wholeB (a ++ b) = true ∧ rn (a ++ b) = rn a := by
  obtain ⟨h1, h2, h3⟩ := (whole_iff a).1 h
  obtain ⟨e, hp⟩ := rn_pos h
  have g0 : (a ++ b).getD 0 0 = a.getD 0 0 := getD_app (by omega)
  have hw : wholeB (a ++ b) = true := by
    rw [whole_iff, g0]
    refine ⟨h1, by rw [List.length_append]; omega, fun i hi1 hi2 => ?_⟩
    rw [getD_app (by omega)]
    exact h3 i hi1 hi2
  exact ⟨hw, by rw [(rn_pos hw).1, g0, e]⟩
theorem vld_app : ∀ (n : Nat) (a b : List Nat), a.length ≤ n → vld a = true → vld (a ++ b) = vld b := by
  intro n
  induction n with
  | zero =>
    intro a b hl _
    obtain rfl : a = [] := List.length_eq_zero_iff.1 (by omega)
    rfl
  | succ n ih =>
    intro a b hl h
    by_cases h0 : a = []
    · subst h0; rfl
    · rw [vld_step h0] at h
      simp only [Bool.and_eq_true, decide_eq_true_eq] at h
      have hw := rn_ne.1 h.1
      obtain ⟨hw2, hr⟩ := whole_app b hw
      have hle := (rn_le a).1
      have hne : a ++ b ≠ [] := by simp [h0]
      rw [vld_step hne, hr, List.drop_append_of_le_length hle, ih (a.drop (rn a)) b (by rw [List.length_drop]; omega) h.2]
      simp [h.1]
theorem prt_app {a b : List Nat} (h : prt a = true) : prt (a ++ b) = prt b := by
  have hv := vld_prt h
  unfold prt at *
  rw [vld_app a.length a b (Nat.le_refl _) hv, List.any_append]
  simp only [Bool.and_eq_true, Bool.not_eq_true'] at h
  rw [h.2]; simp
theorem prt_take_step {l : List Nat} {n : Nat} (h : prt (l.take n) = true) (hne : l.drop n ≠ []) (hp : prt (l.drop n) = true) : prt (l.take (n + rn (l.drop n))) = true := by
  rw [List.take_add, prt_app h]
  exact prt_one hne hp
/-- A prefix of whole characters is a word just where it is short enough. -/
theorem wordR_short {enc : Int} (he : enc = 0 ∨ enc = 1) {l : List Nat} (hne : l ≠ []) (hp : prt l = true) : (wordR enc l).2 = 0 ↔ (wordF (isQ enc) l).length ≤ 75 := by
  unfold wordR
  rw [if_neg (by omega), if_neg hne, if_neg (by rw [hp]; decide)]
  split <;> simp <;> omega
theorem wordR_word {enc : Int} (he : enc = 0 ∨ enc = 1) {l : List Nat} (hne : l ≠ []) (hp : prt l = true) (h : (wordF (isQ enc) l).length ≤ 75) : (wordR enc l).1 = wordF (isQ enc) l := by
  unfold wordR
  rw [if_neg (by omega), if_neg hne, if_neg (by rw [hp]; decide), if_neg (by omega)]
/-- What is true where the search for the longest word ends. -/
theorem lgN_ok {enc : Int} (he : enc = 0 ∨ enc = 1) {l : List Nat} (hp : prt l = true) : ∀ k n, prt (l.take n) = true → prt (l.drop n) = true → (n = 0 ∨ (wordF (isQ enc) (l.take n)).length ≤ 75) →
    prt (l.take (lgN enc l k n)) = true ∧ (lgN enc l k n = 0 ∨ (wordF (isQ enc) (l.take (lgN enc l k n))).length ≤ 75) := by
  intro k
  induction k with
  | zero => intro n h1 h2 h3; exact ⟨h1, h3⟩
  | succ k ih =>
    intro n h1 h2 h3
    rw [lgN]
    split
    · rename_i c
      have hne : l.drop n ≠ [] := by intro e; have := congrArg List.length e; rw [List.length_drop] at this; simp at this; omega
      have hf := prt_first hne h2
      have hpos := (rn_pos hf.1).2
      have ht := prt_take_step h1 hne h2
      have hle := (rn_le (l.drop n)).1
      rw [List.length_drop] at hle
      have hne2 : l.take (n + rn (l.drop n)) ≠ [] := by intro e; have := congrArg List.length e; rw [List.length_take, List.length_nil] at this; omega
      refine ih _ ht ?_ (.inr ((wordR_short he hne2 ht).1 c.2))
      rw [← List.drop_drop]; exact hf.2.2
    · exact ⟨h1, h3⟩
theorem lgW_word {enc : Int} (he : enc = 0 ∨ enc = 1) {l : List Nat} (hne : l ≠ []) (hp : prt l = true) (hlt : ∀ x ∈ l, x < 256) :
    lgW enc l = wordF (isQ enc) (l.take (lgF enc l)) ∧ prt (l.take (lgF enc l)) = true ∧ l.take (lgF enc l) ≠ [] ∧ (wordF (isQ enc) (l.take (lgF enc l))).length ≤ 75 := by
  have hpos := lgF_pos he hne hp hlt
  have hle := lgF_le enc l
  obtain ⟨a, b⟩ := lgN_ok he hp (l.length + 1) 0 (by rw [List.take_zero]; rfl) (by rw [List.drop_zero]; exact hp) (.inl rfl)
  have a' : prt (l.take (lgF enc l)) = true := a
  have b' : (wordF (isQ enc) (l.take (lgF enc l))).length ≤ 75 := by
    rcases b with b | b
    · exact absurd (show lgF enc l = 0 from b) (by omega)
    · exact b
  have hne2 : l.take (lgF enc l) ≠ [] := by intro e; have := congrArg List.length e; rw [List.length_take, List.length_nil] at this; omega
  refine ⟨?_, a', hne2, b'⟩
  unfold lgW wdAt
  rw [if_neg (by omega), wordR_word he hne2 a' b']
theorem wordF_pos (q : Bool) (l : List Nat) : wordF q l ≠ [] := by intro e; have := congrArg List.length e; simp [wordF, pre8] at this
theorem joinF_snoc (acc : List (List Nat)) (x : List Nat) : joinF (acc ++ [x]) = if acc = [] then x else joinF acc ++ [32] ++ x := by
  unfold joinF
  induction acc with
  | nil => simp [List.intercalate]
  | cons a acc ih =>
    rw [if_neg (by simp)]
    cases acc with
    | nil => simp [List.intercalate]
    | cons b acc =>
      rw [if_neg (by simp)] at ih
      simp only [List.intercalate, List.cons_append, List.intersperse_cons_cons, List.flatten_cons] at ih ⊢
      rw [ih]; simp
theorem joinF_ne {acc : List (List Nat)} (h : ∀ x ∈ acc, x ≠ []) : joinF acc = [] ↔ acc = [] := by
  constructor
  · intro e
    cases acc with
    | nil => rfl
    | cons a acc =>
      exfalso
      have ha := h a (by simp)
      unfold joinF at e
      cases acc with
      | nil => simp [List.intercalate] at e; exact ha e
      | cons b acc => simp [List.intercalate] at e
  · rintro rfl; rfl
end Go.Proofs.YtbgggeobpiaamaaDoor
