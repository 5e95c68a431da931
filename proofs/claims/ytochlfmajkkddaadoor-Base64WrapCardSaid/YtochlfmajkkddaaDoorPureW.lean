/- Plain functions on lists for Wrap. -/
import Derived.Test.YtochlfmajkkddaaDoorPureU
namespace Go.Proofs.YtochlfmajkkddaaDoor
set_option linter.unusedVariables false

/-- The lines of a text, each with its line feed (k: an upper bound for the number of lines). -/
def linesK (wd : Nat) : Nat → List Nat → List Nat
  | 0, _ => []
  | k + 1, l => if l = [] then [] else l.take wd ++ [10] ++ linesK wd k (l.drop wd)
def lines (wd : Nat) (l : List Nat) : List Nat := linesK wd l.length l
theorem linesK_more (wd : Nat) (hw : 1 ≤ wd) : ∀ (k m : Nat) (l : List Nat), l.length ≤ k → l.length ≤ m → linesK wd k l = linesK wd m l := by
  intro k
  induction k with
  | zero =>
    intro m l h1 h2
    obtain rfl : l = [] := List.eq_nil_of_length_eq_zero (by omega)
    cases m <;> simp [linesK]
  | succ k ih =>
    intro m l h1 h2
    cases m with
    | zero =>
      obtain rfl : l = [] := List.eq_nil_of_length_eq_zero (by omega)
      simp [linesK]
    | succ m =>
      by_cases h : l = []
      · simp [linesK, h]
      · have hp : 0 < l.length := List.length_pos_iff.2 h
        simp only [linesK, if_neg h]
        rw [ih m (l.drop wd) (by simp; omega) (by simp; omega)]
theorem lines_nil (wd : Nat) : lines wd [] = [] := rfl
theorem lines_cons {wd : Nat} (hw : 1 ≤ wd) {l : List Nat} (h : l ≠ []) : lines wd l = l.take wd ++ [10] ++ lines wd (l.drop wd) := by
  have hp : 0 < l.length := List.length_pos_iff.2 h
  unfold lines
  obtain ⟨k, hk⟩ : ∃ k, l.length = k + 1 := ⟨l.length - 1, by omega⟩
  rw [hk, linesK, if_neg h, linesK_more wd hw k (l.drop wd).length (l.drop wd) (by simp; omega) (Nat.le_refl _)]
theorem lines_len {wd : Nat} (hw : 1 ≤ wd) (n : Nat) : ∀ l : List Nat, l.length ≤ n → (lines wd l).length ≤ 2 * l.length := by
  induction n using Nat.strongRecOn with
  | _ n ih =>
    intro l hl
    by_cases h : l = []
    · subst h; simp [lines_nil]
    · have hp : 0 < l.length := List.length_pos_iff.2 h
      rw [lines_cons hw h]
      have := ih (n - 1) (by omega) (l.drop wd) (by simp; omega)
      simp at *
      omega
theorem lines_lt {wd : Nat} (hw : 1 ≤ wd) (n : Nat) : ∀ l : List Nat, l.length ≤ n → (∀ x ∈ l, x < 256) → ∀ x ∈ lines wd l, x < 256 := by
  induction n using Nat.strongRecOn with
  | _ n ih =>
    intro l hl hb x hx
    by_cases h : l = []
    · subst h; simp [lines_nil] at hx
    · have hp : 0 < l.length := List.length_pos_iff.2 h
      rw [lines_cons hw h] at hx
      rcases List.mem_append.1 hx with hx | hx
      · rcases List.mem_append.1 hx with hx | hx
        · exact hb x (List.mem_of_mem_take hx)
        · simp at hx; omega
      · exact ih (n - 1) (by omega) (l.drop wd) (by simp; omega) (fun y hy => hb y (List.mem_of_mem_drop hy)) x hx

/-- What the reference has written behind i characters. -/
def wpre (wd : Nat) (l : List Nat) : Nat → List Nat
  | 0 => []
  | i + 1 => wpre wd l i ++ [l.getD i 0] ++ (if (i + 1) % wd = 0 ∨ i = l.length - 1 then [10] else [])
theorem wpre_part (wd : Nat) (l : List Nat) (fr : Nat) (hf : fr % wd = 0) (j : Nat) (hj : fr + j ≤ l.length) (hjw : j ≤ wd) :
    wpre wd l (fr + j) = wpre wd l fr ++ (l.drop fr).take j ++ (if 0 < j ∧ (j = wd ∨ fr + j = l.length) then [10] else []) := by
  induction j with
  | zero => simp
  | succ j ih =>
    have hjl : fr + j < l.length := by omega
    rw [← Nat.add_assoc, wpre, ih (by omega) (by omega)]
    have h1 : ¬ (0 < j ∧ (j = wd ∨ fr + j = l.length)) := by omega
    rw [if_neg h1, List.append_nil]
    have hg : l.getD (fr + j) 0 = (l.drop fr)[j]'(by simp; omega) := by
      rw [List.getElem_drop, List.getD_eq_getElem?_getD, List.getElem?_eq_getElem hjl, Option.getD_some]
    rw [List.take_succ_eq_append_getElem (by simp; omega), hg]
    have hm : (fr + j + 1) % wd = 0 ↔ j + 1 = wd := by
      have e : (fr + j + 1) % wd = (j + 1) % wd := by rw [Nat.add_assoc, Nat.add_mod, hf, Nat.zero_add, Nat.mod_mod]
      rw [e]
      constructor
      · intro h
        rcases (by omega : j + 1 < wd ∨ j + 1 = wd) with h' | h'
        · rw [Nat.mod_eq_of_lt h'] at h; omega
        · exact h'
      · intro h; rw [h]; exact Nat.mod_self _
    by_cases hc : j + 1 = wd ∨ fr + j + 1 = l.length
    · rw [if_pos (by rcases hc with h | h; exact .inl (hm.2 h); exact .inr (by omega)), if_pos ⟨by omega, hc⟩]
      simp
    · rw [if_neg (by intro h; rcases h with h | h; exact hc (.inl (hm.1 h)); exact hc (.inr (by omega))), if_neg (by intro h; exact hc h.2)]
      simp
theorem wpre_lines {wd : Nat} (hw : 1 ≤ wd) (l : List Nat) (n : Nat) : ∀ fr, l.length - fr ≤ n → fr % wd = 0 → fr ≤ l.length → wpre wd l l.length = wpre wd l fr ++ lines wd (l.drop fr) := by
  induction n using Nat.strongRecOn with
  | _ n ih =>
    intro fr hn hf hfl
    by_cases h : fr = l.length
    · rw [h, List.drop_of_length_le (Nat.le_refl _), lines_nil, List.append_nil]
    · have hne : l.drop fr ≠ [] := by intro e; have := congrArg List.length e; simp at this; omega
      rw [lines_cons hw hne]
      by_cases hwl : fr + wd ≤ l.length
      · have h1 := wpre_part wd l fr hf wd hwl (Nat.le_refl _)
        rw [if_pos ⟨by omega, .inl rfl⟩] at h1
        rw [ih (n - 1) (by omega) (fr + wd) (by omega) (by rw [Nat.add_mod_right]; exact hf) hwl, h1, List.drop_drop]
        simp
      · have h1 := wpre_part wd l fr hf (l.length - fr) (by omega) (by omega)
        rw [if_pos ⟨by omega, .inr (by omega)⟩, show fr + (l.length - fr) = l.length by omega, List.take_of_length_le (by simp)] at h1
        rw [h1, List.take_of_length_le (by simp; omega), List.drop_drop, show l.drop (fr + wd) = [] from List.drop_of_length_le (by omega), lines_nil]
        simp
theorem wpre_all {wd : Nat} (hw : 1 ≤ wd) (l : List Nat) : wpre wd l l.length = lines wd l := by
  have := wpre_lines hw l l.length 0 (by omega) (Nat.zero_mod _) (by omega)
  simpa [wpre] using this
theorem wpre_len (wd : Nat) (l : List Nat) (i : Nat) : (wpre wd l i).length ≤ 2 * i := by
  induction i with
  | zero => simp [wpre]
  | succ i ih =>
    rw [wpre]
    split <;> simp <;> omega

/-- Unwrapping what was wrapped. -/
theorem nl_line {wd : Nat} (hw : 1 ≤ wd) {r : List Nat} (hr : r ≠ []) (h10 : ∀ x ∈ r, x ≠ 10) : ixo (lines wd r) 10 = some (min wd r.length) := by
  have hp : 0 < r.length := List.length_pos_iff.2 hr
  rw [lines_cons hw hr]
  refine ixo_of (by simp) ?_ ?_
  · rw [List.getElem_append_left (by simp), List.getElem_append_right (by simp)]
    simp
  · intro j hj
    rw [List.getElem_append_left (by simp; omega), List.getElem_append_left (by simp; omega), List.getElem_take]
    exact h10 _ (List.getElem_mem _)
theorem unw_lines {wd : Nat} (hw : 1 ≤ wd) (hw9 : wd ≤ 998) (l : List Nat) (h10 : ∀ x ∈ l, x ≠ 10) (n : Nat) : ∀ (k m fr : Nat), l.length - m ≤ n → m ≤ l.length → l.length - m < k → l.length ≤ 174764 →
    (lines wd l).drop fr = lines wd (l.drop m) → fr ≤ (lines wd l).length → (m = l.length ∨ m % wd = 0) → unw (lines wd l) (min wd l.length) k fr (l.take m) = (l, 0, 0) := by
  induction n using Nat.strongRecOn with
  | _ n ih =>
    intro k m fr hn hm hk h17 hd hfl hmod
    by_cases h : m = l.length
    · subst h
      have hlen : (lines wd l).length ≤ fr := by
        rw [List.drop_of_length_le (Nat.le_refl _), lines_nil] at hd
        have := congrArg List.length hd
        simp at this
        omega
      rw [unw_done hlen (by omega), List.take_of_length_le (Nat.le_refl _), if_neg (by omega)]
    · have hr : l.drop m ≠ [] := by intro e; have := congrArg List.length e; simp at this; omega
      have hix := nl_line hw hr (fun x hx => h10 x (List.mem_of_mem_drop hx))
      have hnl : nl ((lines wd l).drop fr) = min wd (l.length - m) := by
        rw [hd]; unfold nl; rw [hix]; simp
      have hcons := lines_cons hw hr
      have hlen : (lines wd l).length = fr + min wd (l.length - m) + 1 + (lines wd ((l.drop m).drop wd)).length := by
        have := congrArg List.length hd
        rw [hcons] at this
        simp only [List.length_drop, List.length_append, List.length_take, List.length_singleton] at this
        omega
      obtain ⟨k', rfl⟩ : ∃ k', k = k' + 1 := ⟨k - 1, by omega⟩
      have hmodw : m % wd = 0 := by rcases hmod with h' | h'; exact absurd h' h; exact h'
      have hrest : wd < l.length - m ∨ l.length - m ≤ wd := by omega
      have hlast : min wd (l.length - m) < min wd l.length → (lines wd ((l.drop m).drop wd)).length = 0 := by
        intro hlt
        have : (l.drop m).drop wd = [] := by
          apply List.eq_nil_of_length_eq_zero
          simp
          omega
        rw [this, lines_nil]; rfl
      rw [unw_step (by omega) (by
        rw [hnl]
        rintro (h' | h' | h' | ⟨h', h''⟩)
        · omega
        · omega
        · omega
        · have := hlast h'
          omega), hnl]
      have htk : l.take m ++ ((lines wd l).drop fr).take (min wd (l.length - m)) = l.take (m + min wd (l.length - m)) := by
        rw [hd, hcons, List.append_assoc, List.take_append_of_le_length (by simp), List.take_take]
        rw [show min (min wd (l.length - m)) wd = min wd (l.length - m) by omega]
        rw [List.take_add]
      rw [htk]
      refine ih (n - 1) (by omega) k' (m + min wd (l.length - m)) (fr + min wd (l.length - m) + 1) (by omega) (by omega) (by omega) h17 ?_ (by omega) ?_
      · rw [Nat.add_assoc, ← List.drop_drop, hd, hcons, List.append_assoc]
        rw [show (l.drop m).take wd ++ ([10] ++ lines wd ((l.drop m).drop wd)) = ((l.drop m).take wd ++ [10]) ++ lines wd ((l.drop m).drop wd) by simp]
        rw [List.drop_append_of_le_length (by simp), List.drop_of_length_le (by simp), List.nil_append, List.drop_drop]
        congr 1
        rcases hrest with h' | h'
        · rw [Nat.min_eq_left (by omega)]
        · rw [Nat.min_eq_right h', List.drop_of_length_le (by omega), List.drop_of_length_le (by omega)]
      · rcases hrest with h' | h'
        · right; rw [Nat.min_eq_left (by omega), Nat.add_mod_right]; exact hmodw
        · left; omega
theorem lines_last {wd : Nat} (hw : 1 ≤ wd) (n : Nat) : ∀ l : List Nat, l.length ≤ n → l ≠ [] → lines wd l ≠ [] ∧ (lines wd l).getD ((lines wd l).length - 1) 0 = 10 := by
  induction n using Nat.strongRecOn with
  | _ n ih =>
    intro l hl h
    have hp : 0 < l.length := List.length_pos_iff.2 h
    rw [lines_cons hw h]
    refine ⟨by simp, ?_⟩
    by_cases hd : l.drop wd = []
    · rw [hd, lines_nil]
      simp
    · have := ih (n - 1) (by omega) (l.drop wd) (by simp; omega) hd
      have hl0 : 0 < (lines wd (l.drop wd)).length := List.length_pos_iff.2 this.1
      rw [List.getD_eq_getElem?_getD, List.getElem?_append_right (by simp; omega)]
      have e : ((l.take wd ++ [10]) ++ lines wd (l.drop wd)).length - 1 - (l.take wd ++ [10]).length = (lines wd (l.drop wd)).length - 1 := by
        simp; omega
      rw [e, ← List.getD_eq_getElem?_getD]
      exact this.2
theorem unwF_lines {wd : Nat} (hw : 1 ≤ wd) (hw9 : wd ≤ 998) (l : List Nat) (h10 : ∀ x ∈ l, x ≠ 10) (hl : l.length ≤ 174764) : unwF (lines wd l) = (l, 0, 0) := by
  by_cases h : l = []
  · subst h; rw [lines_nil]; decide
  · have hp : 0 < l.length := List.length_pos_iff.2 h
    have hlen := lines_len hw l.length l (Nat.le_refl _)
    have hla := lines_last hw l.length l (Nat.le_refl _) h
    unfold unwF
    rw [if_neg (by omega), if_neg (by intro e; exact e.2 hla.2)]
    have hnl : nl (lines wd l) = min wd l.length := by unfold nl; rw [nl_line hw h h10]; rfl
    rw [hnl]
    have hge : l.length ≤ (lines wd l).length := by
      have : ∀ (n : Nat) (l : List Nat), l.length ≤ n → l.length ≤ (lines wd l).length := by
        intro n
        induction n using Nat.strongRecOn with
        | _ n ih =>
          intro l hl
          by_cases h : l = []
          · subst h; simp
          · have hp : 0 < l.length := List.length_pos_iff.2 h
            rw [lines_cons hw h]
            have := ih (n - 1) (by omega) (l.drop wd) (by simp; omega)
            simp at *
            omega
      exact this l.length l (Nat.le_refl _)
    have := unw_lines hw hw9 l h10 l.length ((lines wd l).length + 1) 0 0 (by omega) (by omega) (by omega) hl (by simp) (by omega) (.inr (Nat.zero_mod _))
    simpa using this

/-- What Wrap answers. -/
def wrapF (l : List Nat) (width : Int) : List Nat × Nat :=
  if width < 1 ∨ 998 < width then ([], 2) else if 174764 < l.length then ([], 5) else if 10 ∈ l then ([], 6) else (lines width.toNat l, 0)

end Go.Proofs.YtochlfmajkkddaaDoor
