/- Plain: what Encode returns. -/
import Derived.Test.YtbgggeobpiaamaaDoorPP
import Derived.Test.YtbgggeobpiaamaaDoorIsP
namespace Go.Proofs.YtbgggeobpiaamaaDoor
set_option linter.unusedVariables false
/-- How much of a text its longest first word takes, from n bytes on. -/
def lgN (enc : Int) (l : List Nat) : Nat → Nat → Nat
  | 0, n => n
  | k + 1, n => if n < l.length ∧ (wordR enc (l.take (n + rn (l.drop n)))).2 = 0 then lgN enc l k (n + rn (l.drop n)) else n
def lgF (enc : Int) (l : List Nat) : Nat := lgN enc l (l.length + 1) 0
/-- The word of the first n bytes. -/
def wdAt (enc : Int) (l : List Nat) (n : Nat) : List Nat := if n = 0 then [] else (wordR enc (l.take n)).1
def lgW (enc : Int) (l : List Nat) : List Nat := wdAt enc l (lgF enc l)
/-- The words of a text. -/
def wdN (enc : Int) : Nat → List Nat → List (List Nat)
  | 0, _ => []
  | k + 1, l => if l = [] then [] else lgW enc l :: wdN enc k (l.drop (lgF enc l))
def wordsF (enc : Int) (l : List Nat) : List (List Nat) := wdN enc l.length l
def joinF (ws : List (List Nat)) : List Nat := [32].intercalate ws
def encR (enc : Int) (l : List Nat) : List Nat × Nat :=
  if enc ≠ 0 ∧ enc ≠ 1 then ([], 2) else if 4096 < l.length then ([], 5) else if prt l = false then ([], 6) else if plain l = true then (l, 0) else (joinF (wordsF enc l), 0)

theorem lgN_go {enc : Int} {l : List Nat} {k n : Nat} (h : n < l.length) (hw : (wordR enc (l.take (n + rn (l.drop n)))).2 = 0) : lgN enc l (k + 1) n = lgN enc l k (n + rn (l.drop n)) := by rw [lgN, if_pos ⟨h, hw⟩]
theorem lgN_stop {enc : Int} {l : List Nat} {k n : Nat} (h : ¬ (n < l.length ∧ (wordR enc (l.take (n + rn (l.drop n)))).2 = 0)) : lgN enc l k n = n := by
  cases k with
  | zero => rfl
  | succ k => rw [lgN, if_neg h]
theorem lgN_le (enc : Int) (l : List Nat) : ∀ k n, n ≤ l.length → n ≤ lgN enc l k n ∧ lgN enc l k n ≤ l.length := by
  intro k
  induction k with
  | zero => intro n h; exact ⟨Nat.le_refl _, h⟩
  | succ k ih =>
    intro n h
    rw [lgN]
    split
    · rename_i c
      have := (rn_le (l.drop n)).1
      rw [List.length_drop] at this
      obtain ⟨a, b⟩ := ih (n + rn (l.drop n)) (by omega)
      exact ⟨by omega, b⟩
    · exact ⟨Nat.le_refl _, h⟩
theorem lgF_le (enc : Int) (l : List Nat) : lgF enc l ≤ l.length := (lgN_le enc l _ 0 (Nat.zero_le _)).2

/-- The character at the beginning, alone. -/
theorem getD_take {l : List Nat} {n i : Nat} (h : i < n) : (l.take n).getD i 0 = l.getD i 0 := by
  simp [List.getD, h]
theorem whole_take {l : List Nat} (h : wholeB l = true) {n : Nat} (hn : rn l ≤ n) : wholeB (l.take n) = true ∧ rn (l.take n) = rn l := by
  obtain ⟨h1, h2, h3⟩ := (whole_iff l).1 h
  obtain ⟨e, hp⟩ := rn_pos h
  have g0 : (l.take n).getD 0 0 = l.getD 0 0 := getD_take (by omega)
  have hw : wholeB (l.take n) = true := by
    rw [whole_iff, g0]
    refine ⟨h1, by rw [List.length_take]; omega, fun i hi1 hi2 => ?_⟩
    rw [getD_take (by omega)]
    exact h3 i hi1 hi2
  exact ⟨hw, by rw [(rn_pos hw).1, g0, e]⟩
theorem prt_first {l : List Nat} (hne : l ≠ []) (h : prt l = true) : wholeB l = true ∧ ctrl (l.getD 0 0) = false ∧ prt (l.drop (rn l)) = true := by
  rw [prt_step hne] at h
  simp only [Bool.and_eq_true, decide_eq_true_eq, Bool.not_eq_true'] at h
  exact ⟨rn_ne.1 h.1.1, h.1.2, h.2⟩
theorem prt_one {l : List Nat} (hne : l ≠ []) (h : prt l = true) : prt (l.take (rn l)) = true := by
  obtain ⟨hw, hc, _⟩ := prt_first hne h
  obtain ⟨hw2, hr2⟩ := whole_take hw (Nat.le_refl _)
  have hp := (rn_pos hw).2
  have hne2 : l.take (rn l) ≠ [] := by
    intro e
    have h1 := congrArg List.length e
    rw [List.length_take, List.length_nil] at h1
    have h2 := (rn_le l).1
    omega
  rw [prt_step hne2, hr2, getD_take hp, hc]
  have : (l.take (rn l)).drop (rn l) = [] := by simp
  rw [this]
  simp [prt_nil]; omega
theorem wordF_len_small (q : Bool) {l : List Nat} (hl : l.length ≤ 4) (hlt : ∀ x ∈ l, x < 256) : (wordF q l).length ≤ 75 := by
  unfold wordF dataW pre8
  cases q
  · have := encF_len l hlt
    simp [this]; omega
  · have := wQ_len l
    simp; omega
theorem lgF_pos {enc : Int} (he : enc = 0 ∨ enc = 1) {l : List Nat} (hne : l ≠ []) (hp : prt l = true) (hlt : ∀ x ∈ l, x < 256) : 0 < lgF enc l := by
  have hw := prt_first hne hp
  have hr := (rn_pos hw.1).2
  have hle := rn_le l
  have h0 : 0 < l.length := by omega
  have hw0 : (wordR enc (l.take (0 + rn (l.drop 0)))).2 = 0 := by
    rw [Nat.zero_add, List.drop_zero]
    unfold wordR
    rw [if_neg (by omega), if_neg (by intro e; have h1 := congrArg List.length e; rw [List.length_take, List.length_nil] at h1; omega), if_neg (by rw [prt_one hne hp]; decide),
      if_neg (by have := wordF_len_small (isQ enc) (l := l.take (rn l)) (by rw [List.length_take]; omega) (fun x hx => hlt x (List.mem_of_mem_take hx)); omega)]
  unfold lgF
  rw [lgN_go h0 hw0]
  have := (lgN_le enc l l.length (0 + rn (l.drop 0)) (by rw [List.drop_zero]; omega)).1
  rw [List.drop_zero] at this ⊢
  omega
theorem vld_prt {l : List Nat} (h : prt l = true) : vld l = true := by unfold prt at h; simp at h; exact h.1
theorem prt_drop_of {l : List Nat} {n : Nat} (h : prt l = true) (hv : vld (l.drop n) = true) : prt (l.drop n) = true := by
  unfold prt at *
  rw [hv]
  simp only [Bool.and_eq_true, Bool.not_eq_true', List.any_eq_false] at h
  simp only [Bool.true_and, Bool.not_eq_true', List.any_eq_false]
  exact fun x hx => h.2 x (List.mem_of_mem_drop hx)
/-- What is left behind the longest first word is valid. -/
theorem lgN_vld (enc : Int) (l : List Nat) : ∀ k n, vld (l.drop n) = true → vld (l.drop (lgN enc l k n)) = true := by
  intro k
  induction k with
  | zero => intro n h; exact h
  | succ k ih =>
    intro n h
    rw [lgN]
    split
    · rename_i c
      apply ih
      have hne : l.drop n ≠ [] := by intro e; have := congrArg List.length e; rw [List.length_drop] at this; simp at this; omega
      rw [vld_step hne] at h
      simp only [Bool.and_eq_true] at h
      rw [← List.drop_drop]
      exact h.2
    · exact h
theorem lgF_prt {enc : Int} {l : List Nat} (h : prt l = true) : prt (l.drop (lgF enc l)) = true := prt_drop_of h (lgN_vld enc l _ 0 (by rw [List.drop_zero]; exact vld_prt h))
theorem wdN_eq (enc : Int) : ∀ (n : Nat) (l : List Nat) (k : Nat), l.length ≤ n → (enc = 0 ∨ enc = 1) → prt l = true → (∀ x ∈ l, x < 256) → l.length ≤ k → wdN enc k l = wordsF enc l := by
  intro n
  induction n with
  | zero =>
    intro l k hl _ _ _ hk
    obtain rfl : l = [] := List.length_eq_zero_iff.1 (by omega)
    unfold wordsF
    cases k <;> rfl
  | succ n ih =>
    intro l k hl he hp hlt hk
    by_cases h0 : l = []
    · subst h0; unfold wordsF; cases k <;> rfl
    · obtain ⟨m, hm⟩ : ∃ m, l.length = m + 1 := ⟨l.length - 1, by have := List.length_pos_iff.2 h0; omega⟩
      obtain ⟨k, rfl⟩ : ∃ k', k = k' + 1 := ⟨k - 1, by omega⟩
      have hpos := lgF_pos he h0 hp hlt
      unfold wordsF
      rw [hm]
      simp only [wdN, if_neg h0]
      congr 1
      have hd : (l.drop (lgF enc l)).length ≤ m := by rw [List.length_drop]; omega
      have a := ih (l.drop (lgF enc l)) k (by omega) he (lgF_prt hp) (fun x hx => hlt x (List.mem_of_mem_drop hx)) (by omega)
      have b := ih (l.drop (lgF enc l)) m (by omega) he (lgF_prt hp) (fun x hx => hlt x (List.mem_of_mem_drop hx)) hd
      rw [a, b]
theorem wordsF_step {enc : Int} (he : enc = 0 ∨ enc = 1) {l : List Nat} (hne : l ≠ []) (hp : prt l = true) (hlt : ∀ x ∈ l, x < 256) : wordsF enc l = lgW enc l :: wordsF enc (l.drop (lgF enc l)) := by
  have hpos := lgF_pos he hne hp hlt
  conv => lhs; unfold wordsF
  obtain ⟨m, hm⟩ : ∃ m, l.length = m + 1 := ⟨l.length - 1, by have := List.length_pos_iff.2 hne; omega⟩
  rw [hm]
  simp only [wdN, if_neg hne]
  congr 1
  exact wdN_eq enc m _ m (by rw [List.length_drop]; omega) he (lgF_prt hp) (fun x hx => hlt x (List.mem_of_mem_drop hx)) (by rw [List.length_drop]; omega)
theorem wordR_inv {enc : Int} {l : List Nat} (hlt : ∀ x ∈ l, x < 256) : (wordR enc l).1.length ≤ 75 := by
  unfold wordR
  split
  · simp
  · split
    · simp
    · split
      · simp
      · split
        · simp
        · simp only; omega
theorem wdAt_len (enc : Int) (l : List Nat) (n : Nat) (hlt : ∀ x ∈ l, x < 256) : (wdAt enc l n).length ≤ 75 := by
  unfold wdAt
  split
  · simp
  · exact wordR_inv (fun x hx => hlt x (List.mem_of_mem_take hx))
end Go.Proofs.YtbgggeobpiaamaaDoor
