/- Plain: how long a character is, valid texts, printable texts. -/
import Derived.Test.YtbgggeobpiaamaaDoorPure
namespace Go.Proofs.YtbgggeobpiaamaaDoor
set_option linter.unusedVariables false

/-- The length that a first byte announces. -/
def uLen (c : Nat) : Nat := if c ≤ 127 then 1 else if c < 194 then 0 else if c ≤ 223 then 2 else if c ≤ 239 then 3 else if c ≤ 244 then 4 else 0
/-- Whether a byte can stand at an index. -/
def uCont (f i c : Nat) : Bool :=
  decide ((if i = 1 ∧ f = 224 then 160 else if i = 1 ∧ f = 240 then 144 else 128) ≤ c) && decide (c ≤ (if i = 1 ∧ f = 237 then 159 else if i = 1 ∧ f = 244 then 143 else 191))
theorem uLen_le (c : Nat) : uLen c ≤ 4 := by unfold uLen; (repeat' split) <;> omega
theorem uCont_ge {f i c : Nat} (h : uCont f i c = true) : 128 ≤ c ∧ c ≤ 191 := by
  unfold uCont at h; simp at h; obtain ⟨h1, h2⟩ := h
  constructor
  · split at h1 <;> (try split at h1) <;> omega
  · split at h2 <;> (try split at h2) <;> omega
/-- Whether a text begins with a character. -/
def wholeB (l : List Nat) : Bool :=
  decide (uLen (l.getD 0 0) ≠ 0) && decide (uLen (l.getD 0 0) ≤ l.length) && (List.range 3).all (fun i => decide (uLen (l.getD 0 0) ≤ i + 1) || uCont (l.getD 0 0) (i + 1) (l.getD (i + 1) 0))
/-- The length of the character at the beginning, 0 if there is none. -/
def rn (l : List Nat) : Nat := if wholeB l = true then uLen (l.getD 0 0) else 0

theorem whole_iff (l : List Nat) : wholeB l = true ↔ uLen (l.getD 0 0) ≠ 0 ∧ uLen (l.getD 0 0) ≤ l.length ∧ ∀ i, 1 ≤ i → i < uLen (l.getD 0 0) → uCont (l.getD 0 0) i (l.getD i 0) = true := by
  have h4 := uLen_le (l.getD 0 0)
  unfold wholeB
  simp only [Bool.and_eq_true, decide_eq_true_eq, List.all_eq_true, List.mem_range, Bool.or_eq_true]
  constructor
  · rintro ⟨⟨a, b⟩, c⟩
    refine ⟨a, b, fun i h1 h2 => ?_⟩
    have := c (i - 1) (by omega)
    rw [show i - 1 + 1 = i by omega] at this
    rcases this with h | h
    · omega
    · exact h
  · rintro ⟨a, b, c⟩
    refine ⟨⟨a, b⟩, fun i hi => ?_⟩
    by_cases h : uLen (l.getD 0 0) ≤ i + 1
    · exact .inl h
    · exact .inr (c (i + 1) (by omega) (by omega))
theorem whole_no (l : List Nat) (h : ¬ (uLen (l.getD 0 0) ≠ 0 ∧ uLen (l.getD 0 0) ≤ l.length ∧ ∀ i, 1 ≤ i → i < uLen (l.getD 0 0) → uCont (l.getD 0 0) i (l.getD i 0) = true)) : wholeB l = false := by
  rw [← whole_iff] at h; simpa using h
theorem rn_le (l : List Nat) : rn l ≤ l.length ∧ rn l ≤ 4 := by
  unfold rn; split
  · rename_i h; have := (whole_iff l).1 h; exact ⟨this.2.1, uLen_le _⟩
  · omega
theorem rn_zero {l : List Nat} (h : wholeB l = false) : rn l = 0 := by unfold rn; rw [h]; rfl
theorem rn_pos {l : List Nat} (h : wholeB l = true) : rn l = uLen (l.getD 0 0) ∧ 0 < rn l := by
  have := (whole_iff l).1 h
  unfold rn; rw [if_pos h]; omega
theorem rn_ne {l : List Nat} : rn l ≠ 0 ↔ wholeB l = true := by
  constructor
  · intro h; cases hw : wholeB l
    · exact absurd (rn_zero hw) h
    · rfl
  · intro h; have := rn_pos h; omega

/-- Valid texts. -/
def vldN : Nat → List Nat → Bool
  | 0, l => l.isEmpty
  | k + 1, l => if l.isEmpty then true else (decide (rn l ≠ 0) && vldN k (l.drop (rn l)))
def vld (l : List Nat) : Bool := vldN l.length l
theorem vldN_eq : ∀ (n : Nat) (l : List Nat) (k : Nat), l.length ≤ n → l.length ≤ k → vldN k l = vldN l.length l := by
  intro n
  induction n with
  | zero =>
    intro l k hl hk
    have : l = [] := List.length_eq_zero_iff.1 (by omega)
    subst this
    cases k <;> rfl
  | succ n ih =>
    intro l k hl hk
    cases l with
    | nil => cases k <;> rfl
    | cons a l =>
      cases k with
      | zero => simp at hk
      | succ k =>
        rw [List.length_cons]
        simp only [vldN]
        by_cases h0 : rn (a :: l) = 0
        · simp [h0]
        · have hlen : ((a :: l).drop (rn (a :: l))).length ≤ l.length := by simp; omega
          have hl' : l.length ≤ n := by simpa using hl
          have hk' : l.length ≤ k := by simpa using hk
          rw [ih _ k (by omega) (by omega), ih _ l.length (by omega) (by omega)]
theorem vld_nil : vld [] = true := rfl
theorem vld_step {l : List Nat} (h : l ≠ []) : vld l = (decide (rn l ≠ 0) && vld (l.drop (rn l))) := by
  cases l with
  | nil => exact absurd rfl h
  | cons a l =>
    unfold vld
    rw [List.length_cons]
    simp only [vldN]
    by_cases h0 : rn (a :: l) = 0
    · simp [h0]
    · rw [vldN_eq l.length _ l.length (by simp; omega) (by simp; omega)]
      simp

/-- The bytes that are no control characters. -/
def ctrl (c : Nat) : Bool := decide (c < 32) || decide (c = 127)
def prt (l : List Nat) : Bool := vld l && !l.any ctrl
/-- The same, character by character. -/
theorem any_ctrl_take {l : List Nat} (h : wholeB l = true) : (l.take (rn l)).any ctrl = ctrl (l.getD 0 0) := by
  obtain ⟨h1, h2, h3⟩ := (whole_iff l).1 h
  obtain ⟨e, hp⟩ := rn_pos h
  rw [← e] at h2 h3
  cases l with
  | nil => simp at h2; omega
  | cons a l =>
    obtain ⟨n, hn⟩ : ∃ n, rn (a :: l) = n + 1 := ⟨rn (a :: l) - 1, by omega⟩
    rw [hn] at h2 h3 ⊢
    simp only [List.take_succ_cons, List.any_cons, List.getD_cons_zero] at *
    have : (l.take n).any ctrl = false := by
      rw [List.any_eq_false]
      intro x hx
      obtain ⟨i, hi, rfl⟩ := List.getElem_of_mem hx
      simp only [List.length_take] at hi
      have hl : i < l.length := by omega
      have := uCont_ge (h3 (i + 1) (by omega) (by omega))
      simp [List.getD, hl] at this
      simp [List.getElem_take, ctrl]
      omega
    rw [this]; simp
theorem prt_nil : prt [] = true := rfl
theorem prt_step {l : List Nat} (h : l ≠ []) : prt l = (decide (rn l ≠ 0) && !ctrl (l.getD 0 0) && prt (l.drop (rn l))) := by
  unfold prt
  rw [vld_step h]
  by_cases hw : wholeB l = true
  · have := rn_ne.2 hw
    have e : l.any ctrl = (ctrl (l.getD 0 0) || (l.drop (rn l)).any ctrl) := by
      conv => lhs; rw [← List.take_append_drop (rn l) l]
      rw [List.any_append, any_ctrl_take hw]
    rw [e]
    simp [this]
    cases vld (List.drop (rn l) l) <;> cases ctrl (l[0]?.getD 0) <;> simp
  · have : rn l = 0 := rn_zero (by simpa using hw)
    simp [this]

end Go.Proofs.YtbgggeobpiaamaaDoor
