/- Plain: what Parse returns. -/
import Derived.Test.YtbgggeobpiaamaaDoorWP
import Derived.Test.YtbgggeobpiaamaaDoorPureL
namespace Go.Proofs.YtbgggeobpiaamaaDoor
set_option linter.unusedVariables false
def low (c : Nat) : Nat := if 65 ≤ c ∧ c ≤ 90 then c + 32 else c
def lows (l : List Nat) : List Nat := l.map low
/-- What readQ returns. -/
def rQres (l : List Nat) : List Nat × Nat := match rQ l with | some xs => (xs, 0) | none => ([], 3)
theorem rQres_some {l xs : List Nat} (h : rQ l = some xs) : rQres l = (xs, 0) := by unfold rQres; rw [h]
theorem rQres_none {l : List Nat} (h : rQ l = none) : rQres l = ([], 3) := by unfold rQres; rw [h]
/-- The beginning of an encoded word. -/
def startF (q : Bool) : List Nat := pre8 ++ [letter q] ++ [63]
def readW (q : Bool) (m : List Nat) : List Nat × Nat := if q = true then rQres m else ((decF m).1, (decF m).2.2)
def inner (l : List Nat) : List Nat := (l.take (l.length - 2)).drop 10
/-- Whether a text has the frame of an encoded word. -/
def framed (q : Bool) (l : List Nat) : Bool := decide (12 ≤ l.length) && decide (lows (l.take 10) = lows (startF q)) && decide (l.drop (l.length - 2) = [63, 61])
def tryW (q : Bool) (l : List Nat) : Option (List Nat) :=
  if framed q l = true ∧ (readW q (inner l)).2 = 0 ∧ (readW q (inner l)).1 ≠ [] ∧ prt (readW q (inner l)).1 = true then some (readW q (inner l)).1 else none
def parseR (l : List Nat) : List Nat × Nat × Nat :=
  if 75 < l.length then ([], 0, 5) else match tryW false l with
    | some t => (t, 0, 0)
    | none => match tryW true l with
      | some t => (t, 1, 0)
      | none => ([], 0, 3)
theorem low_letters : lows (startF false) ≠ lows (startF true) := by decide
theorem framed_one {l : List Nat} (h : framed false l = true) : framed true l = false := by
  unfold framed at *
  simp only [Bool.and_eq_true, decide_eq_true_eq] at h
  obtain ⟨⟨h1, h2⟩, h3⟩ := h
  have : ¬ lows (l.take 10) = lows (startF true) := fun e => low_letters (h2.symm.trans e)
  simp [this]
theorem tryW_none {q : Bool} {l : List Nat} (h : framed q l = false) : tryW q l = none := by
  unfold tryW; rw [if_neg (by rw [h]; simp)]
theorem tryW_framed {q : Bool} {l t : List Nat} (h : tryW q l = some t) : framed q l = true := by
  unfold tryW at h; split at h
  · rename_i c; exact c.1
  · cases h
theorem parse_one {l t : List Nat} (q : Bool) (h75 : ¬ 75 < l.length) (h : tryW q l = some t) : parseR l = (t, (if q = true then 1 else 0), 0) := by
  unfold parseR; rw [if_neg h75]
  cases q
  · rw [h]; rfl
  · have : tryW false l = none := by
      cases h' : tryW false l with
      | none => rfl
      | some t' => rw [tryW_none (framed_one (tryW_framed h'))] at h; cases h
    rw [this, h]; rfl
theorem parse_none {l : List Nat} (h75 : ¬ 75 < l.length) (h : tryW false l = none) (h' : tryW true l = none) : parseR l = ([], 0, 3) := by
  unfold parseR; rw [if_neg h75, h, h']
theorem parse_long {l : List Nat} (h75 : 75 < l.length) : parseR l = ([], 0, 5) := by unfold parseR; rw [if_pos h75]

theorem rQ_inv : ∀ (n : Nat) (l xs : List Nat), l.length ≤ n → rQ l = some xs → (∀ x ∈ l, x < 256) → (∀ x ∈ xs, x < 256) ∧ xs.length ≤ l.length := by
  intro n
  induction n with
  | zero =>
    intro l xs hl h hlt
    obtain rfl : l = [] := List.length_eq_zero_iff.1 (by omega)
    simp [rQ] at h; subst h; simp
  | succ n ih =>
    intro l xs hl h hlt
    cases l with
    | nil => simp [rQ] at h; subst h; simp
    | cons c l =>
      rw [rQ_cons] at h
      have hl' : l.length ≤ n := by simpa using hl
      split at h
      · obtain ⟨ys, hy, rfl⟩ := Option.map_eq_some_iff.1 h
        obtain ⟨a, b⟩ := ih l ys hl' hy (fun x hx => hlt x (by simp [hx]))
        refine ⟨fun x hx => ?_, by simp; omega⟩
        rcases List.mem_cons.1 hx with rfl | hx
        · exact hlt x (by simp)
        · exact a x hx
      · split at h
        · obtain ⟨ys, hy, rfl⟩ := Option.map_eq_some_iff.1 h
          obtain ⟨a, b⟩ := ih l ys hl' hy (fun x hx => hlt x (by simp [hx]))
          refine ⟨fun x hx => ?_, by simp; omega⟩
          rcases List.mem_cons.1 hx with rfl | hx
          · decide
          · exact a x hx
        · split at h
          · match l, hl', h with
            | [], _, h => simp [rQ3] at h
            | [_], _, h => simp [rQ3] at h
            | u :: v :: m, hl', h =>
              simp only [rQ3] at h
              cases h1 : hv u with
              | none => simp [h1] at h
              | some x =>
                cases h2 : hv v with
                | none => simp [h1, h2] at h
                | some y =>
                  simp only [h1, h2] at h
                  obtain ⟨ys, hy, rfl⟩ := Option.map_eq_some_iff.1 h
                  obtain ⟨a, b⟩ := ih m ys (by simp at hl'; omega) hy (fun x hx => hlt x (by simp [hx]))
                  have hx16 := hv_lt h1
                  have hy16 := hv_lt h2
                  refine ⟨fun z hz => ?_, by simp; omega⟩
                  rcases List.mem_cons.1 hz with rfl | hz
                  · omega
                  · exact a z hz
          · cases h
theorem dec_inv (l : List Nat) : (∀ x ∈ (decF l).1, x < 256) ∧ (decF l).1.length ≤ l.length := by
  by_cases h : (decF l).2.2 = 0
  · obtain ⟨h1, h2⟩ := enc_dec l h
    refine ⟨h2, ?_⟩
    have := encF_len _ h2
    rw [h1] at this
    omega
  · rw [dec_err_nil l h]; simp
theorem readW_inv (q : Bool) (l : List Nat) (hl : ∀ x ∈ l, x < 256) : (∀ x ∈ (readW q l).1, x < 256) ∧ (readW q l).1.length ≤ l.length := by
  unfold readW
  split
  · cases h : rQ l with
    | none => rw [rQres_none h]; simp
    | some xs => rw [rQres_some h]; exact rQ_inv l.length l xs (Nat.le_refl _) h hl
  · exact dec_inv l
theorem inner_len (l : List Nat) : (inner l).length ≤ l.length := by unfold inner; simp; omega
theorem inner_lt {l : List Nat} (hl : ∀ x ∈ l, x < 256) : ∀ x ∈ inner l, x < 256 := fun x hx => hl x (List.mem_of_mem_take (List.mem_of_mem_drop hx))
end Go.Proofs.YtbgggeobpiaamaaDoor
