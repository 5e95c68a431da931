/- Plain functions on lists: what the reference's Decode computes, and that it is the same. -/
import Derived.Test.YtbgggeobpiaamaaDoorPureR
namespace Go.Proofs.YtbgggeobpiaamaaDoor
set_option linter.unusedVariables false

def dbitStep (s : Nat × Nat × List Nat) (t : Nat) : Nat × Nat × List Nat := if s.2.1 + 1 = 8 then (0, 0, s.2.2 ++ [2 * s.1 + t]) else (2 * s.1 + t, s.2.1 + 1, s.2.2)
def dbitRun (s : Nat × Nat × List Nat) (g : Nat) : Nat → Nat × Nat × List Nat
  | 0 => s
  | j + 1 => dbitStep (dbitRun s g j) (g / 2 ^ (5 - j) % 2)
theorem dbitStep_pre (b c t : Nat) (xs ys : List Nat) : dbitStep (b, c, xs ++ ys) t = ((dbitStep (b, c, ys) t).1, (dbitStep (b, c, ys) t).2.1, xs ++ (dbitStep (b, c, ys) t).2.2) := by
  unfold dbitStep; split <;> simp_all
theorem dbitRun_pre (b c g : Nat) (xs ys : List Nat) (j : Nat) : dbitRun (b, c, xs ++ ys) g j = ((dbitRun (b, c, ys) g j).1, (dbitRun (b, c, ys) g j).2.1, xs ++ (dbitRun (b, c, ys) g j).2.2) := by
  induction j with
  | zero => rfl
  | succ j ih => rw [dbitRun, ih, dbitStep_pre]; rfl
theorem dbit6 : ∀ c : Fin 4, ∀ b : Fin 64, b.val < 2 ^ (2 * c.val) → ∀ g : Fin 64, dbitRun (b.val, 2 * c.val, []) g.val 6 = decStep (b.val, 2 * c.val, []) g.val := by decide +kernel
theorem dbitRun_dec {s : Nat × Nat × List Nat} {g : Nat} (hc : s.2.1 < 8) (hev : s.2.1 % 2 = 0) (hb : s.1 < 2 ^ s.2.1) (hg : g < 64) : dbitRun s g 6 = decStep s g := by
  obtain ⟨b, c, xs⟩ := s
  simp only at hc hev hb
  have h1 : dbitRun (b, c, xs) g 6 = dbitRun (b, c, xs ++ []) g 6 := by simp
  have h2 : decStep (b, c, xs) g = drain id 8 16 (b * 2 ^ 6 + g) (c + 6) (xs ++ []) := by simp [decStep]
  have hb64 : b < 64 := Nat.lt_of_lt_of_le hb (by have : 2 ^ c ≤ 2 ^ 6 := Nat.pow_le_pow_right (by omega) (by omega)
                                                  omega)
  have e : c = 2 * (c / 2) := by omega
  have h3 := dbit6 ⟨c / 2, by omega⟩ ⟨b, hb64⟩ (by simp only; rw [← e]; exact hb) ⟨g, hg⟩
  simp only [← e] at h3
  rw [h1, h2, dbitRun_pre, drain_pre, h3]
  rfl
theorem dbitRun_inv {s : Nat × Nat × List Nat} {g : Nat} (hc : s.2.1 < 8) (hb : s.1 < 2 ^ s.2.1) (j : Nat) : (dbitRun s g j).2.1 < 8 ∧ (dbitRun s g j).1 < 2 ^ (dbitRun s g j).2.1 ∧ (dbitRun s g j).2.2.length ≤ s.2.2.length + j := by
  induction j with
  | zero => exact ⟨hc, hb, by simp [dbitRun]⟩
  | succ j ih =>
    rw [dbitRun]
    generalize dbitRun s g j = r at *
    unfold dbitStep
    have ht : g / 2 ^ (5 - j) % 2 < 2 := Nat.mod_lt _ (by omega)
    split
    · simp; omega
    · refine ⟨by simp; omega, ?_, by simp; omega⟩
      simp only [Nat.pow_succ]
      omega
theorem dec_even (l : List Nat) (hl : ∀ x ∈ l, x < 64) : (decSt l).2.1 % 2 = 0 := by have := (decSt_inv l hl).2.2; omega

/-- Which characters are padding in place. -/
theorem inPlace_iff (l : List Nat) (i : Nat) (hi : i < l.length) : dataF l ≤ i ↔ (l.length % 4 = 0 ∧ l.getD i 0 = 61 ∧ (i = l.length - 1 ∨ (i = l.length - 2 ∧ l.getD (l.length - 1) 0 = 61))) := by
  unfold dataF
  by_cases h4 : l.length % 4 = 0
  · by_cases hl : l.getD (l.length - 1) 0 = 61
    · rw [if_neg (by omega)]
      by_cases h2 : l.getD (l.length - 2) 0 = 61
      · rw [if_pos h2]
        constructor
        · intro h
          refine ⟨h4, ?_, by omega⟩
          rcases (by omega : i = l.length - 1 ∨ i = l.length - 2) with rfl | rfl
          · exact hl
          · exact h2
        · rintro ⟨_, _, h⟩; omega
      · rw [if_neg h2]
        constructor
        · intro h
          obtain rfl : i = l.length - 1 := by omega
          exact ⟨h4, hl, .inl rfl⟩
        · rintro ⟨_, h5, h⟩
          rcases h with rfl | ⟨rfl, _⟩
          · omega
          · exact absurd h5 h2
    · rw [if_pos (.inr (.inr hl))]
      constructor
      · intro h; omega
      · rintro ⟨_, h5, h⟩
        rcases h with rfl | ⟨_, h6⟩
        · exact absurd h5 hl
        · exact absurd h6 hl
  · rw [if_pos (.inr (.inl h4))]
    constructor
    · intro h; omega
    · rintro ⟨h5, _⟩; omega
theorem dataF_char (l : List Nat) (i : Nat) (hi : i < l.length) (h : dataF l ≤ i) : vOf (l.getD i 0) = none := by
  rw [((inPlace_iff l i hi).1 h).2.1]
  decide +kernel
theorem vOf_none {c : Nat} (h : ∀ i, i < 64 → al i ≠ c) : vOf c = none := by
  unfold vOf
  rw [List.find?_eq_none]
  intro i hi
  simp at hi
  simpa using h i hi
theorem vOf_some {c i : Nat} (hi : i < 64) (h : al i = c) : vOf c = some i := by
  subst h
  have : ∀ v : Fin 64, vOf (al v.val) = some v.val := by decide +kernel
  exact this ⟨i, hi⟩

end Go.Proofs.YtbgggeobpiaamaaDoor
