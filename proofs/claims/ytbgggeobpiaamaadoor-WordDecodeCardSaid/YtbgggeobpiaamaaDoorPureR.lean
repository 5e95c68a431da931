/- Plain functions on lists: what the reference for base64 computes, and that it is the same. -/
import Derived.Test.YtbgggeobpiaamaaDoorPure
namespace Go.Proofs.YtbgggeobpiaamaaDoor
set_option linter.unusedVariables false

/-! The reference goes bit by bit. -/
def bitStep (s : Nat × Nat × List Nat) (t : Nat) : Nat × Nat × List Nat := if s.2.1 + 1 = 6 then (0, 0, s.2.2 ++ [al (2 * s.1 + t)]) else (2 * s.1 + t, s.2.1 + 1, s.2.2)
def bitRun (s : Nat × Nat × List Nat) (g : Nat) : Nat → Nat × Nat × List Nat
  | 0 => s
  | j + 1 => bitStep (bitRun s g j) (g / 2 ^ (7 - j) % 2)
theorem bitStep_pre (b c t : Nat) (xs ys : List Nat) : bitStep (b, c, xs ++ ys) t = ((bitStep (b, c, ys) t).1, (bitStep (b, c, ys) t).2.1, xs ++ (bitStep (b, c, ys) t).2.2) := by
  unfold bitStep; split <;> simp_all
theorem bitRun_pre (b c g : Nat) (xs ys : List Nat) (j : Nat) : bitRun (b, c, xs ++ ys) g j = ((bitRun (b, c, ys) g j).1, (bitRun (b, c, ys) g j).2.1, xs ++ (bitRun (b, c, ys) g j).2.2) := by
  induction j with
  | zero => rfl
  | succ j ih => rw [bitRun, ih, bitStep_pre]; rfl
theorem drain_pre (f : Nat → Nat) (tt : Nat) (xs : List Nat) : ∀ (k b c : Nat) (ys : List Nat), drain f tt k b c (xs ++ ys) = ((drain f tt k b c ys).1, (drain f tt k b c ys).2.1, xs ++ (drain f tt k b c ys).2.2) := by
  intro k
  induction k with
  | zero => intro b c ys; rfl
  | succ k ih =>
    intro b c ys
    by_cases h : c < tt
    · simp [drain, h]
    · rw [drain_succ _ _ _ _ _ _ h, drain_succ _ _ _ _ _ _ h, List.append_assoc, ih]
theorem bit8 : ∀ c : Fin 3, ∀ b : Fin 16, b.val < 2 ^ (2 * c.val) → ∀ g : Fin 256, bitRun (b.val, 2 * c.val, []) g.val 8 = encStep (b.val, 2 * c.val, []) g.val := by decide +kernel
theorem bitRun_enc {s : Nat × Nat × List Nat} {g : Nat} (hc : s.2.1 < 6) (hev : s.2.1 % 2 = 0) (hb : s.1 < 2 ^ s.2.1) (hg : g < 256) : bitRun s g 8 = encStep s g := by
  obtain ⟨b, c, xs⟩ := s
  simp only at hc hev hb
  have h1 : bitRun (b, c, xs) g 8 = bitRun (b, c, xs ++ []) g 8 := by simp
  have h2 : encStep (b, c, xs) g = drain al 6 16 (b * 2 ^ 8 + g) (c + 8) (xs ++ []) := by simp [encStep]
  have hb16 : b < 16 := Nat.lt_of_lt_of_le hb (by have : 2 ^ c ≤ 2 ^ 4 := Nat.pow_le_pow_right (by omega) (by omega)
                                                  omega)
  have e : c = 2 * (c / 2) := by omega
  have h3 := bit8 ⟨c / 2, by omega⟩ ⟨b, hb16⟩ (by simp only; rw [← e]; exact hb) ⟨g, hg⟩
  simp only [← e] at h3
  rw [h1, h2, bitRun_pre, drain_pre, h3]
  rfl
theorem bitRun_inv {s : Nat × Nat × List Nat} {g : Nat} (hc : s.2.1 < 6) (hb : s.1 < 2 ^ s.2.1) (j : Nat) : (bitRun s g j).2.1 < 6 ∧ (bitRun s g j).1 < 2 ^ (bitRun s g j).2.1 ∧ (bitRun s g j).2.2.length ≤ s.2.2.length + j := by
  induction j with
  | zero => exact ⟨hc, hb, by simp [bitRun]⟩
  | succ j ih =>
    rw [bitRun]
    generalize bitRun s g j = r at *
    unfold bitStep
    have ht : g / 2 ^ (7 - j) % 2 < 2 := Nat.mod_lt _ (by omega)
    split
    · simp; omega
    · refine ⟨by simp; omega, ?_, by simp; omega⟩
      simp only [Nat.pow_succ]
      omega
/-- Doubling until six bits are there. -/
theorem enc_even (l : List Nat) (hl : ∀ x ∈ l, x < 256) : (encSt l).2.1 % 2 = 0 := by have := (encSt_inv l hl).2.2; omega

theorem encF_len (l : List Nat) (hl : ∀ x ∈ l, x < 256) : (encF l).length = (l.length + 2) / 3 * 4 := by
  have h := encSt_inv l hl
  unfold encF
  rw [pad4_len]
  unfold encTail
  split
  · simp only [List.length_append, List.length_singleton]; omega
  · omega

end Go.Proofs.YtbgggeobpiaamaaDoor
