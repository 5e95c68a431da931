/- Plain functions on lists for Wrap and Unwrap. -/
import Derived.Test.YtochlfmajkkddaaDoorPure
namespace Go.Proofs.YtochlfmajkkddaaDoor
set_option linter.unusedVariables false

/-- The first place of a byte. -/
def ixo (l : List Nat) (c : Nat) : Option Nat := l.findIdx? (· == c)
def ixi (l : List Nat) (c : Nat) : Int := match ixo l c with | some k => (k : Int) | none => -1
/-- The first line feed (0 if there is none). -/
def nl (l : List Nat) : Nat := (ixo l 10).getD 0

/-- What Unwrap does from an offset on. -/
def unw (l : List Nat) (first : Nat) : Nat → Nat → List Nat → List Nat × Nat × Nat
  | 0, _, acc => (acc, 0, 0)
  | k + 1, fr, acc => if l.length ≤ fr then (if 174764 < acc.length then ([], 0, 5) else (acc, 0, 0)) else
      if nl (l.drop fr) = 0 ∨ 998 < nl (l.drop fr) ∨ first < nl (l.drop fr) ∨ (nl (l.drop fr) < first ∧ fr + nl (l.drop fr) + 1 < l.length) then ([], fr, 3)
      else unw l first k (fr + nl (l.drop fr) + 1) (acc ++ (l.drop fr).take (nl (l.drop fr)))
/-- What Unwrap answers: text, offset, error. -/
def unwF (l : List Nat) : List Nat × Nat × Nat :=
  if 349528 < l.length then ([], 0, 5) else if l ≠ [] ∧ l.getD (l.length - 1) 0 ≠ 10 then ([], l.length, 4) else unw l (nl l) (l.length + 1) 0 []

theorem ixo_some {l : List Nat} {c k : Nat} (h : ixo l c = some k) : ∃ hk : k < l.length, l[k] = c ∧ ∀ j (hj : j < k), l[j]'(by omega) ≠ c := by
  obtain ⟨hk, h1, h2⟩ := List.findIdx?_eq_some_iff_getElem.1 h
  exact ⟨hk, by simpa using h1, fun j hj => by simpa using h2 j hj⟩
theorem ixo_of {l : List Nat} {c k : Nat} (hk : k < l.length) (h1 : l[k] = c) (h2 : ∀ j (hj : j < k), l[j]'(by omega) ≠ c) : ixo l c = some k :=
  List.findIdx?_eq_some_iff_getElem.2 ⟨hk, by simpa using h1, fun j hj => by simpa using h2 j hj⟩
theorem ixo_none {l : List Nat} {c : Nat} (h : ixo l c = none) : ∀ x ∈ l, x ≠ c := by
  have := List.findIdx?_eq_none_iff.1 h
  intro x hx
  simpa using this x hx
/-- Where the text ends with a line feed, every rest has one. -/
theorem nl_rest {l : List Nat} {fr : Nat} (hl : l.getD (l.length - 1) 0 = 10) (hf : fr < l.length) : ixo (l.drop fr) 10 = some (nl (l.drop fr)) ∧ fr + nl (l.drop fr) < l.length := by
  cases h : ixo (l.drop fr) 10 with
  | none =>
    exfalso
    have := ixo_none h 10 (by
      rw [List.mem_iff_getElem]
      refine ⟨l.length - 1 - fr, by simp; omega, ?_⟩
      rw [List.getElem_drop]
      rw [List.getD_eq_getElem?_getD, List.getElem?_eq_getElem (by omega)] at hl
      simp only [Option.getD_some] at hl
      have e : fr + (l.length - 1 - fr) = l.length - 1 := by omega
      simp only [e]
      exact hl)
    exact this rfl
  | some k =>
    have hk := (ixo_some h).1
    simp at hk
    have e : nl (l.drop fr) = k := by unfold nl; rw [h]; rfl
    rw [e]
    exact ⟨rfl, by omega⟩
theorem unw_done {l : List Nat} {first k fr : Nat} {acc : List Nat} (h : l.length ≤ fr) (hk : 0 < k) : unw l first k fr acc = if 174764 < acc.length then ([], 0, 5) else (acc, 0, 0) := by
  obtain ⟨k, rfl⟩ : ∃ k', k = k' + 1 := ⟨k - 1, by omega⟩
  rw [unw, if_pos h]
theorem unw_bad {l : List Nat} {first k fr : Nat} {acc : List Nat} (h : ¬ l.length ≤ fr) (hk : 0 < k) (hb : nl (l.drop fr) = 0 ∨ 998 < nl (l.drop fr) ∨ first < nl (l.drop fr) ∨ (nl (l.drop fr) < first ∧ fr + nl (l.drop fr) + 1 < l.length)) : unw l first k fr acc = ([], fr, 3) := by
  obtain ⟨k, rfl⟩ : ∃ k', k = k' + 1 := ⟨k - 1, by omega⟩
  rw [unw, if_neg h, if_pos hb]
theorem unw_step {l : List Nat} {first k fr : Nat} {acc : List Nat} (h : ¬ l.length ≤ fr) (hb : ¬ (nl (l.drop fr) = 0 ∨ 998 < nl (l.drop fr) ∨ first < nl (l.drop fr) ∨ (nl (l.drop fr) < first ∧ fr + nl (l.drop fr) + 1 < l.length))) : unw l first (k + 1) fr acc = unw l first k (fr + nl (l.drop fr) + 1) (acc ++ (l.drop fr).take (nl (l.drop fr))) := by
  rw [unw, if_neg h, if_neg hb]

end Go.Proofs.YtochlfmajkkddaaDoor
