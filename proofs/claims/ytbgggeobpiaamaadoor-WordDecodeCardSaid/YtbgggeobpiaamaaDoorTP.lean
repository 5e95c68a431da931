/- Plain: tokens and the places of encoded words. -/
import Derived.Test.YtbgggeobpiaamaaDoorPP
namespace Go.Proofs.YtbgggeobpiaamaaDoor
set_option linter.unusedVariables false
def blank (c : Nat) : Bool := decide (c = 32) || decide (c = 9)
/-- One step of the search for tokens: where the token begins, and those that have ended. -/
def tkStep (l : List Nat) (st : Nat × List (Nat × Nat)) (i : Nat) : Nat × List (Nat × Nat) :=
  if i < l.length ∧ blank (l.getD i 0) = false then st else (i + 1, if st.1 < i then st.2 ++ [(st.1, i)] else st.2)
def tkSt (l : List Nat) (k : Nat) : Nat × List (Nat × Nat) := (List.range k).foldl (tkStep l) (0, [])
theorem tkSt_succ (l : List Nat) (k : Nat) : tkSt l (k + 1) = tkStep l (tkSt l k) k := by simp [tkSt, List.range_succ]
def toks (l : List Nat) : List (Nat × Nat) := (tkSt l (l.length + 1)).2
/-- A token of a text of n bytes. -/
abbrev Tk (n : Nat) := { x : Nat × Nat // x.1 < x.2 ∧ x.2 ≤ n }
theorem tkSt_inv (l : List Nat) : ∀ k, k ≤ l.length + 1 → (tkSt l k).1 ≤ k ∧ (tkSt l k).2.length ≤ k ∧ ∀ x ∈ (tkSt l k).2, x.1 < x.2 ∧ x.2 ≤ l.length := by
  intro k
  induction k with
  | zero => intro _; exact ⟨Nat.le_refl _, Nat.le_refl _, fun x hx => by simp [tkSt] at hx⟩
  | succ k ih =>
    intro hk
    obtain ⟨a, b, c⟩ := ih (by omega)
    rw [tkSt_succ]
    unfold tkStep
    split
    · exact ⟨by omega, by omega, c⟩
    · refine ⟨Nat.le_refl _, ?_, ?_⟩
      · simp only; split
        · simp; omega
        · omega
      · simp only
        intro x hx
        split at hx
        · rename_i h1 h2
          rcases List.mem_append.1 hx with hx | hx
          · exact c x hx
          · simp at hx; subst hx; exact ⟨h2, by simp; omega⟩
        · exact c x hx
/-- The bytes between two places. -/
def cut (l : List Nat) (a b : Nat) : List Nat := (l.take b).drop a
def okTok (l : List Nat) (x : Nat × Nat) : Bool := decide ((parseR (cut l x.1 x.2)).2.2 = 0)
/-- What Find returns. -/
def findR (l : List Nat) : List (Nat × Nat) := if 16384 < l.length then [] else (toks l).filter (okTok l)
end Go.Proofs.YtbgggeobpiaamaaDoor
