/- Plain: the texts of WordLimits. -/
import Derived.Test.YtbgggeobpiaamaaDoorRP
namespace Go.Proofs.YtbgggeobpiaamaaDoor
set_option linter.unusedVariables false

def rep (k : Nat) (c : List Nat) : List Nat := (List.replicate k c).flatten
theorem rep_succ (k : Nat) (c : List Nat) : rep (k + 1) c = c ++ rep k c := by simp [rep, List.replicate_succ]
theorem rep_len (k : Nat) (c : List Nat) : (rep k c).length = k * c.length := by
  induction k with
  | zero => simp [rep]
  | succ k ih => rw [rep_succ, List.length_append, ih, Nat.add_mul]; omega
theorem rep_add (k m : Nat) (c : List Nat) : rep (k + m) c = rep k c ++ rep m c := by simp [rep, ← List.replicate_append_replicate]
theorem rep_mem {k : Nat} {c : List Nat} : ∀ x ∈ rep k c, x ∈ c := by
  intro x hx
  obtain ⟨l, hl, hx'⟩ := List.mem_flatten.1 hx
  rw [(List.mem_replicate.1 hl).2] at hx'; exact hx'
theorem rep_prt {c : List Nat} (h : prt c = true) (k : Nat) : prt (rep k c) = true := by
  induction k with
  | zero => rfl
  | succ k ih => rw [rep_succ, prt_app h, ih]
theorem hasEq_no : ∀ {l : List Nat}, (∀ x ∈ l, x ≠ 61) → hasEq l = false
  | [], _ => rfl
  | [_], _ => rfl
  | a :: b :: l, h => by
    rw [hasEq, hasEq_no (fun x hx => h x (by simp at hx ⊢; exact .inr hx))]
    have := h a (by simp)
    simp [this]
def unitC (p : Bool) : List Nat := if p = true then [97, 98] else [195, 164]
theorem unitC_len (p : Bool) : (unitC p).length = 2 := by cases p <;> rfl
theorem unitC_prt (p : Bool) : prt (unitC p) = true := by cases p <;> decide
theorem unitC_lt (p : Bool) : ∀ x ∈ unitC p, x < 256 := by cases p <;> decide
theorem plain_ab (k : Nat) : plain (rep k (unitC true)) = true := by
  unfold plain
  rw [rep_prt (unitC_prt true) k, hasEq_no (fun x hx => by have := rep_mem x hx; simp [unitC] at this; omega)]
  have : (rep k (unitC true)).any high = false := by
    rw [List.any_eq_false]
    intro x hx
    have := rep_mem x hx
    simp [unitC] at this
    unfold high; simp; omega
  rw [this]; rfl
theorem plain_ae (k : Nat) : plain (rep (k + 1) (unitC false)) = false := by
  unfold plain
  have : (rep (k + 1) (unitC false)).any high = true := by
    rw [List.any_eq_true]
    exact ⟨195, by rw [rep_succ]; simp [unitC], by decide⟩
  rw [this]; simp

/-- With B, all words but the last are long. -/
theorem word_five {l : List Nat} (h : wordR 0 l = ([], 5)) : 75 < (wordF false l).length := by
  unfold wordR at h
  split at h
  · cases h
  · split at h
    · cases h
    · split at h
      · cases h
      · split at h
        · rename_i c; exact c
        · cases h
theorem chunks_tail {enc : Int} {t : List Nat} {ts : List (List Nat)} (h : Chunks enc (t :: ts)) : Chunks enc ts :=
  ⟨fun x hx => h.1 x (by simp [hx]), fun i hi => by have := h.2 (i + 1) (by simpa using hi); simpa using this⟩
theorem chunks_short : ∀ (ts : List (List Nat)), Chunks 0 ts → (joinF (ts.map (wordF false))).length ≤ 2 * ts.flatten.length + 76 := by
  intro ts
  induction ts with
  | nil => intro _; simp [joinF, List.intercalate]
  | cons t ts ih =>
    intro h
    have IH := ih (chunks_tail h)
    have h0 := h.1 t (by simp)
    have hq : isQ 0 = false := rfl
    rw [hq] at h0
    cases ts with
    | nil => simp only [List.map_cons, List.map_nil, joinF_one, List.flatten_cons, List.flatten_nil, List.append_nil]; omega
    | cons v ts =>
      have h1 := h.2 0 (by simp)
      have hv := (h.1 v (by simp)).1
      have hlt : ∀ x ∈ (v :: ts).flatten, x < 256 := by
        intro x hx
        obtain ⟨y, hy, hx'⟩ := List.mem_flatten.1 hx
        exact (h.1 y (by simp only [List.mem_cons] at hy ⊢; exact .inr hy)).2.2.1 x hx'
      simp only [Nat.zero_add, List.drop_succ_cons, List.drop_zero, List.getD_cons_zero] at h1
      rcases h1 with h1 | h1
      · rw [List.flatten_cons] at h1
        exact absurd (List.append_eq_nil_iff.1 h1).1 hv
      · have h2 := word_five h1
        have h3 := (rn_le (v :: ts).flatten).2
        rw [wordF_length] at h2
        unfold dataW at h2
        simp only [Bool.false_eq_true, if_false] at h2
        rw [encF_len _ (by
          intro x hx
          rcases List.mem_append.1 hx with hx | hx
          · exact h0.2.2.1 x hx
          · exact hlt x (List.mem_of_mem_take hx))] at h2
        rw [List.length_append, List.length_take] at h2
        simp only [List.map_cons, joinF_cons, List.length_append, List.length_cons, List.length_nil, List.flatten_cons] at IH ⊢
        omega
theorem limits_plain (p : Bool) : encR 0 (rep 2048 (unitC p)) = encR 0 (rep 2048 (unitC p)) ∧
    ∃ m : List Nat, encR 0 (rep 2048 (unitC p)) = (m, 0) ∧ decR m = (rep 2048 (unitC p), 0) ∧ (∀ x ∈ m, x < 256) ∧ m.length ≤ 16384 := by
  have hl : (rep 2048 (unitC p)).length = 4096 := by rw [rep_len, unitC_len]
  have hlt : ∀ x ∈ rep 2048 (unitC p), x < 256 := fun x hx => unitC_lt p x (rep_mem x hx)
  refine ⟨rfl, ?_⟩
  generalize hL : rep 2048 (unitC p) = L at hl hlt
  rcases encR_cases (enc := 0) (.inl rfl) hlt (by omega) with ⟨e, hp⟩ | ⟨e, hp⟩ | ⟨_, _, ts, hne, e, h2, h3⟩
  · rw [← hL, rep_prt (unitC_prt p)] at hp; cases hp
  · exact ⟨L, e, decR_plain hp (by omega), hlt, by omega⟩
  · have hsh := chunks_short ts h3
    rw [h2, hl] at hsh
    refine ⟨_, e, ?_, fun x hx => by have := chunks_range h3 x hx; omega, ?_⟩
    · rw [decR_chunks h3 hne (Nat.le_trans hsh (by decide)), h2]
    · exact Nat.le_trans hsh (by decide)
end Go.Proofs.YtbgggeobpiaamaaDoor
