/- Plain: what Decode returns. -/
import Derived.Test.YtbgggeobpiaamaaDoorTP
import Derived.Test.YtbgggeobpiaamaaDoorEP
namespace Go.Proofs.YtbgggeobpiaamaaDoor
set_option linter.unusedVariables false
/-- One encoded word is decoded: where the rest begins, whether it follows a word, the text so far. -/
def dcStep (l : List Nat) (st : Nat × Bool × List Nat) (x : Nat × Nat) : Nat × Bool × List Nat :=
  (x.2, true, (if (st.2.1 && (cut l st.1 x.1).all blank) = true then st.2.2 else st.2.2 ++ cut l st.1 x.1) ++ (parseR (cut l x.1 x.2)).1)
def dcSt (l : List Nat) (ps : List (Nat × Nat)) : Nat × Bool × List Nat := ps.foldl (dcStep l) (0, false, [])
theorem dcSt_snoc (l : List Nat) (ps : List (Nat × Nat)) (x : Nat × Nat) : dcSt l (ps ++ [x]) = dcStep l (dcSt l ps) x := by simp [dcSt]
def decT (l : List Nat) : List Nat := (dcSt l (findR l)).2.2 ++ l.drop (dcSt l (findR l)).1
def decR (l : List Nat) : List Nat × Nat := if 16384 < l.length then ([], 5) else if l.any forb = true then ([], 6) else (decT l, 0)

theorem tkSt_fst (l : List Nat) : ∀ k, (tkSt l k).1 ≤ k := by
  intro k
  induction k with
  | zero => exact Nat.le_refl _
  | succ k ih =>
    rw [tkSt_succ]
    unfold tkStep
    split
    · omega
    · exact Nat.le_refl _
theorem tkSt_ord (l : List Nat) : ∀ k, (tkSt l k).2.Pairwise (fun x y => x.2 ≤ y.1) ∧ ∀ x ∈ (tkSt l k).2, x.2 ≤ (tkSt l k).1 := by
  intro k
  induction k with
  | zero => exact ⟨List.Pairwise.nil, fun x hx => by simp [tkSt] at hx⟩
  | succ k ih =>
    have h1 := tkSt_fst l k
    rw [tkSt_succ]
    unfold tkStep
    split
    · exact ih
    · simp only
      split
      · rename_i h
        refine ⟨List.pairwise_append.2 ⟨ih.1, List.pairwise_singleton _ _, fun x hx y hy => ?_⟩, fun x hx => ?_⟩
        · simp at hy; subst hy; exact ih.2 x hx
        · rcases List.mem_append.1 hx with hx | hx
          · have := ih.2 x hx; omega
          · simp at hx; subst hx; simp
      · rename_i h
        exact ⟨ih.1, fun x hx => by have := ih.2 x hx; omega⟩
theorem findR_ord (l : List Nat) : (findR l).Pairwise (fun x y => x.2 ≤ y.1) := by
  unfold findR
  split
  · exact List.Pairwise.nil
  · exact (tkSt_ord l _).1.filter _
theorem findR_in (l : List Nat) : ∀ x ∈ findR l, x.1 < x.2 ∧ x.2 ≤ l.length := by
  intro x hx
  unfold findR at hx
  split at hx
  · cases hx
  · exact (tkSt_inv l (l.length + 1) (Nat.le_refl _)).2.2 x (List.mem_filter.1 hx).1
theorem findR_len (l : List Nat) : (findR l).length ≤ l.length + 1 := by
  unfold findR
  split
  · simp
  · have h1 := List.length_filter_le (okTok l) (toks l)
    have h2 := (tkSt_inv l (l.length + 1) (Nat.le_refl _)).2.1
    unfold toks at *
    omega
theorem dcSt_from (l : List Nat) (ps : List (Nat × Nat)) : (dcSt l ps).1 = 0 ∨ ∃ x ∈ ps, (dcSt l ps).1 = x.2 := by
  rcases List.eq_nil_or_concat ps with rfl | ⟨qs, x, rfl⟩
  · exact .inl rfl
  · right
    rw [List.concat_eq_append, dcSt_snoc]
    exact ⟨x, by simp, rfl⟩
theorem dcSt_le {l : List Nat} {ps : List (Nat × Nat)} {j : Nat} (hj : j < ps.length) (hp : ps.Pairwise (fun x y => x.2 ≤ y.1)) : (dcSt l (ps.take j)).1 ≤ ps[j].1 := by
  rcases dcSt_from l (ps.take j) with h | ⟨x, hx, h⟩
  · omega
  · rw [h]
    obtain ⟨i, hi, rfl⟩ := List.getElem_of_mem hx
    rw [List.length_take] at hi
    rw [List.getElem_take]
    exact List.pairwise_iff_getElem.1 hp i j (by omega) hj (by omega)
theorem cut_len {l : List Nat} {a b : Nat} (hb : b ≤ l.length) : (cut l a b).length = b - a := by unfold cut; simp; omega
theorem cut_lt {l : List Nat} {a b : Nat} (h : ∀ x ∈ l, x < 256) : ∀ x ∈ cut l a b, x < 256 := fun x hx => h x (List.mem_of_mem_take (List.mem_of_mem_drop hx))
theorem parse_len {l : List Nat} (h : ∀ x ∈ l, x < 256) : (∀ x ∈ (parseR l).1, x < 256) ∧ (parseR l).1.length ≤ l.length := by
  have key : ∀ q t, tryW q l = some t → (∀ x ∈ t, x < 256) ∧ t.length ≤ l.length := by
    intro q t ht
    unfold tryW at ht
    split at ht
    · cases ht
      have a := readW_inv q (inner l) (inner_lt h)
      have b := inner_len l
      exact ⟨a.1, by omega⟩
    · cases ht
  unfold parseR
  split
  · simp
  · cases h1 : tryW false l with
    | some t => exact key false t h1
    | none =>
      cases h2 : tryW true l with
      | some t => exact key true t h2
      | none => simp
theorem dcSt_out {l : List Nat} (h : ∀ x ∈ l, x < 256) (ps : List (Nat × Nat)) (hp : ps.Pairwise (fun x y => x.2 ≤ y.1)) (hin : ∀ x ∈ ps, x.1 < x.2 ∧ x.2 ≤ l.length) :
    ∀ j, j ≤ ps.length → (dcSt l (ps.take j)).1 ≤ l.length ∧ (dcSt l (ps.take j)).2.2.length ≤ (dcSt l (ps.take j)).1 ∧ ∀ x ∈ (dcSt l (ps.take j)).2.2, x < 256 := by
  intro j
  induction j with
  | zero => intro _; simp [dcSt]
  | succ j ih =>
    intro hj
    have hj' : j < ps.length := by omega
    obtain ⟨a, b, c⟩ := ih (by omega)
    have hle := dcSt_le (l := l) hj' hp
    have hx := hin ps[j] (List.getElem_mem hj')
    rw [List.take_succ_eq_append_getElem hj', dcSt_snoc]
    have pl := parse_len (cut_lt (a := ps[j].1) (b := ps[j].2) h)
    rw [cut_len hx.2] at pl
    have cl := cut_len (l := l) (a := (dcSt l (ps.take j)).1) (b := ps[j].1) (by omega)
    refine ⟨hx.2, ?_, ?_⟩
    · simp only [dcStep]
      rw [List.length_append]
      split
      · omega
      · rw [List.length_append]; omega
    · simp only [dcStep]
      intro x hx'
      rcases List.mem_append.1 hx' with hx' | hx'
      · split at hx'
        · exact c x hx'
        · rcases List.mem_append.1 hx' with hx' | hx'
          · exact c x hx'
          · exact cut_lt h x hx'
      · exact pl.1 x hx'
end Go.Proofs.YtbgggeobpiaamaaDoor
