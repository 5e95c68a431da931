/- Plain: the words of an encoded text, place by place. -/
import Derived.Test.YtbgggeobpiaamaaDoorRP
namespace Go.Proofs.YtbgggeobpiaamaaDoor
set_option linter.unusedVariables false

theorem plcs_len : ∀ (ws : List (List Nat)) (o : Nat), (plcs o ws).length = ws.length := by
  intro ws
  induction ws with
  | nil => intro o; rfl
  | cons w ws ih => intro o; simp [plcs, ih]
theorem plcs_facts : ∀ (ws : List (List Nat)) (pre l : List Nat), l = pre ++ joinF ws → ∀ i, i < ws.length →
    ((plcs pre.length ws).getD i (0, 0)).1 ≤ ((plcs pre.length ws).getD i (0, 0)).2 ∧ ((plcs pre.length ws).getD i (0, 0)).2 ≤ l.length ∧
    cut l ((plcs pre.length ws).getD i (0, 0)).1 ((plcs pre.length ws).getD i (0, 0)).2 = ws.getD i [] ∧
    (i = 0 → ((plcs pre.length ws).getD i (0, 0)).1 = pre.length) ∧ (i + 1 = ws.length → ((plcs pre.length ws).getD i (0, 0)).2 = l.length) ∧
    (i + 1 < ws.length → ((plcs pre.length ws).getD (i + 1) (0, 0)).1 = ((plcs pre.length ws).getD i (0, 0)).2 + 1) := by
  intro ws
  induction ws with
  | nil => intro pre l _ i hi; simp at hi
  | cons w ws ih =>
    intro pre l hl i hi
    cases ws with
    | nil =>
      obtain rfl : i = 0 := by simp at hi; exact hi
      rw [joinF_one] at hl
      have hc : cut l pre.length (pre.length + w.length) = w := by rw [hl]; have := cut_mid pre w []; rwa [List.append_nil] at this
      have hll : l.length = pre.length + w.length := by rw [hl, List.length_append]
      simp only [plcs, List.getD_cons_zero]
      exact ⟨by omega, by omega, hc, fun _ => trivial, fun _ => hll.symm, fun h => by simp at h⟩
    | cons v ws =>
      rw [joinF_cons] at hl
      have hc : cut l pre.length (pre.length + w.length) = w := by
        have := cut_mid pre w ([32] ++ joinF (v :: ws))
        rw [hl, show pre ++ (w ++ [32] ++ joinF (v :: ws)) = pre ++ w ++ ([32] ++ joinF (v :: ws)) by simp]
        exact this
      have hll : l.length = pre.length + w.length + 1 + (joinF (v :: ws)).length := by rw [hl]; simp; omega
      have IH := ih (pre ++ w ++ [32]) l (by rw [hl]; simp)
      simp only [List.length_append, List.length_singleton] at IH
      cases i with
      | zero =>
        have h0 := IH 0 (by simp)
        have e : plcs pre.length (w :: v :: ws) = (pre.length, pre.length + w.length) :: plcs (pre.length + w.length + 1) (v :: ws) := rfl
        rw [e, List.getD_cons_zero, List.getD_cons_zero, List.getD_cons_succ]
        refine ⟨by simp only; omega, by simp only; omega, hc, fun _ => rfl, fun h => by simp at h, fun _ => ?_⟩
        rw [h0.2.2.2.1 rfl]
      | succ i =>
        have h1 := IH i (by simpa using hi)
        have e : plcs pre.length (w :: v :: ws) = (pre.length, pre.length + w.length) :: plcs (pre.length + w.length + 1) (v :: ws) := rfl
        rw [e, List.getD_cons_succ, List.getD_cons_succ, List.getD_cons_succ]
        obtain ⟨a, b, c, _, d, f⟩ := h1
        exact ⟨a, b, c, fun h => by omega, fun h => d (by simpa using h), fun h => f (by simpa using h)⟩

/-- What the law of the longest words asks of an encoded text t of s: n words; A, B: their places; U: their texts; R: what is left. -/
structure MaxP (enc : Int) (s t : ByteArray) (n : Nat) (A B : Nat → Nat) (U R : Nat → ByteArray) : Prop where
  pos : 0 < n
  find : findR (bs t) = (List.range n).map (fun i => (A i, B i))
  le : ∀ i, i < n → A i ≤ B i ∧ B i ≤ t.size ∧ B i ≤ A i + 75
  parse : ∀ i, i < n → parseR (cut (bs t) (A i) (B i)) = (bs (U i), (if isQ enc = true then 1 else 0), 0)
  first : R 0 = s
  rest : ∀ i, i < n → R i = U i ++ R (i + 1)
  done : R n = ⟨#[]⟩
  most : ∀ i, i < n → (R (i + 1)).size ≠ 0 → wordR enc (bs (U i) ++ (bs (R (i + 1))).take (rn (bs (R (i + 1))))) = ([], 5)
  start : A 0 = 0
  next : ∀ i, i + 1 < n → A (i + 1) = B i + 1
  last : B (n - 1) = t.size
theorem strN_cat (a b : List Nat) : strN (a ++ b) = strN a ++ strN b := by
  apply ByteArray.ext
  simp [strN, ByteArray.data_append]
theorem flat_lt {ts : List (List Nat)} (h : ∀ t ∈ ts, ∀ x ∈ t, x < 256) (i : Nat) : ∀ x ∈ (ts.drop i).flatten, x < 256 := by
  intro x hx
  obtain ⟨t, ht, hx'⟩ := List.mem_flatten.1 hx
  exact h t (List.mem_of_mem_drop ht) x hx'
theorem drop_flat {ts : List (List Nat)} {i : Nat} (h : i < ts.length) : (ts.drop i).flatten = ts.getD i [] ++ (ts.drop (i + 1)).flatten := by
  rw [List.drop_eq_getElem_cons h, List.flatten_cons, List.getD_eq_getElem?_getD, List.getElem?_eq_getElem h, Option.getD_some]
theorem list_range_map {α : Type} (l : List α) (d : α) : l = (List.range l.length).map (fun i => l.getD i d) := by
  apply List.ext_getElem
  · simp
  · intro i h1 h2; simp [List.getD, h1]
theorem getD_map' {α β : Type} (f : α → β) (l : List α) (i : Nat) (a : α) (b : β) (h : i < l.length) : (l.map f).getD i b = f (l.getD i a) := by
  simp [List.getD, h]
theorem maxP_of {enc : Int} (he : enc = 0 ∨ enc = 1) {s : ByteArray} (hs : s.size ≤ 400) (hpl : plain (bs s) = false) : encR enc (bs s) = ([], 6) ∨
    ∃ (t : ByteArray) (n : Nat) (A B : Nat → Nat) (U R : Nat → ByteArray), encR enc (bs s) = (bs t, 0) ∧ t.size ≤ 10000 ∧ MaxP enc s t n A B U R := by
  rcases encR_cases he (bs_lt s) (by rw [bs_length]; omega) with ⟨e, _⟩ | ⟨_, hp⟩ | ⟨_, _, ts, hne, e, h2, h3⟩
  · exact .inl e
  · rw [hp] at hpl; cases hpl
  · right
    have hlen := chunks_len h3
    rw [h2, bs_length] at hlen
    have hb : bs (strN (joinF (ts.map (wordF (isQ enc))))) = joinF (ts.map (wordF (isQ enc))) := bs_strN _ (fun x hx => by have := chunks_range h3 x hx; omega)
    have hf : findR (joinF (ts.map (wordF (isQ enc)))) = plcs 0 (ts.map (wordF (isQ enc))) := findR_join (by simp [hne]) (chunks_wds h3) (chunks_ok h3) (by omega)
    have F := plcs_facts (ts.map (wordF (isQ enc))) [] (joinF (ts.map (wordF (isQ enc)))) rfl
    have hl := plcs_len (ts.map (wordF (isQ enc))) 0
    rw [List.length_map] at F hl
    have hlt := flat_lt (fun t ht => (h3.1 t ht).2.2.1)
    have mem : ∀ i, i < ts.length → ts.getD i [] ∈ ts := fun i hi => by rw [List.getD_eq_getElem?_getD, List.getElem?_eq_getElem hi, Option.getD_some]; exact List.getElem_mem hi
    have hbt : ∀ i, i < ts.length → bs (strN (ts.getD i [])) = ts.getD i [] := fun i hi => bs_strN _ (h3.1 _ (mem i hi)).2.2.1
    have wd : ∀ i, i < ts.length → (ts.map (wordF (isQ enc))).getD i [] = wordF (isQ enc) (ts.getD i []) := fun i hi => getD_map' _ ts i [] [] hi
    refine ⟨strN (joinF (ts.map (wordF (isQ enc)))), ts.length, fun i => ((plcs 0 (ts.map (wordF (isQ enc)))).getD i (0, 0)).1, fun i => ((plcs 0 (ts.map (wordF (isQ enc)))).getD i (0, 0)).2,
      fun i => strN (ts.getD i []), fun i => strN (ts.drop i).flatten, by rw [hb, e], by rw [strN_size]; omega, ?_⟩
    refine ⟨List.length_pos_iff.2 hne, ?_, ?_, ?_, ?_, ?_, ?_, ?_, ?_, ?_, ?_⟩
    · rw [hb, hf]
      conv => lhs; rw [list_range_map (plcs 0 (ts.map (wordF (isQ enc)))) (0, 0), hl]
    · intro i hi
      obtain ⟨a, b, c, _⟩ := F i hi
      simp only [List.length_nil] at a b c
      have hc := congrArg List.length c
      rw [cut_len b, wd i hi] at hc
      have := (h3.1 _ (mem i hi)).2.2.2
      rw [strN_size]
      exact ⟨a, b, by omega⟩
    · intro i hi
      obtain ⟨_, _, c, _⟩ := F i hi
      simp only [List.length_nil] at c
      rw [hb, c, wd i hi, chunk_parse h3 (mem i hi), hbt i hi]
    · simp only [List.drop_zero, h2, strN_bs]
    · intro i hi
      rw [drop_flat hi, strN_cat]
    · simp only [List.drop_length, List.flatten_nil]; rfl
    · intro i hi hr
      simp only [strN_size] at hr
      rw [hbt i hi, bs_strN _ (hlt (i + 1))]
      rcases h3.2 i hi with h | h
      · rw [h] at hr; exact absurd rfl hr
      · exact h
    · have := (F 0 (List.length_pos_iff.2 hne)).2.2.2.1 rfl
      exact this
    · intro i hi
      exact (F i (by omega)).2.2.2.2.2 hi
    · have hp := List.length_pos_iff.2 hne
      have := (F (ts.length - 1) (by omega)).2.2.2.2.1 (by omega)
      rw [strN_size]
      exact this
end Go.Proofs.YtbgggeobpiaamaaDoor
