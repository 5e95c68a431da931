/- Plain: an encoded word is parsed back to its text. -/
import Derived.Test.YtbgggeobpiaamaaDoorDP
namespace Go.Proofs.YtbgggeobpiaamaaDoor
set_option linter.unusedVariables false
theorem hv_hx' (n : Nat) (h : n < 16) : hv (hx n) = some n := hv_hx ⟨n, h⟩
theorem rQ_q1 {c : Nat} (hc : c < 256) (m : List Nat) : rQ (q1 c ++ m) = (rQ m).map (c :: ·) := by
  unfold q1
  split
  · rename_i h; rw [List.singleton_append, rQ_cons, if_pos h]
  · rename_i h
    split
    · rename_i h2; subst h2; rw [List.singleton_append, rQ_cons, if_neg (by decide), if_pos rfl]
    · rw [List.cons_append, rQ_cons, if_neg (by decide), if_neg (by decide), if_pos rfl]
      simp only [List.cons_append, List.nil_append, rQ3, hv_hx' (c / 16) (by omega), hv_hx' (c % 16) (by omega)]
      rw [show 16 * (c / 16) + c % 16 = c by omega]
theorem rQ_wQ : ∀ (l : List Nat), (∀ x ∈ l, x < 256) → rQ (wQ l) = some l
  | [], _ => rfl
  | c :: l, h => by
    have e : wQ (c :: l) = q1 c ++ wQ l := by simp [wQ]
    rw [e, rQ_q1 (h c (by simp)), rQ_wQ l (fun x hx => h x (by simp [hx]))]
    rfl
theorem wQ_rQ : ∀ (n : Nat) (m t : List Nat), m.length ≤ n → rQ m = some t → (wQ t).length ≤ m.length := by
  intro n
  induction n with
  | zero =>
    intro m t hl h
    obtain rfl : m = [] := List.length_eq_zero_iff.1 (by omega)
    simp [rQ] at h; subst h; simp [wQ]
  | succ n ih =>
    intro m t hl h
    cases m with
    | nil => simp [rQ] at h; subst h; simp [wQ]
    | cons c m =>
      rw [rQ_cons] at h
      have hl' : m.length ≤ n := by simpa using hl
      have e : ∀ x (ys : List Nat), wQ (x :: ys) = q1 x ++ wQ ys := fun x ys => by simp [wQ]
      split at h
      · rename_i hi
        obtain ⟨ys, hy, rfl⟩ := Option.map_eq_some_iff.1 h
        have := ih m ys hl' hy
        have hq : q1 c = [c] := by unfold q1; rw [if_pos hi]
        rw [e, hq]; simp; omega
      · split at h
        · obtain ⟨ys, hy, rfl⟩ := Option.map_eq_some_iff.1 h
          have := ih m ys hl' hy
          have hq : q1 32 = [95] := by decide
          rw [e, hq]; simp; omega
        · split at h
          · match m, hl', h with
            | [], _, h => simp [rQ3] at h
            | [_], _, h => simp [rQ3] at h
            | u :: v :: m, hl', h =>
              simp only [rQ3] at h
              cases h1 : hv u with
              | none => simp [h1] at h
              | some x =>
                cases h2 : hv v with
                | none => simp [h1, h2] at h
                | some y =>
                  simp only [h1, h2] at h
                  obtain ⟨ys, hy, rfl⟩ := Option.map_eq_some_iff.1 h
                  have := ih m ys (by simp at hl'; omega) hy
                  have hq := q1_len (16 * x + y)
                  rw [e, List.length_append]; simp; omega
          · cases h
theorem wordF_eq (q : Bool) (t : List Nat) : wordF q t = startF q ++ (dataW q t ++ [63, 61]) := by simp [wordF, startF]
theorem startF_len (q : Bool) : (startF q).length = 10 := by simp [startF, pre8]
theorem wordF_length (q : Bool) (t : List Nat) : (wordF q t).length = (dataW q t).length + 12 := by rw [wordF_eq]; simp [startF_len]; omega
theorem inner_wordF (q : Bool) (t : List Nat) : inner (wordF q t) = dataW q t := by
  unfold inner
  rw [wordF_length, show (dataW q t).length + 12 - 2 = 10 + (dataW q t).length by omega, wordF_eq, List.take_append, startF_len, List.take_of_length_le (by rw [startF_len]; omega), List.drop_append, List.drop_of_length_le (by rw [startF_len]; omega), startF_len, Nat.sub_self, List.drop_zero, List.nil_append]
  rw [show 10 + (dataW q t).length - 10 = (dataW q t).length by omega, List.take_left']
  rfl
theorem framed_wordF (q : Bool) (t : List Nat) : framed q (wordF q t) = true := by
  have h1 : (wordF q t).take 10 = startF q := by rw [wordF_eq, List.take_left' (startF_len q)]
  have h2 : (wordF q t).drop ((wordF q t).length - 2) = [63, 61] := by
    rw [wordF_length, wordF_eq, ← List.append_assoc, List.drop_left' (by rw [List.length_append, startF_len]; omega)]
  unfold framed
  rw [h1, h2, wordF_length]
  simp
theorem readW_data (q : Bool) {t : List Nat} (ht : ∀ x ∈ t, x < 256) (hl : t.length ≤ 131072) : readW q (dataW q t) = (t, 0) := by
  unfold readW dataW
  cases q
  · simp [dec_enc t ht hl]
  · simp [rQres_some (rQ_wQ t ht)]
theorem parse_wordF (q : Bool) {t : List Nat} (hne : t ≠ []) (hp : prt t = true) (ht : ∀ x ∈ t, x < 256) (hl : t.length ≤ 131072) (h75 : (wordF q t).length ≤ 75) : parseR (wordF q t) = (t, (if q = true then 1 else 0), 0) := by
  have h := readW_data q ht hl
  refine parse_one q (by omega) ?_
  unfold tryW
  rw [inner_wordF, h, if_pos ⟨framed_wordF q t, rfl, hne, hp⟩]
theorem parse_err {l : List Nat} (h : (parseR l).2.2 ≠ 0) : (parseR l).1 = [] ∧ (parseR l).2.1 = 0 := by
  by_cases h75 : 75 < l.length
  · rw [parse_long h75]; exact ⟨rfl, rfl⟩
  · cases h1 : tryW false l with
    | some t => rw [parse_one false h75 h1] at h; exact absurd rfl h
    | none =>
      cases h2 : tryW true l with
      | some t => rw [parse_one true h75 h2] at h; exact absurd rfl h
      | none => rw [parse_none h75 h1 h2]; exact ⟨rfl, rfl⟩
theorem data_back (q : Bool) {m t : List Nat} (h : readW q m = (t, 0)) : (dataW q t).length ≤ m.length := by
  unfold readW at h
  unfold dataW
  cases q
  · simp only [Bool.false_eq_true, if_false] at h ⊢
    have h1 : (decF m).1 = t := congrArg Prod.fst h
    have h2 : (decF m).2.2 = 0 := congrArg Prod.snd h
    have := (enc_dec m h2).1
    rw [h1] at this
    rw [this]
    exact Nat.le_refl _
  · simp only [if_true] at h ⊢
    cases hr : rQ m with
    | none => rw [rQres_none hr] at h; cases h
    | some xs =>
      rw [rQres_some hr] at h
      cases h
      exact wQ_rQ m.length m t (Nat.le_refl _) hr
/-- What an accepted text is. -/
theorem parse_ok {l : List Nat} (hlt : ∀ x ∈ l, x < 256) (h : (parseR l).2.2 = 0) :
    ∃ q : Bool, (parseR l).2.1 = (if q = true then 1 else 0) ∧ (parseR l).1 ≠ [] ∧ prt (parseR l).1 = true ∧ (∀ x ∈ (parseR l).1, x < 256) ∧ (parseR l).1.length ≤ 75 ∧ (wordF q (parseR l).1).length ≤ l.length ∧ l.length ≤ 75 ∧ tryW q l = some (parseR l).1 := by
  have h75 : ¬ 75 < l.length := fun h' => by rw [parse_long h'] at h; cases h
  have key : ∀ q t, tryW q l = some t → t ≠ [] ∧ prt t = true ∧ (∀ x ∈ t, x < 256) ∧ t.length ≤ 75 ∧ (wordF q t).length ≤ l.length := by
    intro q t ht
    have hf := tryW_framed ht
    unfold tryW at ht
    split at ht
    · rename_i c
      cases ht
      obtain ⟨_, c2, c3, c4⟩ := c
      have hi := readW_inv q (inner l) (inner_lt hlt)
      have h12 : 12 ≤ l.length := by unfold framed at hf; simp only [Bool.and_eq_true, decide_eq_true_eq] at hf; exact hf.1.1
      have hil : (inner l).length = l.length - 12 := by unfold inner; simp; omega
      have hb := data_back q (m := inner l) (t := (readW q (inner l)).1) (by rw [← c2])
      exact ⟨c3, c4, hi.1, by omega, by rw [wordF_length]; omega⟩
    · cases ht
  cases h1 : tryW false l with
  | some t =>
    have hp := parse_one false h75 h1
    rw [hp]
    obtain ⟨a, b, c, d, e⟩ := key false t h1
    exact ⟨false, rfl, a, b, c, d, e, by omega, h1⟩
  | none =>
    cases h2 : tryW true l with
    | some t =>
      have hp := parse_one true h75 h2
      rw [hp]
      obtain ⟨a, b, c, d, e⟩ := key true t h2
      exact ⟨true, rfl, a, b, c, d, e, by omega, h2⟩
    | none => rw [parse_none h75 h1 h2] at h; cases h
end Go.Proofs.YtbgggeobpiaamaaDoor
