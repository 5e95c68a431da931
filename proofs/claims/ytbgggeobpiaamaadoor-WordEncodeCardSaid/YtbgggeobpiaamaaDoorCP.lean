/- Plain: an encoded text is found and decoded word by word. -/
import Derived.Test.YtbgggeobpiaamaaDoorBP
import Derived.Test.YtbgggeobpiaamaaDoorAP
namespace Go.Proofs.YtbgggeobpiaamaaDoor
set_option linter.unusedVariables false

theorem run_keep {l : List Nat} {st : Nat × List (Nat × Nat)} {k : Nat} (hk : tkSt l k = st) : ∀ m, (∀ i, k ≤ i → i < k + m → i < l.length ∧ blank (l.getD i 0) = false) → tkSt l (k + m) = st := by
  intro m
  induction m with
  | zero => intro _; exact hk
  | succ m ih =>
    intro h
    rw [← Nat.add_assoc, tkSt_succ, ih (fun i h1 h2 => h i h1 (by omega))]
    unfold tkStep
    rw [if_pos (h (k + m) (by omega) (by omega))]
/-- The places of words that stand one blank apart, from o on. -/
def plcs : Nat → List (List Nat) → List (Nat × Nat)
  | _, [] => []
  | o, w :: ws => (o, o + w.length) :: plcs (o + w.length + 1) ws
/-- A list of words. -/
def Wds (ws : List (List Nat)) : Prop := ∀ w ∈ ws, w ≠ [] ∧ ∀ x ∈ w, blank x = false
theorem joinF_one (w : List Nat) : joinF [w] = w := by simp [joinF, List.intercalate]
theorem joinF_cons (w v : List Nat) (ws : List (List Nat)) : joinF (w :: v :: ws) = w ++ [32] ++ joinF (v :: ws) := by
  simp [joinF, List.intercalate, List.intersperse_cons_cons]
theorem getD_mid {a b c : List Nat} {i : Nat} (h1 : a.length ≤ i) (h2 : i < a.length + b.length) : (a ++ b ++ c).getD i 0 ∈ b := by
  have e : (a ++ b ++ c).getD i 0 = b[i - a.length]'(by omega) := by
    simp only [List.getD, List.append_assoc]
    rw [List.getElem?_append_right h1, List.getElem?_append_left (by omega), List.getElem?_eq_getElem (by omega), Option.getD_some]
  rw [e]; exact List.getElem_mem _
theorem getD_at {a b : List Nat} {c : Nat} : (a ++ [c] ++ b).getD a.length 0 = c := by simp [List.getD]
theorem toks_join : ∀ (ws : List (List Nat)) (pre : List Nat) (acc : List (Nat × Nat)) (l : List Nat), ws ≠ [] → Wds ws → l = pre ++ joinF ws → tkSt l pre.length = (pre.length, acc) → toks l = acc ++ plcs pre.length ws := by
  intro ws
  induction ws with
  | nil => intro _ _ _ h; exact absurd rfl h
  | cons w ws ih =>
    intro pre acc l _ hw hl hst
    obtain ⟨hne, hb⟩ := hw w (by simp)
    have hpos : 0 < w.length := List.length_pos_iff.2 hne
    cases ws with
    | nil =>
      rw [joinF_one] at hl
      have hll : l.length = pre.length + w.length := by rw [hl, List.length_append]
      have h1 := run_keep hst w.length (fun i h1 h2 => ⟨by omega, hb _ (by have := getD_mid (a := pre) (b := w) (c := []) h1 h2; rw [List.append_nil, ← hl] at this; exact this)⟩)
      unfold toks
      rw [tkSt_succ, hll, h1]
      unfold tkStep
      rw [if_neg (by omega), if_pos (by simp only; omega)]
      rfl
    | cons v ws =>
      rw [joinF_cons] at hl
      have hll : l.length = pre.length + w.length + 1 + (joinF (v :: ws)).length := by rw [hl]; simp; omega
      have h1 := run_keep hst w.length (fun i h1 h2 => ⟨by omega, hb _ (by
        have := getD_mid (a := pre) (b := w) (c := [32] ++ joinF (v :: ws)) h1 h2
        rw [show pre ++ w ++ ([32] ++ joinF (v :: ws)) = l by rw [hl]; simp] at this; exact this)⟩)
      have hbl : l.getD (pre.length + w.length) 0 = 32 := by
        have := getD_at (a := pre ++ w) (b := joinF (v :: ws)) (c := 32)
        rw [List.length_append] at this
        rw [hl, ← this]; simp
      have h2 : tkSt l (pre.length + w.length + 1) = (pre.length + w.length + 1, acc ++ [(pre.length, pre.length + w.length)]) := by
        rw [tkSt_succ, h1]
        unfold tkStep
        rw [if_neg (by rw [hbl]; simp [blank]), if_pos (by simp only; omega)]
      have h3 := ih (pre ++ w ++ [32]) (acc ++ [(pre.length, pre.length + w.length)]) l (by simp) (fun x hx => hw x (by simp at hx ⊢; exact .inr hx)) (by rw [hl]; simp) (by simp only [List.length_append, List.length_singleton]; exact h2)
      rw [h3]
      simp [plcs, Nat.add_assoc]
theorem cut_mid (a b c : List Nat) : cut (a ++ b ++ c) a.length (a.length + b.length) = b := by
  unfold cut
  rw [← List.length_append, List.take_left, List.drop_left]
theorem filter_plcs : ∀ (ws : List (List Nat)) (pre : List Nat) (l : List Nat), l = pre ++ joinF ws → (∀ w ∈ ws, (parseR w).2.2 = 0) → (plcs pre.length ws).filter (okTok l) = plcs pre.length ws := by
  intro ws
  induction ws with
  | nil => intro pre l _ _; rfl
  | cons w ws ih =>
    intro pre l hl hok
    have hc : cut l pre.length (pre.length + w.length) = w := by
      cases ws with
      | nil => rw [hl, joinF_one]; have := cut_mid pre w []; rwa [List.append_nil] at this
      | cons v ws =>
        rw [hl, joinF_cons]; have := cut_mid pre w ([32] ++ joinF (v :: ws))
        rw [show pre ++ (w ++ [32] ++ joinF (v :: ws)) = pre ++ w ++ ([32] ++ joinF (v :: ws)) by simp]
        exact this
    have h1 : okTok l (pre.length, pre.length + w.length) = true := by unfold okTok; simp only [hc]; exact decide_eq_true (hok w (by simp))
    simp only [plcs, List.filter_cons, h1, if_true]
    congr 1
    cases ws with
    | nil => rfl
    | cons v ws =>
      have := ih (pre ++ w ++ [32]) l (by rw [hl, joinF_cons]; simp) (fun x hx => hok x (by simp at hx ⊢; exact .inr hx))
      simp only [List.length_append, List.length_singleton] at this
      exact this
theorem findR_join {ws : List (List Nat)} (hne : ws ≠ []) (hw : Wds ws) (hok : ∀ w ∈ ws, (parseR w).2.2 = 0) (hlen : (joinF ws).length ≤ 16384) : findR (joinF ws) = plcs 0 ws := by
  unfold findR
  rw [if_neg (by omega), toks_join ws [] [] (joinF ws) hne hw rfl rfl]
  exact filter_plcs ws [] (joinF ws) rfl hok
theorem cut_self (l : List Nat) (a : Nat) : cut l a a = [] := by unfold cut; simp
theorem cut_last {a b : List Nat} {c : Nat} : cut (a ++ [c] ++ b) a.length (a.length + 1) = [c] := cut_mid a [c] b
/-- What the words behind the first say. -/
theorem dec_plcs : ∀ (ws : List (List Nat)) (pre acc l : List Nat), ws ≠ [] → l = pre ++ [32] ++ joinF ws →
    (plcs (pre.length + 1) ws).foldl (dcStep l) (pre.length, true, acc) = (l.length, true, acc ++ (ws.map (fun w => (parseR w).1)).flatten) := by
  intro ws
  induction ws with
  | nil => intro _ _ _ h; exact absurd rfl h
  | cons w ws ih =>
    intro pre acc l _ hl
    have hb : (cut l pre.length (pre.length + 1)).all blank = true := by rw [hl, cut_last]; rfl
    have hc : cut l (pre.length + 1) (pre.length + 1 + w.length) = w := by
      cases ws with
      | nil => rw [hl, joinF_one]; have := cut_mid (pre ++ [32]) w []; rw [List.append_nil, List.length_append] at this; exact this
      | cons v ws =>
        rw [hl, joinF_cons]; have := cut_mid (pre ++ [32]) w ([32] ++ joinF (v :: ws))
        rw [List.length_append] at this
        rw [show (pre ++ [32] ++ (w ++ [32] ++ joinF (v :: ws))) = pre ++ [32] ++ w ++ ([32] ++ joinF (v :: ws)) by simp]
        exact this
    have h1 : dcStep l (pre.length, true, acc) (pre.length + 1, pre.length + 1 + w.length) = (pre.length + 1 + w.length, true, acc ++ (parseR w).1) := by
      unfold dcStep
      simp only [hb, hc, Bool.and_self, if_true]
    simp only [plcs, List.foldl_cons, h1]
    cases ws with
    | nil => rw [hl, joinF_one]; simp [plcs]; omega
    | cons v ws =>
      have := ih (pre ++ [32] ++ w) (acc ++ (parseR w).1) l (by simp) (by rw [hl, joinF_cons]; simp)
      simp only [List.length_append, List.length_singleton] at this
      rw [this]; simp
theorem decT_join {ws : List (List Nat)} (hne : ws ≠ []) (hw : Wds ws) (hok : ∀ w ∈ ws, (parseR w).2.2 = 0) (hlen : (joinF ws).length ≤ 16384) : decT (joinF ws) = (ws.map (fun w => (parseR w).1)).flatten := by
  unfold decT
  rw [findR_join hne hw hok hlen]
  cases ws with
  | nil => exact absurd rfl hne
  | cons w ws =>
    have hc : cut (joinF (w :: ws)) 0 w.length = w := by
      cases ws with
      | nil => rw [joinF_one]; have := cut_mid [] w []; rw [List.append_nil, List.nil_append] at this; simpa using this
      | cons v ws => rw [joinF_cons]; have := cut_mid [] w ([32] ++ joinF (v :: ws)); simpa using this
    have h1 : dcStep (joinF (w :: ws)) (0, false, []) (0, 0 + w.length) = (w.length, true, (parseR w).1) := by
      unfold dcStep
      simp [cut_self, hc]
    unfold dcSt
    simp only [plcs, List.foldl_cons, h1]
    cases ws with
    | nil => rw [joinF_one]; simp [plcs]
    | cons v ws =>
      have := dec_plcs (v :: ws) w (parseR w).1 (joinF (w :: v :: ws)) (by simp) (joinF_cons w v ws)
      simp only [Nat.zero_add] at this ⊢
      rw [this]; simp

/-- Where the search for the longest word ends, one character more is too much. -/
theorem lgN_max {enc : Int} {l : List Nat} : ∀ k n, vld (l.drop n) = true → n ≤ l.length → l.length + 1 ≤ k + n → ¬ (lgN enc l k n < l.length ∧ (wordR enc (l.take (lgN enc l k n + rn (l.drop (lgN enc l k n))))).2 = 0) := by
  intro k
  induction k with
  | zero => intro n _ h1 h2; omega
  | succ k ih =>
    intro n hv h1 h2
    rw [lgN]
    split
    · rename_i c
      have hne : l.drop n ≠ [] := by intro e; have := congrArg List.length e; rw [List.length_drop] at this; simp at this; omega
      have h3 := vld_step hne
      rw [hv] at h3
      have h4 := Bool.and_eq_true_iff.1 h3.symm
      have h5 : rn (l.drop n) ≠ 0 := of_decide_eq_true h4.1
      have h6 := (rn_le (l.drop n)).1
      rw [List.length_drop] at h6
      exact ih _ (by rw [← List.drop_drop]; exact h4.2) (by omega) (by omega)
    · rename_i c; exact c
theorem wordR_eq {enc : Int} (he : enc = 0 ∨ enc = 1) {l : List Nat} (hne : l ≠ []) (hp : prt l = true) : (wordR enc l).2 = 0 ∨ wordR enc l = ([], 5) := by
  by_cases h : 75 < (wordF (isQ enc) l).length
  · right; unfold wordR; rw [if_neg (by omega), if_neg hne, if_neg (by rw [hp]; decide), if_pos h]
  · left; exact (wordR_short he hne hp).2 (by omega)
/-- The texts of the words of a text. -/
def Chunks (enc : Int) (ts : List (List Nat)) : Prop :=
  (∀ t ∈ ts, t ≠ [] ∧ prt t = true ∧ (∀ x ∈ t, x < 256) ∧ (wordF (isQ enc) t).length ≤ 75) ∧
  ∀ i, i < ts.length → (ts.drop (i + 1)).flatten = [] ∨ wordR enc (ts.getD i [] ++ ((ts.drop (i + 1)).flatten).take (rn (ts.drop (i + 1)).flatten)) = ([], 5)
theorem chunks_nil (enc : Int) : Chunks enc [] := ⟨fun t h => absurd h (by simp), fun i h => absurd h (by simp)⟩
theorem wordsF_chunks {enc : Int} (he : enc = 0 ∨ enc = 1) : ∀ (n : Nat) (l : List Nat), l.length ≤ n → prt l = true → (∀ x ∈ l, x < 256) → ∃ ts : List (List Nat), wordsF enc l = ts.map (wordF (isQ enc)) ∧ ts.flatten = l ∧ Chunks enc ts := by
  intro n
  induction n with
  | zero =>
    intro l hl hp hlt
    obtain rfl : l = [] := List.length_eq_zero_iff.1 (by omega)
    exact ⟨[], rfl, rfl, chunks_nil enc⟩
  | succ n ih =>
    intro l hl hp hlt
    by_cases h0 : l = []
    · subst h0; exact ⟨[], rfl, rfl, chunks_nil enc⟩
    · have hpos := lgF_pos he h0 hp hlt
      have hle := lgF_le enc l
      have hpd := lgF_prt (enc := enc) hp
      obtain ⟨ts, h1, h2, h3⟩ := ih (l.drop (lgF enc l)) (by rw [List.length_drop]; omega) hpd (fun x hx => hlt x (List.mem_of_mem_drop hx))
      obtain ⟨g1, g2, g3, g4⟩ := lgW_word he h0 hp hlt
      have h4 := h3.2
      have h3 := h3.1
      refine ⟨l.take (lgF enc l) :: ts, ?_, ?_, ⟨?_, ?_⟩⟩
      · rw [wordsF_step he h0 hp hlt, h1, g1]; rfl
      · rw [List.flatten_cons, h2, List.take_append_drop]
      · intro t ht
        rcases List.mem_cons.1 ht with rfl | ht
        · exact ⟨g3, g2, fun x hx => hlt x (List.mem_of_mem_take hx), g4⟩
        · exact h3 t ht
      · intro i hi
        cases i with
        | succ i => exact h4 i (by simpa using hi)
        | zero =>
          simp only [List.getD_cons_zero, Nat.zero_add, List.drop_succ_cons, List.drop_zero, h2]
          by_cases hr : l.drop (lgF enc l) = []
          · exact .inl hr
          · right
            have hlt2 : lgF enc l < l.length := by have := List.length_pos_iff.2 hr; rw [List.length_drop] at this; omega
            have hm := lgN_max (enc := enc) (l := l) (l.length + 1) 0 (by rw [List.drop_zero]; exact vld_prt hp) (by omega) (by omega)
            rw [show lgN enc l (l.length + 1) 0 = lgF enc l from rfl] at hm
            rw [← List.take_add]
            have ht := prt_take_step g2 hr hpd
            have hne2 : l.take (lgF enc l + rn (l.drop (lgF enc l))) ≠ [] := by intro e; have := congrArg List.length e; rw [List.length_take, List.length_nil] at this; omega
            rcases wordR_eq he hne2 ht with h | h
            · exact absurd ⟨hlt2, h⟩ hm
            · exact h
end Go.Proofs.YtbgggeobpiaamaaDoor
