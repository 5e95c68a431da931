/- Plain: decoding an encoded text returns the text. -/
import Derived.Test.YtbgggeobpiaamaaDoorCP
namespace Go.Proofs.YtbgggeobpiaamaaDoor
set_option linter.unusedVariables false

def vis (c : Nat) : Bool := decide (33 ≤ c) && decide (c ≤ 126)
theorem al_vis (g : Nat) (h : g < 64) : vis (al g) = true := (by decide : ∀ g, g < 64 → vis (al g) = true) g h
theorem encF_vis {l : List Nat} (hl : ∀ x ∈ l, x < 256) : ∀ x ∈ encF l, vis x = true := by
  rw [encF_sx l hl]
  intro x hx
  unfold pad4 at hx
  rcases List.mem_append.1 hx with hx | hx
  · obtain ⟨v, hv, rfl⟩ := List.mem_map.1 hx
    exact al_vis v ((sx_facts l.length l (Nat.le_refl _) hl).2.1 v hv)
  · rw [List.mem_replicate] at hx; rw [hx.2]; decide
theorem hx_vis (n : Nat) (h : n < 16) : vis (hx n) = true := (by decide : ∀ n, n < 16 → vis (hx n) = true) n h
theorem q1_vis {c : Nat} (hc : c < 256) : ∀ x ∈ q1 c, vis x = true := by
  intro x hx'
  unfold q1 at hx'
  split at hx'
  · rename_i h
    simp at hx'; subst hx'
    unfold itself at h; unfold vis
    simp only [Bool.or_eq_true, decide_eq_true_eq] at h
    simp; omega
  · split at hx'
    · simp at hx'; subst hx'; decide
    · have h1 := hx_vis (c / 16) (by omega); have h2 := hx_vis (c % 16) (by omega)
      simp at hx'
      rcases hx' with rfl | rfl | rfl
      · decide
      · exact h1
      · exact h2
theorem wQ_vis {l : List Nat} (h : ∀ x ∈ l, x < 256) : ∀ x ∈ wQ l, vis x = true := by
  intro x hx'
  unfold wQ at hx'
  obtain ⟨c, hc, hx''⟩ := List.mem_flatMap.1 hx'
  exact q1_vis (h c hc) x hx''
theorem wordF_vis (q : Bool) {l : List Nat} (h : ∀ x ∈ l, x < 256) : ∀ x ∈ wordF q l, vis x = true := by
  intro x hx
  rw [wordF_eq] at hx
  rcases List.mem_append.1 hx with hx | hx
  · have : ∀ q, ∀ x ∈ startF q, vis x = true := by intro q; cases q <;> decide
    exact this q x hx
  · rcases List.mem_append.1 hx with hx | hx
    · unfold dataW at hx
      split at hx
      · exact wQ_vis h x hx
      · exact encF_vis h x hx
    · simp at hx; rcases hx with rfl | rfl <;> decide
theorem vis_nb {c : Nat} (h : vis c = true) : blank c = false := by
  unfold vis at h; unfold blank
  simp at h ⊢; omega
theorem chunks_wds {enc : Int} {ts : List (List Nat)} (h : Chunks enc ts) : Wds (ts.map (wordF (isQ enc))) := by
  intro w hw
  obtain ⟨t, ht, rfl⟩ := List.mem_map.1 hw
  exact ⟨wordF_pos _ _, fun x hx => vis_nb (wordF_vis _ (h.1 t ht).2.2.1 x hx)⟩
theorem chunk_small {enc : Int} {ts : List (List Nat)} (h : Chunks enc ts) {t : List Nat} (ht : t ∈ ts) : t.length ≤ 75 := by
  obtain ⟨_, _, h3, h4⟩ := h.1 t ht
  have h5 := readW_inv (isQ enc) (dataW (isQ enc) t)
  have : t.length ≤ (dataW (isQ enc) t).length := by
    unfold dataW
    split
    · clear h5
      have : ∀ (l : List Nat), l.length ≤ (wQ l).length := by
        intro l
        induction l with
        | nil => simp
        | cons c l ih =>
          have e : wQ (c :: l) = q1 c ++ wQ l := by simp [wQ]
          have hq : 1 ≤ (q1 c).length := by unfold q1; split <;> (try split) <;> simp
          rw [e, List.length_append, List.length_cons]; omega
      exact this t
    · rw [encF_len t h3]; omega
  rw [wordF_length] at h4
  omega
theorem chunk_parse {enc : Int} {ts : List (List Nat)} (h : Chunks enc ts) {t : List Nat} (ht : t ∈ ts) : parseR (wordF (isQ enc) t) = (t, (if isQ enc = true then 1 else 0), 0) := by
  obtain ⟨h1, h2, h3, h4⟩ := h.1 t ht
  exact parse_wordF _ h1 h2 h3 (by have := chunk_small h ht; omega) h4
theorem chunks_ok {enc : Int} {ts : List (List Nat)} (h : Chunks enc ts) : ∀ w ∈ ts.map (wordF (isQ enc)), (parseR w).2.2 = 0 := by
  intro w hw
  obtain ⟨t, ht, rfl⟩ := List.mem_map.1 hw
  rw [chunk_parse h ht]
theorem chunks_text {enc : Int} {ts : List (List Nat)} (h : Chunks enc ts) : ((ts.map (wordF (isQ enc))).map (fun w => (parseR w).1)) = ts := by
  rw [List.map_map]
  conv => rhs; rw [← List.map_id ts]
  apply List.map_congr_left
  intro t ht
  simp only [Function.comp, chunk_parse h ht, id]

/-- How long the words are together. -/
theorem join_le (f : List Nat → List Nat) (a b : Nat) : ∀ (ts : List (List Nat)), (∀ t ∈ ts, (f t).length + 1 ≤ a * t.length + b) → (joinF (ts.map f)).length ≤ a * ts.flatten.length + b * ts.length := by
  intro ts
  induction ts with
  | nil => intro _; simp [joinF, List.intercalate]
  | cons t ts ih =>
    intro h
    have h1 := h t (by simp)
    have h2 := ih (fun x hx => h x (by simp [hx]))
    cases ts with
    | nil => simp only [List.map_cons, List.map_nil, joinF_one, List.flatten_cons, List.flatten_nil, List.append_nil, List.length_cons, List.length_nil]; omega
    | cons v ts =>
      simp only [List.map_cons, joinF_cons, List.length_append, List.flatten_cons, List.length_cons, List.length_nil, Nat.mul_add] at h2 ⊢
      omega
theorem count_le : ∀ (ts : List (List Nat)), (∀ t ∈ ts, t ≠ []) → ts.length ≤ ts.flatten.length := by
  intro ts
  induction ts with
  | nil => intro _; simp
  | cons t ts ih =>
    intro h
    have h1 := List.length_pos_iff.2 (h t (by simp))
    have h2 := ih (fun x hx => h x (by simp [hx]))
    rw [List.flatten_cons, List.length_append, List.length_cons]; omega
theorem dataW_le (q : Bool) {l : List Nat} (hl : ∀ x ∈ l, x < 256) : (dataW q l).length ≤ 4 * l.length := by
  unfold dataW
  split
  · have := wQ_len l; omega
  · rw [encF_len l hl]; omega
theorem chunks_len {enc : Int} {ts : List (List Nat)} (h : Chunks enc ts) : (joinF (ts.map (wordF (isQ enc)))).length ≤ 17 * ts.flatten.length := by
  have h1 := join_le (wordF (isQ enc)) 4 13 ts (fun t ht => by
    have := dataW_le (isQ enc) (h.1 t ht).2.2.1
    rw [wordF_length]; omega)
  have h2 := count_le ts (fun t ht => (h.1 t ht).1)
  omega

/-- Plain texts hold no words. -/
theorem hasEq_at : ∀ (a l : List Nat), hasEq (a ++ 61 :: 63 :: l) = true := by
  intro a
  induction a with
  | nil => intro l; simp [hasEq]
  | cons x a ih =>
    intro l
    cases a with
    | nil => have := ih l; simp [hasEq] at this ⊢
    | cons y a =>
      have := ih l
      simp only [List.cons_append] at this ⊢
      rw [hasEq, this]; simp
theorem low_sign {c : Nat} (h : low c = 61 ∨ low c = 63) : low c = c := by unfold low at *; split <;> (split at h <;> omega)
theorem frame_head {q : Bool} {l : List Nat} (h : framed q l = true) : ∃ m, l = 61 :: 63 :: m := by
  unfold framed at h
  simp only [Bool.and_eq_true, decide_eq_true_eq] at h
  obtain ⟨⟨h1, h2⟩, h3⟩ := h
  match l, h1, h2 with
  | a :: b :: m, _, h2 =>
    have e : lows ((a :: b :: m).take 10) = low a :: low b :: lows (m.take 8) := by simp [lows]
    have e2 : ∃ r, lows (startF q) = 61 :: 63 :: r := by cases q <;> exact ⟨_, rfl⟩
    obtain ⟨r, hr⟩ := e2
    rw [e, hr] at h2
    injection h2 with ha h2
    injection h2 with hb h2
    have := low_sign (.inl ha); have := low_sign (.inr hb)
    exact ⟨m, by rw [show a = 61 by omega, show b = 63 by omega]⟩
theorem parse_head {l : List Nat} (h : (parseR l).2.2 = 0) : ∃ m, l = 61 :: 63 :: m := by
  have h75 : ¬ 75 < l.length := fun h' => by rw [parse_long h'] at h; cases h
  cases h1 : tryW false l with
  | some t => exact frame_head (tryW_framed h1)
  | none =>
    cases h2 : tryW true l with
    | some t => exact frame_head (tryW_framed h2)
    | none => rw [parse_none h75 h1 h2] at h; cases h
theorem findR_plain {l : List Nat} (h : hasEq l = false) : findR l = [] := by
  unfold findR
  split
  · rfl
  · rw [List.filter_eq_nil_iff]
    intro x hx hok
    obtain ⟨m, hm⟩ := parse_head (of_decide_eq_true hok)
    have e : l = l.take x.1 ++ 61 :: 63 :: (m ++ l.drop x.2) := by
      have h3 : l.take x.2 = (l.take x.2).take x.1 ++ cut l x.1 x.2 := (List.take_append_drop x.1 (l.take x.2)).symm
      have hi := (tkSt_inv l (l.length + 1) (Nat.le_refl _)).2.2 x hx
      rw [List.take_take, Nat.min_eq_left (by omega), hm] at h3
      conv => lhs; rw [← List.take_append_drop x.2 l, h3]
      simp
    rw [e, hasEq_at] at h
    cases h
theorem plain_parts {l : List Nat} (h : plain l = true) : prt l = true ∧ (∀ x ∈ l, 32 ≤ x ∧ x ≤ 126) ∧ hasEq l = false := by
  unfold plain at h
  simp only [Bool.and_eq_true, Bool.not_eq_true'] at h
  obtain ⟨⟨h1, h2⟩, h3⟩ := h
  refine ⟨h1, fun x hx => ?_, h3⟩
  unfold prt at h1
  simp only [Bool.and_eq_true, Bool.not_eq_true', List.any_eq_false] at h1 h2
  have a := h1.2 x hx
  have b := h2 x hx
  unfold ctrl at a; unfold high at b
  simp at a b
  omega
theorem forb_no {l : List Nat} (h : ∀ x ∈ l, 32 ≤ x ∧ x ≤ 126) : l.any forb = false := by
  rw [List.any_eq_false]
  intro x hx
  have := h x hx
  unfold forb; simp; omega
theorem decR_plain {l : List Nat} (h : plain l = true) (hl : l.length ≤ 16384) : decR l = (l, 0) := by
  obtain ⟨h1, h2, h3⟩ := plain_parts h
  unfold decR
  rw [if_neg (by omega), if_neg (by rw [forb_no h2]; decide)]
  unfold decT
  rw [findR_plain h3]; simp [dcSt]
theorem join_range : ∀ (ws : List (List Nat)), (∀ w ∈ ws, ∀ x ∈ w, vis x = true) → ∀ x ∈ joinF ws, 32 ≤ x ∧ x ≤ 126 := by
  intro ws
  induction ws with
  | nil => intro _ x hx; simp [joinF, List.intercalate] at hx
  | cons w ws ih =>
    intro h x hx
    have key : vis x = true → 32 ≤ x ∧ x ≤ 126 := by intro h; unfold vis at h; simp at h; omega
    cases ws with
    | nil => rw [joinF_one] at hx; exact key (h w (by simp) x hx)
    | cons v ws =>
      rw [joinF_cons] at hx
      rcases List.mem_append.1 hx with hx | hx
      · rcases List.mem_append.1 hx with hx | hx
        · exact key (h w (by simp) x hx)
        · simp at hx; omega
      · exact ih (fun w hw => h w (by simp at hw ⊢; exact .inr hw)) x hx
theorem chunks_range {enc : Int} {ts : List (List Nat)} (h : Chunks enc ts) : ∀ x ∈ joinF (ts.map (wordF (isQ enc))), 32 ≤ x ∧ x ≤ 126 := by
  refine join_range _ (fun w hw => ?_)
  obtain ⟨t, ht, rfl⟩ := List.mem_map.1 hw
  exact wordF_vis _ (h.1 t ht).2.2.1
theorem decR_chunks {enc : Int} {ts : List (List Nat)} (h : Chunks enc ts) (hne : ts ≠ []) (hl : (joinF (ts.map (wordF (isQ enc)))).length ≤ 16384) : decR (joinF (ts.map (wordF (isQ enc)))) = (ts.flatten, 0) := by
  unfold decR
  rw [if_neg (by omega), if_neg (by rw [forb_no (chunks_range h)]; decide), decT_join (by simp [hne]) (chunks_wds h) (chunks_ok h) hl, chunks_text h]
/-- Words are longer than their texts. -/
theorem chunks_longer {enc : Int} {ts : List (List Nat)} (h : Chunks enc ts) (hne : ts ≠ []) : ts.flatten.length < (joinF (ts.map (wordF (isQ enc)))).length := by
  have : ∀ (ts : List (List Nat)), ts ≠ [] → (∀ t ∈ ts, t.length + 1 ≤ (wordF (isQ enc) t).length) → ts.flatten.length < (joinF (ts.map (wordF (isQ enc)))).length := by
    intro ts
    induction ts with
    | nil => intro h; exact absurd rfl h
    | cons t ts ih =>
      intro _ h
      have h1 := h t (by simp)
      cases ts with
      | nil => simp only [List.map_cons, List.map_nil, joinF_one, List.flatten_cons, List.flatten_nil, List.append_nil]; omega
      | cons v ts =>
        have h2 := ih (by simp) (fun x hx => h x (by simp at hx ⊢; exact .inr hx))
        simp only [List.map_cons, joinF_cons, List.length_append, List.length_singleton, List.flatten_cons] at h2 ⊢
        omega
  refine this ts hne (fun t ht => ?_)
  obtain ⟨_, _, h3, _⟩ := h.1 t ht
  rw [wordF_length]
  unfold dataW
  split
  · have : ∀ (l : List Nat), l.length ≤ (wQ l).length := by
      intro l
      induction l with
      | nil => simp
      | cons c l ih =>
        have e : wQ (c :: l) = q1 c ++ wQ l := by simp [wQ]
        have hq : 1 ≤ (q1 c).length := by unfold q1; split <;> (try split) <;> simp
        rw [e, List.length_append, List.length_cons]; omega
    have := this t
    omega
  · rw [encF_len t h3]; omega
/-- What Encode says, in short. -/
theorem encR_cases {enc : Int} (he : enc = 0 ∨ enc = 1) {l : List Nat} (hlt : ∀ x ∈ l, x < 256) (hl : l.length ≤ 4096) :
    encR enc l = ([], 6) ∧ prt l = false ∨ (encR enc l = (l, 0) ∧ plain l = true) ∨ (plain l = false ∧ prt l = true ∧ ∃ ts : List (List Nat), ts ≠ [] ∧ encR enc l = (joinF (ts.map (wordF (isQ enc))), 0) ∧ ts.flatten = l ∧ Chunks enc ts) := by
  unfold encR
  rw [if_neg (by omega), if_neg (by omega)]
  cases hp : prt l
  · left; simp
  · right
    cases hpl : plain l
    · right
      obtain ⟨ts, h1, h2, h3⟩ := wordsF_chunks he l.length l (Nat.le_refl _) hp hlt
      refine ⟨rfl, rfl, ts, ?_, by simp [h1], h2, h3⟩
      rintro rfl
      simp at h2
      subst h2
      cases hpl
    · left; simp
/-- The round trip. -/
theorem decR_encR {enc : Int} (he : enc = 0 ∨ enc = 1) {l : List Nat} (hlt : ∀ x ∈ l, x < 256) (hl : l.length ≤ 600) (h : (encR enc l).2 = 0) :
    decR (encR enc l).1 = (l, 0) ∧ (∀ x ∈ (encR enc l).1, 32 ≤ x ∧ x ≤ 126) ∧ ((encR enc l).1 = l ↔ plain l = true) ∧ (encR enc l).1.length ≤ 16384 := by
  rcases encR_cases he hlt (by omega) with ⟨e, _⟩ | ⟨e, hp⟩ | ⟨hp, _, ts, hne, e, h2, h3⟩
  · rw [e] at h; cases h
  · rw [e]; exact ⟨decR_plain (l := l) hp (by omega), (plain_parts hp).2.1, by simp [hp], Nat.le_trans hl (by decide)⟩
  · rw [e]
    have hlen := chunks_len h3
    rw [h2] at hlen
    refine ⟨?_, chunks_range h3, ?_, by show (joinF (ts.map (wordF (isQ enc)))).length ≤ 16384; omega⟩
    · rw [decR_chunks h3 hne (by omega), h2]
    · rw [hp]
      simp only [Bool.false_eq_true, iff_false]
      intro e2
      have := chunks_longer h3 hne
      rw [h2, e2] at this
      omega
end Go.Proofs.YtbgggeobpiaamaaDoor
