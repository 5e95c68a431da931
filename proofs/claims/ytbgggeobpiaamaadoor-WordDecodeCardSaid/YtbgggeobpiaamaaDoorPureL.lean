/- Plain laws of base64: encoding and decoding are inverse to each other; encodings can be concatenated. No program in sight. -/
import Derived.Test.YtbgggeobpiaamaaDoorPureR
namespace Go.Proofs.YtbgggeobpiaamaaDoor
set_option linter.unusedVariables false

/-- The groups of six bits of a list of bytes. -/
def sx : List Nat → List Nat
  | x :: y :: z :: r => [x / 4, x % 4 * 16 + y / 16, y % 16 * 4 + z / 64, z % 64] ++ sx r
  | [x, y] => [x / 4, x % 4 * 16 + y / 16, y % 16 * 4]
  | [x] => [x / 4, x % 4 * 16]
  | [] => []
/-- The bytes of a list of groups of six bits, and the bits that are left. -/
def dv : List Nat → Nat × List Nat
  | a :: b :: c :: d :: r => ((dv r).1, [a * 4 + b / 16, b % 16 * 16 + c / 4, c % 4 * 64 + d] ++ (dv r).2)
  | [a, b, c] => (c % 4, [a * 4 + b / 16, b % 16 * 16 + c / 4])
  | [a, b] => (b % 16, [a * 4 + b / 16])
  | [a] => (a, [])
  | [] => (0, [])

theorem enc_a (xs : List Nat) (x : Nat) : encStep (0, 0, xs) x = (x % 4, 2, xs ++ [al (x / 4)]) := by simp [encStep, drain]
theorem enc_b (xs : List Nat) (b y : Nat) (hy : y < 256) : encStep (b, 2, xs) y = (y % 16, 4, xs ++ [al (b * 16 + y / 16)]) := by
  simp [encStep, drain]
  refine ⟨by omega, ?_⟩
  congr 1; omega
theorem enc_c (xs : List Nat) (b z : Nat) (hz : z < 256) : encStep (b, 4, xs) z = (0, 0, xs ++ [al (b * 4 + z / 64), al (z % 64)]) := by
  simp [encStep, drain]
  refine ⟨by omega, ?_, ?_⟩
  · congr 1; omega
  · congr 1; omega
theorem enc_fold (n : Nat) : ∀ (l : List Nat), l.length ≤ n → (∀ x ∈ l, x < 256) → ∀ xs, encTail (l.foldl encStep (0, 0, xs)) = xs ++ (sx l).map al := by
  induction n using Nat.strongRecOn with
  | _ n ih =>
    intro l hl hb xs
    match l, hl, hb with
    | [], _, _ => simp [encTail, sx]
    | [x], _, _ =>
      simp only [List.foldl_cons, List.foldl_nil, enc_a]
      simp [encTail, sx]
    | [x, y], _, hb =>
      simp only [List.foldl_cons, List.foldl_nil, enc_a, enc_b _ _ y (hb y (by simp))]
      simp [encTail, sx]
    | x :: y :: z :: r, hl, hb =>
      simp only [List.foldl_cons, enc_a, enc_b _ _ y (hb y (by simp)), enc_c _ _ z (hb z (by simp))]
      rw [ih (n - 1) (by simp at hl; omega) r (by simp at hl; omega) (fun w hw => hb w (by simp [hw]))]
      simp [sx]
theorem encTail_sx (l : List Nat) (hb : ∀ x ∈ l, x < 256) : encTail (encSt l) = (sx l).map al := by
  have := enc_fold l.length l (Nat.le_refl _) hb []
  simpa [encSt] using this

theorem dec_a (xs : List Nat) (a : Nat) : decStep (0, 0, xs) a = (a, 6, xs) := by simp [decStep, drain]
theorem dec_b (xs : List Nat) (a b : Nat) (hb : b < 64) : decStep (a, 6, xs) b = (b % 16, 4, xs ++ [a * 4 + b / 16]) := by
  simp [decStep, drain]
  refine ⟨by omega, by omega⟩
theorem dec_c (xs : List Nat) (b c : Nat) (hc : c < 64) : decStep (b, 4, xs) c = (c % 4, 2, xs ++ [b * 16 + c / 4]) := by
  simp [decStep, drain]
  refine ⟨by omega, by omega⟩
theorem dec_d (xs : List Nat) (c d : Nat) : decStep (c, 2, xs) d = (0, 0, xs ++ [c * 64 + d]) := by
  simp [decStep, drain]
  omega
theorem dec_fold (n : Nat) : ∀ (l : List Nat), l.length ≤ n → (∀ x ∈ l, x < 64) → ∀ xs, (l.foldl decStep (0, 0, xs)).1 = (dv l).1 ∧ (l.foldl decStep (0, 0, xs)).2.2 = xs ++ (dv l).2 := by
  induction n using Nat.strongRecOn with
  | _ n ih =>
    intro l hl hb xs
    match l, hl, hb with
    | [], _, _ => simp [dv]
    | [a], _, _ => simp [dv, dec_a]
    | [a, b], _, hb =>
      simp only [List.foldl_cons, List.foldl_nil, dec_a, dec_b _ _ b (hb b (by simp))]
      simp [dv]
    | [a, b, c], _, hb =>
      simp only [List.foldl_cons, List.foldl_nil, dec_a, dec_b _ _ b (hb b (by simp)), dec_c _ _ c (hb c (by simp))]
      simp [dv]
    | a :: b :: c :: d :: r, hl, hb =>
      simp only [List.foldl_cons, dec_a, dec_b _ _ b (hb b (by simp)), dec_c _ _ c (hb c (by simp)), dec_d]
      have := ih (n - 1) (by simp at hl; omega) r (by simp at hl; omega) (fun w hw => hb w (by simp [hw])) (xs ++ [a * 4 + b / 16] ++ [b % 16 * 16 + c / 4] ++ [c % 4 * 64 + d])
      rw [this.1, this.2]
      simp [dv]
theorem decSt_dv (l : List Nat) (hb : ∀ x ∈ l, x < 64) : (decSt l).1 = (dv l).1 ∧ (decSt l).2.2 = (dv l).2 := by
  have := dec_fold l.length l (Nat.le_refl _) hb []
  simpa [decSt] using this

theorem sx_facts (n : Nat) : ∀ (l : List Nat), l.length ≤ n → (∀ x ∈ l, x < 256) → dv (sx l) = (0, l) ∧ (∀ v ∈ sx l, v < 64) ∧ (sx l).length % 4 ≠ 1 := by
  induction n using Nat.strongRecOn with
  | _ n ih =>
    intro l hl hb
    match l, hl, hb with
    | [], _, _ => simp [sx, dv]
    | [x], _, hb =>
      have hx := hb x (by simp)
      refine ⟨?_, ?_, ?_⟩
      · simp [sx, dv]; omega
      · simp [sx]; omega
      · simp [sx]
    | [x, y], _, hb =>
      have hx := hb x (by simp)
      have hy := hb y (by simp)
      refine ⟨?_, ?_, ?_⟩
      · simp [sx, dv]; omega
      · simp [sx]; omega
      · simp [sx]
    | x :: y :: z :: r, hl, hb =>
      have hx := hb x (by simp)
      have hy := hb y (by simp)
      have hz := hb z (by simp)
      have h := ih (n - 1) (by simp at hl; omega) r (by simp at hl; omega) (fun w hw => hb w (by simp [hw]))
      refine ⟨?_, ?_, ?_⟩
      · simp only [sx, List.cons_append, List.nil_append, dv, h.1]
        simp
        omega
      · intro v hv
        simp only [sx, List.cons_append, List.nil_append, List.mem_cons] at hv
        rcases hv with rfl | rfl | rfl | rfl | hv
        · omega
        · omega
        · omega
        · omega
        · exact h.2.1 v hv
      · simp [sx]; omega
theorem dv_facts (n : Nat) : ∀ (vs : List Nat), vs.length ≤ n → (∀ v ∈ vs, v < 64) → vs.length % 4 ≠ 1 → (dv vs).1 = 0 → sx (dv vs).2 = vs ∧ (∀ x ∈ (dv vs).2, x < 256) := by
  induction n using Nat.strongRecOn with
  | _ n ih =>
    intro vs hl hb h1 h0
    match vs, hl, hb, h1, h0 with
    | [], _, _, _, _ => simp [dv, sx]
    | [a], _, _, h1, _ => simp at h1
    | [a, b], _, hb, _, h0 =>
      have ha := hb a (by simp)
      have hb' := hb b (by simp)
      simp [dv] at h0
      refine ⟨?_, ?_⟩
      · simp [dv, sx]; omega
      · simp [dv]; omega
    | [a, b, c], _, hb, _, h0 =>
      have ha := hb a (by simp)
      have hb' := hb b (by simp)
      have hc := hb c (by simp)
      simp [dv] at h0
      refine ⟨?_, ?_⟩
      · simp [dv, sx]; omega
      · simp [dv]; omega
    | a :: b :: c :: d :: r, hl, hb, h1, h0 =>
      have ha := hb a (by simp)
      have hb' := hb b (by simp)
      have hc := hb c (by simp)
      have hd := hb d (by simp)
      have h := ih (n - 1) (by simp at hl; omega) r (by simp at hl; omega) (fun w hw => hb w (by simp [hw])) (by simp at h1; omega) (by simpa [dv] using h0)
      refine ⟨?_, ?_⟩
      · simp only [dv, List.cons_append, List.nil_append, sx, h.1]
        simp
        omega
      · intro x hx
        simp only [dv, List.cons_append, List.nil_append, List.mem_cons] at hx
        rcases hx with rfl | rfl | rfl | hx
        · omega
        · omega
        · omega
        · exact h.2 x hx

theorem vOf_alv : ∀ v : Nat, v < 64 → vOf (al v) = some v := by
  have : ∀ v : Fin 64, vOf (al v.val) = some v.val := by decide +kernel
  exact fun v h => this ⟨v, h⟩
theorem vals_map (vs : List Nat) (h : ∀ v ∈ vs, v < 64) : vals (vs.map al) = some vs := by
  induction vs with
  | nil => rfl
  | cons v r ih =>
    have := ih (fun w hw => h w (by simp [hw]))
    simp only [vals, List.map_cons, List.mapM_cons] at *
    rw [vOf_alv v (h v (by simp)), this]
    rfl
theorem vals_inv {l vs : List Nat} (h : vals l = some vs) : l = vs.map al := by
  induction l generalizing vs with
  | nil => simp [vals] at h; subst h; rfl
  | cons c l ih =>
    simp only [vals, List.mapM_cons, Option.bind_eq_bind, Option.bind_eq_some_iff, Option.pure_def, Option.some.injEq] at h
    obtain ⟨v, hv, r, hr, rfl⟩ := h
    rw [List.map_cons, vOf_al hv, ← ih hr]
theorem al_ne : ∀ v : Nat, v < 64 → al v ≠ 61 := by decide

theorem getD_pad_last (T : List Nat) : ∀ k, k < (pad4 T).length → T.length ≤ k → (pad4 T).getD k 0 = 61 := by
  intro k hk hT
  unfold pad4 at *
  rw [List.getD_eq_getElem?_getD, List.getElem?_append_right hT, List.getElem?_replicate]
  simp at hk
  rw [if_pos (by omega)]
  rfl
theorem getD_pad_in (T : List Nat) (k : Nat) (hk : k < T.length) : (pad4 T).getD k 0 = T.getD k 0 := by
  unfold pad4
  rw [List.getD_eq_getElem?_getD, List.getElem?_append_left hk, List.getD_eq_getElem?_getD]
theorem dataF_pad (vs : List Nat) (h : ∀ v ∈ vs, v < 64) (h1 : vs.length % 4 ≠ 1) : dataF (pad4 (vs.map al)) = vs.length := by
  have hlen : (pad4 (vs.map al)).length = (vs.length + 3) / 4 * 4 := by rw [pad4_len, List.length_map]
  have hin : ∀ k, k < vs.length → (pad4 (vs.map al)).getD k 0 ≠ 61 := fun k hk => by
    rw [getD_pad_in _ _ (by simpa using hk), List.getD_eq_getElem?_getD, List.getElem?_map, List.getElem?_eq_getElem hk]
    exact al_ne _ (h _ (List.getElem_mem hk))
  have hout : ∀ k, k < (vs.length + 3) / 4 * 4 → vs.length ≤ k → (pad4 (vs.map al)).getD k 0 = 61 := fun k hk hv => getD_pad_last _ k (by rw [hlen]; exact hk) (by simpa using hv)
  unfold dataF
  rw [hlen]
  by_cases h4 : vs.length % 4 = 0
  · rw [if_pos]
    · omega
    · by_cases h0 : vs.length = 0
      · left; omega
      · right; right
        exact hin _ (by omega)
  · rw [if_neg]
    · by_cases h2 : vs.length % 4 = 2
      · rw [if_pos (hout _ (by omega) (by omega))]; omega
      · rw [if_neg (hin _ (by omega))]; omega
    · have := hout ((vs.length + 3) / 4 * 4 - 1) (by omega) (by omega)
      omega

theorem encF_sx (l : List Nat) (hb : ∀ x ∈ l, x < 256) : encF l = pad4 ((sx l).map al) := by rw [encF, encTail_sx l hb]
theorem take_pad (T : List Nat) : (pad4 T).take T.length = T := by unfold pad4; exact List.take_left
/-- Decoding an encoding returns the bytes. -/
theorem dec_enc (l : List Nat) (hb : ∀ x ∈ l, x < 256) (hl : l.length ≤ 131072) : decF (encF l) = (l, 0, 0) := by
  have hs := sx_facts l.length l (Nat.le_refl _) hb
  have hlen := encF_len l hb
  have hd : dataF (encF l) = (sx l).length := by rw [encF_sx l hb]; exact dataF_pad _ hs.2.1 hs.2.2
  have hv : vals ((encF l).take (dataF (encF l))) = some (sx l) := by
    rw [hd, encF_sx l hb]
    have := take_pad ((sx l).map al)
    rw [List.length_map] at this
    rw [this]
    exact vals_map _ hs.2.1
  have hst := decSt_dv (sx l) hs.2.1
  rw [decF_good hv (by rw [hlen]; omega), if_neg (by rw [hlen]; omega), hst.1, hst.2, hs.1]
  simp
theorem dec_err_nil (l : List Nat) (h : (decF l).2.2 ≠ 0) : (decF l).1 = [] := by
  unfold decF at *
  split
  · rfl
  · split
    · rfl
    · split
      · rfl
      · split
        · rfl
        · simp_all
/-- A text that is accepted is the encoding of its bytes. -/
theorem enc_dec (l : List Nat) (h : (decF l).2.2 = 0) : encF (decF l).1 = l ∧ (∀ x ∈ (decF l).1, x < 256) := by
  have hlen : l.length ≤ 174764 := by
    rcases Nat.lt_or_ge 174764 l.length with hl | hl
    · unfold decF at h; rw [if_pos hl] at h; simp at h
    · exact hl
  cases hv : vals (l.take (dataF l)) with
  | none => unfold decF at h; rw [if_neg (by omega), hv] at h; simp at h
  | some vs =>
    have hg := decF_good hv hlen
    by_cases h4 : l.length % 4 = 0
    · rw [if_neg (by omega)] at hg
      by_cases hb : (decSt vs).1 = 0
      · rw [if_neg (by omega)] at hg
        have hvl := vals_lt hv
        have hst := decSt_dv vs hvl.1
        have hT := vals_inv hv
        have hn : vs.length = dataF l := by rw [hvl.2, List.length_take, Nat.min_eq_left (dataF_le l)]
        -- the padding
        have hpad : pad4 (vs.map al) = l ∧ vs.length % 4 ≠ 1 := by
          have hdl := dataF_le l
          rw [← hT]
          have hl' : l = l.take (dataF l) ++ l.drop (dataF l) := (List.take_append_drop _ _).symm
          have hTl : (l.take (dataF l)).length = dataF l := by rw [List.length_take, Nat.min_eq_left hdl]
          unfold pad4
          rw [hTl]
          have key : l.drop (dataF l) = List.replicate ((4 - dataF l % 4) % 4) 61 ∧ dataF l % 4 ≠ 1 := by
            unfold dataF
            split
            · rename_i hc
              refine ⟨?_, by omega⟩
              rw [List.drop_of_length_le (Nat.le_refl _), h4]
              rfl
            · rename_i hc
              have hl0 : l.length ≠ 0 := fun e => hc (.inl e)
              have hlast : l.getD (l.length - 1) 0 = 61 := by
                rcases Nat.decEq (l.getD (l.length - 1) 0) 61 with e | e
                · exact absurd (.inr (.inr e)) hc
                · exact e
              have hget1 : l[l.length - 1]'(by omega) = 61 := by
                rw [List.getD_eq_getElem?_getD, List.getElem?_eq_getElem (by omega)] at hlast
                simpa using hlast
              split
              · rename_i h2
                have hget2 : l[l.length - 2]'(by omega) = 61 := by
                  rw [List.getD_eq_getElem?_getD, List.getElem?_eq_getElem (by omega)] at h2
                  simpa using h2
                refine ⟨?_, by omega⟩
                rw [show (4 - (l.length - 2) % 4) % 4 = 2 by omega]
                rw [List.drop_eq_getElem_cons (by omega), hget2, show l.length - 2 + 1 = l.length - 1 by omega, List.drop_eq_getElem_cons (by omega), hget1, List.drop_of_length_le (by omega)]
                rfl
              · refine ⟨?_, by omega⟩
                rw [show (4 - (l.length - 1) % 4) % 4 = 1 by omega]
                rw [List.drop_eq_getElem_cons (by omega), hget1, List.drop_of_length_le (by omega)]
                rfl
          rw [← key.1, ← hl']
          exact ⟨rfl, by rw [hn]; exact key.2⟩
        have hf := dv_facts vs.length vs (Nat.le_refl _) hvl.1 hpad.2 (by rw [← hst.1]; exact hb)
        rw [hg]
        simp only [hst.2]
        exact ⟨by rw [encF_sx _ hf.2, hf.1, hpad.1], hf.2⟩
      · rw [if_pos hb] at hg
        rw [hg] at h
        simp at h
    · rw [if_pos h4] at hg
      rw [hg] at h
      simp at h

theorem sx_append (n : Nat) : ∀ (a b : List Nat), a.length ≤ n → a.length % 3 = 0 → sx (a ++ b) = sx a ++ sx b ∧ (sx a).length % 4 = 0 := by
  induction n using Nat.strongRecOn with
  | _ n ih =>
    intro a b hl h3
    match a, hl, h3 with
    | [], _, _ => simp [sx]
    | [x], _, h3 => simp at h3
    | [x, y], _, h3 => simp at h3
    | x :: y :: z :: r, hl, h3 =>
      have := ih (n - 1) (by simp at hl; omega) r b (by simp at hl; omega) (by simp at h3; omega)
      simp only [List.cons_append, sx, this.1]
      refine ⟨by simp, ?_⟩
      simp; omega
/-- Encodings can be concatenated. -/
theorem enc_append (a b : List Nat) (ha : ∀ x ∈ a, x < 256) (hb : ∀ x ∈ b, x < 256) (h3 : a.length % 3 = 0) : encF (a ++ b) = encF a ++ encF b := by
  have hs := sx_append a.length a b (Nat.le_refl _) h3
  rw [encF_sx (a ++ b) (fun x hx => by rcases List.mem_append.1 hx with h | h; exact ha x h; exact hb x h), encF_sx a ha, encF_sx b hb, hs.1, List.map_append]
  have e : pad4 ((sx a).map al) = (sx a).map al := pad4_done _ (by simpa using hs.2)
  rw [e]
  unfold pad4
  rw [List.append_assoc]
  congr 2
  simp only [List.length_append, List.length_map]
  congr 2
  omega
/-- All characters of an encoding are bytes. -/
theorem encF_lt (l : List Nat) : ∀ x ∈ encF l, x < 256 := by
  intro x hx
  unfold encF pad4 at hx
  rcases List.mem_append.1 hx with h | h
  · have key : ∀ (s : Nat × Nat × List Nat), (∀ y ∈ s.2.2, y < 256) → ∀ y ∈ encTail s, y < 256 := by
      intro s hs y hy
      unfold encTail at hy
      split at hy
      · rcases List.mem_append.1 hy with h | h
        · exact hs y h
        · simp at h; subst h; have := al_lt (s.1 * 2 ^ (6 - s.2.1)); omega
      · exact hs y hy
    refine key _ ?_ x h
    have dr : ∀ (k b c : Nat) (ys : List Nat), (∀ y ∈ ys, y < 256) → ∀ y ∈ (drain al 6 k b c ys).2.2, y < 256 := by
      intro k
      induction k with
      | zero => intro b c ys h; exact h
      | succ k ih =>
        intro b c ys h
        rw [drain]
        split
        · exact h
        · refine ih _ _ _ ?_
          intro y hy
          rcases List.mem_append.1 hy with h' | h'
          · exact h y h'
          · simp at h'; subst h'; have := al_lt (b / 2 ^ (c - 6)); omega
    have fo : ∀ (r : List Nat) (s : Nat × Nat × List Nat), (∀ y ∈ s.2.2, y < 256) → ∀ y ∈ (r.foldl encStep s).2.2, y < 256 := by
      intro r
      induction r with
      | nil => intro s h; exact h
      | cons g r ih => intro s h; exact ih _ (dr _ _ _ _ h)
    exact fo l (0, 0, []) (by simp)
  · have := (List.mem_replicate.1 h).2
    omega

end Go.Proofs.YtbgggeobpiaamaaDoor
