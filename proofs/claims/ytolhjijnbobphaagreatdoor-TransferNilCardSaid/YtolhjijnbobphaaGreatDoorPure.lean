/- Plain functions on lists for base64: what the code computes. No program in sight. -/
namespace Go.Proofs.YtolhjijnbobphaaGreatDoor
set_option linter.unusedVariables false
set_option maxRecDepth 100000

/-- What the inner loop of 'add' does: groups of tt bits go out while there are enough bits. -/
def drain (f : Nat → Nat) (tt : Nat) : Nat → Nat → Nat → List Nat → Nat × Nat × List Nat
  | 0, b, c, xs => (b, c, xs)
  | k + 1, b, c, xs => if c < tt then (b, c, xs) else drain f tt k (b % 2 ^ (c - tt)) (c - tt) (xs ++ [f (b / 2 ^ (c - tt))])

theorem drain_succ (f : Nat → Nat) (tt k b c : Nat) (xs : List Nat) (h : ¬ c < tt) : drain f tt (k + 1) b c xs = drain f tt k (b % 2 ^ (c - tt)) (c - tt) (xs ++ [f (b / 2 ^ (c - tt))]) := by rw [drain, if_neg h]

theorem drain_inv (f : Nat → Nat) (tt : Nat) (ht : 1 ≤ tt) : ∀ (k b c : Nat) (xs : List Nat), b < 2 ^ c → c ≤ k →
    (drain f tt k b c xs).2.1 < tt ∧ (drain f tt k b c xs).1 < 2 ^ (drain f tt k b c xs).2.1 ∧ (drain f tt k b c xs).2.2.length * tt + (drain f tt k b c xs).2.1 = xs.length * tt + c := by
  intro k
  induction k with
  | zero => intro b c xs hb hc; obtain rfl : c = 0 := by omega
            simp [drain]; exact ⟨by omega, by simpa using hb⟩
  | succ k ih =>
    intro b c xs hb hc
    by_cases h : c < tt
    · rw [drain, if_pos h]; exact ⟨h, hb, rfl⟩
    · rw [drain_succ _ _ _ _ _ _ h]
      have := ih (b % 2 ^ (c - tt)) (c - tt) (xs ++ [f (b / 2 ^ (c - tt))]) (Nat.mod_lt _ (Nat.pow_pos (by omega))) (by omega)
      refine ⟨this.1, this.2.1, ?_⟩
      rw [this.2.2, List.length_append, Nat.add_mul]
      simp
      omega

/-- The letters of the alphabet. -/
def alph : List Nat := [65, 66, 67, 68, 69, 70, 71, 72, 73, 74, 75, 76, 77, 78, 79, 80, 81, 82, 83, 84, 85, 86, 87, 88, 89, 90, 97, 98, 99, 100, 101, 102, 103, 104, 105, 106, 107, 108, 109, 110, 111, 112, 113, 114, 115, 116, 117, 118, 119, 120, 121, 122, 48, 49, 50, 51, 52, 53, 54, 55, 56, 57, 43, 47]
def al (g : Nat) : Nat := alph.getD g 0
theorem al_lt (g : Nat) : al g < 123 := by
  by_cases h : g < 64
  · exact (by decide : ∀ g, g < 64 → al g < 123) g h
  · unfold al; rw [List.getD_eq_getElem?_getD, List.getElem?_eq_none (by simp [alph]; omega)]; simp

/-- One byte comes in. -/
def encStep (s : Nat × Nat × List Nat) (g : Nat) : Nat × Nat × List Nat := drain al 6 16 (s.1 * 2 ^ 8 + g) (s.2.1 + 8) s.2.2
def encSt (l : List Nat) : Nat × Nat × List Nat := l.foldl encStep (0, 0, [])
theorem encSt_snoc (l : List Nat) (g : Nat) : encSt (l ++ [g]) = encStep (encSt l) g := by simp [encSt]

theorem group_lt {bits count fr g : Nat} (hbits : bits < 2 ^ count) (hg : g < 2 ^ fr) : bits * 2 ^ fr + g < 2 ^ (count + fr) := by
  rw [Nat.pow_add]
  have h1 : (bits + 1) * 2 ^ fr ≤ 2 ^ count * 2 ^ fr := Nat.mul_le_mul_right _ (by omega)
  rw [Nat.add_mul] at h1
  generalize 2 ^ count * 2 ^ fr = a at *
  generalize bits * 2 ^ fr = b at *
  omega

theorem encStep_inv (s : Nat × Nat × List Nat) (g : Nat) (hg : g < 256) (h1 : s.2.1 < 6) (h2 : s.1 < 2 ^ s.2.1) :
    (encStep s g).2.1 < 6 ∧ (encStep s g).1 < 2 ^ (encStep s g).2.1 ∧ (encStep s g).2.2.length * 6 + (encStep s g).2.1 = s.2.2.length * 6 + s.2.1 + 8 := by
  have := drain_inv al 6 (by omega) 16 (s.1 * 2 ^ 8 + g) (s.2.1 + 8) s.2.2 (group_lt h2 (by omega)) (by omega)
  exact ⟨this.1, this.2.1, by rw [Nat.add_assoc]; exact this.2.2⟩

theorem encSt_inv (l : List Nat) (hl : ∀ x ∈ l, x < 256) : (encSt l).2.1 < 6 ∧ (encSt l).1 < 2 ^ (encSt l).2.1 ∧ (encSt l).2.2.length * 6 + (encSt l).2.1 = l.length * 8 := by
  have key : ∀ (r : List Nat) (s : Nat × Nat × List Nat), (∀ x ∈ r, x < 256) → s.2.1 < 6 → s.1 < 2 ^ s.2.1 →
      (r.foldl encStep s).2.1 < 6 ∧ (r.foldl encStep s).1 < 2 ^ (r.foldl encStep s).2.1 ∧ (r.foldl encStep s).2.2.length * 6 + (r.foldl encStep s).2.1 = s.2.2.length * 6 + s.2.1 + r.length * 8 := by
    intro r
    induction r with
    | nil => intro s _ h1 h2; exact ⟨h1, h2, by simp⟩
    | cons x r ih =>
      intro s hx h1 h2
      have a := encStep_inv s x (hx x (by simp)) h1 h2
      have b := ih (encStep s x) (fun y hy => hx y (by simp [hy])) a.1 a.2.1
      rw [List.foldl_cons]
      refine ⟨b.1, b.2.1, ?_⟩
      rw [b.2.2, a.2.2]; simp; omega
  have := key l (0, 0, []) hl (by simp) (by simp)
  simpa [encSt] using this

/-- What is left over, and the padding. -/
def encTail (s : Nat × Nat × List Nat) : List Nat := if 0 < s.2.1 then s.2.2 ++ [al (s.1 * 2 ^ (6 - s.2.1))] else s.2.2
def pad4 (xs : List Nat) : List Nat := xs ++ List.replicate ((4 - xs.length % 4) % 4) 61
/-- The encoding. -/
def encF (l : List Nat) : List Nat := pad4 (encTail (encSt l))

theorem pad4_done (xs : List Nat) (h : xs.length % 4 = 0) : pad4 xs = xs := by simp [pad4, h]
theorem pad4_more (xs : List Nat) (h : ¬ xs.length % 4 = 0) : pad4 (xs ++ [61]) = pad4 xs := by
  unfold pad4
  rw [List.append_assoc, List.length_append]
  congr 1
  have : (4 - xs.length % 4) % 4 = (4 - (xs.length + 1) % 4) % 4 + 1 := by omega
  simp only [List.length_singleton]
  rw [this, List.replicate_succ]
  rfl
theorem pad4_len (xs : List Nat) : (pad4 xs).length = (xs.length + 3) / 4 * 4 := by simp [pad4]; omega

theorem encTail_len (b c : Nat) (xs : List Nat) (n : Nat) (h : xs.length * 6 + c = n * 8) : (encTail (b, c, xs)).length ≤ 2 * n + 1 := by
  unfold encTail
  by_cases hc : 0 < (b, c, xs).2.1
  · rw [if_pos hc]; simp; omega
  · rw [if_neg hc]; simp; omega
theorem encF_of {l : List Nat} {b c : Nat} {xs : List Nat} (h : encSt l = (b, c, xs)) : pad4 (encTail (b, c, xs)) = encF l := by rw [encF, h]

/-- A list of numbers as a string. -/
def strN (l : List Nat) : ByteArray := ⟨(l.map UInt8.ofNat).toArray⟩
theorem strN_size (l : List Nat) : (strN l).size = l.length := by simp [strN, ByteArray.size]


/-- A string's bytes as numbers. -/
def bs (s : ByteArray) : List Nat := s.data.toList.map UInt8.toNat
theorem bs_length (s : ByteArray) : (bs s).length = s.size := by unfold bs; rw [List.length_map]; rfl
theorem bs_at (s : ByteArray) (i : Nat) (h : i < s.size) : (bs s)[i]'(by rw [bs_length]; exact h) = s[i].toNat := by unfold bs; rw [List.getElem_map]; rfl
theorem bs_getD (s : ByteArray) (i : Nat) (h : i < s.size) : (bs s).getD i 0 = s[i].toNat := by
  rw [List.getD_eq_getElem?_getD, List.getElem?_eq_getElem (by rw [bs_length]; exact h), Option.getD_some, bs_at s i h]
theorem bs_lt (s : ByteArray) : ∀ x ∈ bs s, x < 256 := by
  intro x hx
  obtain ⟨u, _, rfl⟩ := List.mem_map.1 hx
  exact u.toNat_lt
theorem strN_bs (s : ByteArray) : strN (bs s) = s := by
  unfold strN bs
  rw [List.map_map]
  have : (UInt8.ofNat ∘ UInt8.toNat) = id := by funext u; exact UInt8.ofNat_toNat
  rw [this, List.map_id]
theorem bs_strN (l : List Nat) (h : ∀ x ∈ l, x < 256) : bs (strN l) = l := by
  unfold strN bs
  simp only [List.map_map]
  have : l.map (UInt8.toNat ∘ UInt8.ofNat) = l.map id := by
    apply List.map_congr_left
    intro x hx
    exact Nat.mod_eq_of_lt (h x hx)
  rw [this, List.map_id]
theorem strN_inj {l m : List Nat} (hl : ∀ x ∈ l, x < 256) (hm : ∀ x ∈ m, x < 256) (h : strN l = strN m) : l = m := by
  rw [← bs_strN l hl, ← bs_strN m hm, h]

/-- The value of a letter. -/
def vOf (c : Nat) : Option Nat := (List.range 64).find? (fun i => al i == c)
theorem vOf_lt {c v : Nat} (h : vOf c = some v) : v < 64 := by
  have := List.mem_of_find?_eq_some h
  simpa using this
theorem vOf_al {c v : Nat} (h : vOf c = some v) : al v = c := by
  have := List.find?_some h
  simpa using this

/-- How many characters precede the padding in place. -/
def dataF (l : List Nat) : Nat :=
  if l.length = 0 ∨ l.length % 4 ≠ 0 ∨ l.getD (l.length - 1) 0 ≠ 61 then l.length else if l.getD (l.length - 2) 0 = 61 then l.length - 2 else l.length - 1
theorem dataF_le (l : List Nat) : dataF l ≤ l.length := by
  unfold dataF; split
  · exact Nat.le_refl _
  · split <;> omega

/-- One value of six bits comes in. -/
def decStep (s : Nat × Nat × List Nat) (g : Nat) : Nat × Nat × List Nat := drain id 8 16 (s.1 * 2 ^ 6 + g) (s.2.1 + 6) s.2.2
def decSt (l : List Nat) : Nat × Nat × List Nat := l.foldl decStep (0, 0, [])
theorem decSt_snoc (l : List Nat) (g : Nat) : decSt (l ++ [g]) = decStep (decSt l) g := by simp [decSt]
theorem decStep_inv (s : Nat × Nat × List Nat) (g : Nat) (hg : g < 64) (h1 : s.2.1 < 8) (h2 : s.1 < 2 ^ s.2.1) :
    (decStep s g).2.1 < 8 ∧ (decStep s g).1 < 2 ^ (decStep s g).2.1 ∧ (decStep s g).2.2.length * 8 + (decStep s g).2.1 = s.2.2.length * 8 + s.2.1 + 6 := by
  have := drain_inv id 8 (by omega) 16 (s.1 * 2 ^ 6 + g) (s.2.1 + 6) s.2.2 (group_lt h2 (by omega)) (by omega)
  exact ⟨this.1, this.2.1, by rw [Nat.add_assoc]; exact this.2.2⟩
theorem decSt_inv (l : List Nat) (hl : ∀ x ∈ l, x < 64) : (decSt l).2.1 < 8 ∧ (decSt l).1 < 2 ^ (decSt l).2.1 ∧ (decSt l).2.2.length * 8 + (decSt l).2.1 = l.length * 6 := by
  have key : ∀ (r : List Nat) (s : Nat × Nat × List Nat), (∀ x ∈ r, x < 64) → s.2.1 < 8 → s.1 < 2 ^ s.2.1 →
      (r.foldl decStep s).2.1 < 8 ∧ (r.foldl decStep s).1 < 2 ^ (r.foldl decStep s).2.1 ∧ (r.foldl decStep s).2.2.length * 8 + (r.foldl decStep s).2.1 = s.2.2.length * 8 + s.2.1 + r.length * 6 := by
    intro r
    induction r with
    | nil => intro s _ h1 h2; exact ⟨h1, h2, by simp⟩
    | cons x r ih =>
      intro s hx h1 h2
      have a := decStep_inv s x (hx x (by simp)) h1 h2
      have b := ih (decStep s x) (fun y hy => hx y (by simp [hy])) a.1 a.2.1
      rw [List.foldl_cons]
      refine ⟨b.1, b.2.1, ?_⟩
      rw [b.2.2, a.2.2]; simp; omega
  have := key l (0, 0, []) hl (by simp) (by simp)
  simpa [decSt] using this

/-- The values of the first j characters, if all of them are letters. -/
def vals (l : List Nat) : Option (List Nat) := l.mapM vOf
theorem vals_nil : vals [] = some [] := rfl
theorem vals_snoc {l vs : List Nat} {c v : Nat} (h : vals l = some vs) (hc : vOf c = some v) : vals (l ++ [c]) = some (vs ++ [v]) := by
  simp [vals, List.mapM_append] at *
  simp [h, hc]
theorem vals_lt : ∀ {l vs : List Nat}, vals l = some vs → (∀ x ∈ vs, x < 64) ∧ vs.length = l.length := by
  intro l
  induction l with
  | nil => intro vs h; simp [vals] at h; subst h; simp
  | cons c l ih =>
    intro vs h
    simp only [vals, List.mapM_cons, Option.bind_eq_bind, Option.bind_eq_some_iff, Option.pure_def, Option.some.injEq] at h
    obtain ⟨v, hv, r, hr, rfl⟩ := h
    have := ih hr
    exact ⟨by intro x hx; rcases List.mem_cons.1 hx with rfl | hx; exact vOf_lt hv; exact this.1 x hx, by simp [this.2]⟩

/-- The first character among the first n that is no letter. -/
def badAt (l : List Nat) (n : Nat) : Option Nat := (List.range n).find? (fun i => (vOf (l.getD i 0)).isNone)
/-- What Decode answers: bytes, offset, error. -/
def decF (l : List Nat) : List Nat × Nat × Nat :=
  if 174764 < l.length then ([], 0, 5) else
  match vals (l.take (dataF l)) with
  | none => ([], (badAt l (dataF l)).getD 0, 6)
  | some vs => if l.length % 4 ≠ 0 then ([], l.length, 4) else if (decSt vs).1 ≠ 0 then ([], dataF l - 1, 3) else ((decSt vs).2.2, 0, 0)

theorem vals_prefix_none {l : List Nat} {j n : Nat} (h : vals (l.take (j + 1)) = none) (hn : j < n) : vals (l.take n) = none := by
  have e : l.take n = l.take (j + 1) ++ (l.take n).drop (j + 1) := by
    have h1 := (List.take_append_drop (j + 1) (l.take n)).symm
    rw [List.take_take, Nat.min_eq_left (by omega)] at h1
    exact h1
  rw [e]
  simp only [vals, List.mapM_append] at *
  simp [h]
theorem vals_get {l vs : List Nat} {i : Nat} (h : vals l = some vs) (hi : i < l.length) : (vOf l[i]).isSome = true := by
  induction l generalizing vs i with
  | nil => simp at hi
  | cons c l ih =>
    simp only [vals, List.mapM_cons, Option.bind_eq_bind, Option.bind_eq_some_iff, Option.pure_def, Option.some.injEq] at h
    obtain ⟨v, hv, r, hr, rfl⟩ := h
    cases i with
    | zero => simp [hv]
    | succ i => simpa using ih hr (by simpa using hi)
theorem decF_bad {l vs : List Nat} {j : Nat} (h : vals (l.take j) = some vs) (hj : j < dataF l) (hjl : j < l.length) (hc : vOf l[j] = none) (hlen : l.length ≤ 174764) : decF l = ([], j, 6) := by
  have h1 : vals (l.take (j + 1)) = none := by
    rw [List.take_succ_eq_append_getElem hjl]
    simp only [vals, List.mapM_append] at *
    simp [h, hc]
  have h2 : badAt l (dataF l) = some j := by
    unfold badAt
    rw [List.find?_eq_some_iff_getElem]
    refine ⟨?_, j, by simpa using hj, by simp, ?_⟩
    · rw [List.getD_eq_getElem?_getD, List.getElem?_eq_getElem hjl]; simp [hc]
    · intro i hi
      have hil : i < (l.take j).length := by simp; omega
      have := vals_get h hil
      simp only [List.getElem_range]
      rw [List.getElem_take] at this
      rw [List.getD_eq_getElem?_getD, List.getElem?_eq_getElem (by omega)]
      simp only [Option.getD_some]
      cases hv : vOf l[i]
      · rw [hv] at this; simp at this
      · simp
  unfold decF
  rw [if_neg (by omega), vals_prefix_none h1 hj, h2]
  rfl
theorem decF_good {l vs : List Nat} (h : vals (l.take (dataF l)) = some vs) (hlen : l.length ≤ 174764) :
    decF l = if l.length % 4 ≠ 0 then ([], l.length, 4) else if (decSt vs).1 ≠ 0 then ([], dataF l - 1, 3) else ((decSt vs).2.2, 0, 0) := by
  unfold decF
  rw [if_neg (by omega), h]

end Go.Proofs.YtolhjijnbobphaaGreatDoor
