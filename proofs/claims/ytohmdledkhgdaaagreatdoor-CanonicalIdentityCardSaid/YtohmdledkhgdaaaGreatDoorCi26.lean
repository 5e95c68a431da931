/- Plain: the canonical form determines the content. -/
import Derived.Test.YtohmdledkhgdaaaGreatDoorCi04
import Derived.Test.YtohmdledkhgdaaaGreatDoorCi15
namespace Go.Proofs.YtohmdledkhgdaaaGreatDoor
set_option linter.unusedVariables false

theorem sep_inj {c : Nat} : ∀ {v v' r r' : List Nat}, c ∉ v → c ∉ v' → v ++ c :: r = v' ++ c :: r' → v = v' ∧ r = r'
  | [], [], r, r', _, _, h => ⟨rfl, by simpa using h⟩
  | [], x :: v', r, r', _, h', h => by
    simp only [List.nil_append, List.cons_append, List.cons.injEq] at h
    exact absurd (h.1 ▸ List.mem_cons_self ..) h'
  | x :: v, [], r, r', h', _, h => by
    simp only [List.nil_append, List.cons_append, List.cons.injEq] at h
    exact absurd (h.1 ▸ List.mem_cons_self ..) h'
  | x :: v, y :: v', r, r', h1, h2, h => by
    simp only [List.cons_append, List.cons.injEq] at h
    obtain ⟨rfl, h⟩ := h
    obtain ⟨rfl, rfl⟩ := sep_inj (fun m => h1 (List.mem_cons_of_mem _ m)) (fun m => h2 (List.mem_cons_of_mem _ m)) h
    exact ⟨rfl, rfl⟩
theorem lines_inj : ∀ (ws vs vs' : List (List Nat)) (r r' : List Nat), ws.length = vs.length → ws.length = vs'.length → (∀ v ∈ vs, 10 ∉ v) → (∀ v ∈ vs', 10 ∉ v) →
    ((ws.zip vs).flatMap fun p => p.1 ++ 32 :: p.2 ++ [10]) ++ r = ((ws.zip vs').flatMap fun p => p.1 ++ 32 :: p.2 ++ [10]) ++ r' → vs = vs' ∧ r = r'
  | [], [], [], r, r', _, _, _, _, h => ⟨rfl, by simpa using h⟩
  | w :: ws, v :: vs, v' :: vs', r, r', h1, h2, h3, h4, h => by
    simp only [List.zip_cons_cons, List.flatMap_cons, List.append_assoc, List.cons_append, List.nil_append] at h
    have h5 := List.append_cancel_left h
    simp only [List.cons.injEq, true_and] at h5
    obtain ⟨rfl, h6⟩ := sep_inj (h3 v (List.mem_cons_self ..)) (h4 v' (List.mem_cons_self ..)) h5
    obtain ⟨rfl, rfl⟩ := lines_inj ws vs vs' r r' (by simpa using h1) (by simpa using h2) (fun x hx => h3 x (List.mem_cons_of_mem _ hx)) (fun x hx => h4 x (List.mem_cons_of_mem _ hx)) (by simpa [List.append_assoc] using h6)
    exact ⟨rfl, rfl⟩
  | [], _ :: _, _, _, _, h, _, _, _, _ => by simp at h
  | [], [], _ :: _, _, _, _, h, _, _, _ => by simp at h
  | _ :: _, [], _, _, _, h, _, _, _, _ => by simp at h
  | _ :: _, _ :: _, [], _, _, _, h, _, _, _ => by simp at h

/-! Decimal digits. -/
theorem digN_mem : ∀ (k u : Nat), ∀ c ∈ digN k u, 48 ≤ c ∧ c ≤ 57
  | 0, u, c, h => by simp [digN] at h; omega
  | k + 1, u, c, h => by
    simp only [digN] at h
    split at h
    · simp at h; omega
    · rw [List.mem_append] at h
      rcases h with h | h
      · exact digN_mem k _ c h
      · simp at h; omega
def valD (l : List Nat) : Nat := l.foldl (fun n c => 10 * n + (c - 48)) 0
theorem val_digN : ∀ (k u : Nat), u < 10 ^ (k + 1) → valD (digN k u) = u
  | 0, u, h => by simp [digN, valD]; omega
  | k + 1, u, h => by
    simp only [digN]
    split
    · simp [valD]
    · have := val_digN k (u / 10) (by rw [Nat.pow_succ] at h; omega)
      unfold valD at this ⊢
      rw [List.foldl_append, this]
      simp; omega
theorem digI_pos {n : Int} (h : 0 ≤ n) : digI n = digN 20 n.toNat := by unfold digI; rw [if_neg (by omega)]
theorem digI_inj {a b : Int} (ha : 0 ≤ a) (hb : 0 ≤ b) (ha2 : a ≤ 1000000000) (hb2 : b ≤ 1000000000) (h : digI a = digI b) : a = b := by
  rw [digI_pos ha, digI_pos hb] at h
  have h1 := val_digN 20 a.toNat (by have : (10:Nat) ^ 21 = 1000000000000000000000 := by decide
                                     omega)
  have h2 := val_digN 20 b.toNat (by have : (10:Nat) ^ 21 = 1000000000000000000000 := by decide
                                     omega)
  rw [h] at h1
  omega
theorem digI_mem {n : Int} (h : 0 ≤ n) : ∀ c ∈ digI n, 48 ≤ c ∧ c ≤ 57 := by rw [digI_pos h]; exact digN_mem _ _

/-! Hexadecimal digits. -/
theorem hxl_inj : ∀ a < 16, ∀ b < 16, hxl a = hxl b → a = b := by decide
theorem hxl_ge : ∀ a < 16, 48 ≤ hxl a ∧ hxl a ≤ 102 := by decide
theorem hexF_cons (a : Nat) (l : List Nat) : hexF (a :: l) = hxl (a / 16) :: hxl (a % 16) :: hexF l := rfl
theorem hexF_inj : ∀ {l m : List Nat}, (∀ x ∈ l, x < 256) → (∀ x ∈ m, x < 256) → hexF l = hexF m → l = m
  | [], [], _, _, _ => rfl
  | a :: l, b :: m, h1, h2, h => by
    rw [hexF_cons, hexF_cons] at h
    simp only [List.cons.injEq] at h
    have a1 := h1 a (List.mem_cons_self ..)
    have b1 := h2 b (List.mem_cons_self ..)
    have e1 := hxl_inj _ (by omega) _ (by omega) h.1
    have e2 := hxl_inj _ (by omega) _ (by omega) h.2.1
    have e3 : a = b := by omega
    rw [e3, hexF_inj (fun x hx => h1 x (List.mem_cons_of_mem _ hx)) (fun x hx => h2 x (List.mem_cons_of_mem _ hx)) h.2.2]
  | [], b :: m, _, _, h => by rw [hexF_cons] at h; cases h
  | a :: l, [], _, _, h => by rw [hexF_cons] at h; cases h
theorem hexF_mem : ∀ {l : List Nat}, (∀ x ∈ l, x < 256) → ∀ c ∈ hexF l, 48 ≤ c ∧ c ≤ 102
  | [], _, c, h => by cases h
  | a :: l, h1, c, h => by
    rw [hexF_cons] at h
    have a1 := h1 a (List.mem_cons_self ..)
    rcases List.mem_cons.1 h with rfl | h
    · exact hxl_ge _ (by omega)
    · rcases List.mem_cons.1 h with rfl | h
      · exact hxl_ge _ (by omega)
      · exact hexF_mem (fun x hx => h1 x (List.mem_cons_of_mem _ hx)) c h
theorem midF_mem {l : List Nat} (hl : ∀ x ∈ l, x < 256) : ∀ c ∈ midF l, 48 ≤ c ∧ c ≤ 104 + 11 := by
  intro c h
  unfold midF sHash at h
  rw [List.mem_append, List.mem_cons] at h
  rcases h with (rfl | h) | h
  · omega
  · have := hexF_mem hl c h; omega
  · simp only [List.mem_cons] at h; rcases h with rfl | rfl | rfl | rfl | rfl | rfl | h <;> first | omega | cases h
theorem midF_inj {l m : List Nat} (h1 : ∀ x ∈ l, x < 256) (h2 : ∀ x ∈ m, x < 256) (h : midF l = midF m) : l = m := by
  unfold midF at h
  have := List.append_cancel_right h
  simp only [List.cons.injEq, true_and] at this
  exact hexF_inj h1 h2 this
theorem midF_ne (l : List Nat) : midF l ≠ [] := by unfold midF; simp

/-! Joined texts. -/
theorem join_mem (s : Nat) : ∀ (l : List (List Nat)) (c : Nat), c ∈ joinF [s] l → c = s ∨ ∃ x ∈ l, c ∈ x
  | [], c, h => by cases h
  | [x], c, h => .inr ⟨x, List.mem_cons_self .., h⟩
  | x :: y :: r, c, h => by
    simp only [joinF] at h
    rw [List.mem_append, List.mem_append] at h
    rcases h with (h | h) | h
    · exact .inr ⟨x, List.mem_cons_self .., h⟩
    · exact .inl (by simpa using h)
    · rcases join_mem s (y :: r) c h with h | ⟨z, hz, hc⟩
      · exact .inl h
      · exact .inr ⟨z, List.mem_cons_of_mem _ hz, hc⟩
theorem join_cons (s : Nat) (x y : List Nat) (r : List (List Nat)) : joinF [s] (x :: y :: r) = x ++ s :: joinF [s] (y :: r) := by simp [joinF]
theorem join_inj {s : Nat} : ∀ {l m : List (List Nat)}, l ≠ [] → m ≠ [] → (∀ x ∈ l, s ∉ x) → (∀ x ∈ m, s ∉ x) → joinF [s] l = joinF [s] m → l = m
  | [x], [y], _, _, _, _, h => by simp only [joinF] at h; rw [h]
  | [x], y :: z :: r, _, _, h1, _, h => by
    rw [join_cons] at h
    simp only [joinF] at h
    exact absurd (by rw [h]; simp) (h1 x (List.mem_cons_self ..))
  | y :: z :: r, [x], _, _, _, h1, h => by
    rw [join_cons] at h
    simp only [joinF] at h
    exact absurd (by rw [← h]; simp) (h1 x (List.mem_cons_self ..))
  | x :: y :: r, x' :: y' :: r', _, _, h1, h2, h => by
    rw [join_cons, join_cons] at h
    obtain ⟨rfl, h3⟩ := sep_inj (h1 x (List.mem_cons_self ..)) (h2 x' (List.mem_cons_self ..)) h
    rw [join_inj (by simp) (by simp) (fun z hz => h1 z (List.mem_cons_of_mem _ hz)) (fun z hz => h2 z (List.mem_cons_of_mem _ hz)) h3]
theorem join_nil {s : Nat} : ∀ {l : List (List Nat)}, (∀ x ∈ l, x ≠ []) → joinF [s] l = [] → l = []
  | [], _, _ => rfl
  | [x], h, e => absurd e (h x (List.mem_cons_self ..))
  | x :: y :: r, h, e => by rw [join_cons] at e; simp at e
theorem spl_mem (s : Nat) : ∀ (l : List Nat) (c : Nat), c ∈ l → c = s ∨ ∃ p ∈ spl s l, c ∈ p
  | x :: t, c, h => by
    simp only [spl]
    by_cases hx : x = s
    · rw [if_pos hx]
      rcases List.mem_cons.1 h with rfl | h
      · exact .inl hx
      · rcases spl_mem s t c h with h | ⟨p, hp, hc⟩
        · exact .inl h
        · exact .inr ⟨p, List.mem_cons_of_mem _ hp, hc⟩
    · rw [if_neg hx]
      cases hq : spl s t with
      | nil => exact absurd hq (spl_ne s t)
      | cons q r =>
        simp only []
        rcases List.mem_cons.1 h with rfl | h
        · exact .inr ⟨_, List.mem_cons_self .., List.mem_cons_self ..⟩
        · rcases spl_mem s t c h with h | ⟨p, hp, hc⟩
          · exact .inl h
          · rw [hq] at hp
            rcases List.mem_cons.1 hp with rfl | hp
            · exact .inr ⟨_, List.mem_cons_self .., List.mem_cons_of_mem _ hc⟩
            · exact .inr ⟨p, List.mem_cons_of_mem _ hp, hc⟩

/-! Which bytes can stand in valid parts. -/
theorem ij_fe {a b : Nat} (h : fe a b = 0) : a = 0 ∧ b = 0 := by unfold fe at h; split at h <;> omega
theorem eIf_zero {p : Bool} {e : Nat} (he : e ≠ 0) (h : eIf p e = 0) : p = false := by unfold eIf at h; cases p <;> simp_all
theorem nmC_ne {c : Nat} (h : nmC c = true) : c ≠ 10 ∧ c ≠ 44 ∧ c ≠ 32 := by
  unfold nmC low dig at h; simp at h; omega
theorem name_mem {x : List Nat} (h : nameF x = 0) : ∀ c ∈ x, c ≠ 10 ∧ c ≠ 44 ∧ c ≠ 32 := by
  intro c hc
  unfold nameF at h
  split at h
  · cases h
  · split at h
    · cases h
    · rename_i h2
      rcases spl_mem 46 x c hc with rfl | ⟨p, hp, hcp⟩
      · omega
      · have h3 : compB p = true := by
          cases hq : compB p
          · exact absurd (List.any_eq_true.2 ⟨p, hp, by rw [hq]; rfl⟩) h2
          · rfl
        unfold compB at h3
        simp only [Bool.and_eq_true] at h3
        exact nmC_ne (List.all_eq_true.1 h3.2 c hcp)
theorem listG_all {f : List Nat → Nat} {d : Nat} (hd : d ≠ 0) : ∀ (l pre : List (List Nat)), listG f d pre l = 0 → ∀ x ∈ l, f x = 0
  | [], _, _, x, h => by cases h
  | y :: r, pre, h, x, hx => by
    simp only [listG] at h
    split at h
    · rename_i h1; exact absurd h h1
    · rename_i h1
      split at h
      · exact absurd h hd
      · rcases List.mem_cons.1 hx with rfl | hx
        · simpa using h1
        · exact listG_all hd r _ h x hx
theorem groups_ok {l : List (List Nat)} (h : groupsF l = 0) : l ≠ [] ∧ ∀ x ∈ l, nameF x = 0 := by
  unfold groupsF at h
  split at h
  · cases h
  · rename_i h1
    unfold listF at h
    split at h
    · cases h
    · exact ⟨h1, listG_all (by decide) l [] h⟩
theorem take_ten {l : List Nat} (hw : wholeB l = true) (h : 10 ∈ l.take (rn l)) : cpt l = 10 := by
  obtain ⟨h1, h2, h3⟩ := (whole_iff l).1 hw
  obtain ⟨e, hp⟩ := rn_pos hw
  obtain ⟨i, hi, hx⟩ := List.getElem_of_mem h
  rw [List.length_take] at hi
  have hg : l.getD i 0 = 10 := by
    rw [List.getElem_take] at hx
    rw [List.getD_eq_getElem?_getD, List.getElem?_eq_getElem (by omega)]; simpa using hx
  by_cases h0 : i = 0
  · subst h0
    have e1 : rn l = 1 := by rw [e, hg]; rfl
    unfold cpt
    rw [e1, if_pos (Nat.le_refl _), hg]
    have : ((l.take 1).drop 1) = [] := by rw [List.drop_eq_nil_iff, List.length_take]; omega
    rw [this]; rfl
  · have := uCont_ge (h3 i (by omega) (by omega))
    omega
theorem good_ten : ∀ (n : Nat) (l : List Nat) (a : Nat), l.length ≤ n → vld l = true → ((rsN l.length a l).all fun x => gd false x.2) = true → 10 ∉ l
  | 0, l, a, hl, _, _ => by have : l = [] := List.length_eq_zero_iff.1 (by omega)
                            rw [this]; simp
  | n + 1, l, a, hl, hv, hr => by
    by_cases hn : l = []
    · rw [hn]; simp
    · rw [vld_step hn] at hv
      simp only [Bool.and_eq_true, decide_eq_true_eq] at hv
      have hle := (rn_le l).1
      rw [rsN_step _ _ _ hv.1 (Nat.le_refl _)] at hr
      simp only [List.all_cons, Bool.and_eq_true] at hr
      have ih := good_ten n (l.drop (rn l)) _ (by rw [List.length_drop]; omega) hv.2 hr.2
      intro h
      rw [← List.take_append_drop (rn l) l, List.mem_append] at h
      rcases h with h | h
      · rw [take_ten (rn_ne.1 hv.1) h] at hr
        exact absurd hr.1 (by decide)
      · exact ih h
theorem text_ten {l : List Nat} {m : Nat} (h : textF l m = 0) : 10 ∉ l := by
  unfold textF at h
  have h1 := eIf_zero (by decide) (ij_fe (ij_fe h).2).1
  have h2 : good false l = true := by simpa using h1
  unfold good at h2
  simp only [Bool.and_eq_true] at h2
  exact good_ten l.length l 0 (Nat.le_refl _) h2.1 h2.2
theorem hvl_ten {c : Nat} (h : (hvl c).isSome = true) : c ≠ 10 := by rintro rfl; cases h
theorem unhex_ten : ∀ {l r : List Nat}, unhex l = some r → 10 ∉ l
  | [], _, _ => by simp
  | [_], _, h => by cases h
  | a :: b :: t, r, h => by
    simp only [unhex] at h
    cases ha : hvl a with
    | none => rw [ha] at h; cases h
    | some x =>
      cases hb : hvl b with
      | none => rw [ha, hb] at h; cases h
      | some y =>
        cases hu : unhex t with
        | none => rw [ha, hb, hu] at h; cases h
        | some s =>
          have := unhex_ten hu
          have h1 := hvl_ten (c := a) (by rw [ha]; rfl)
          have h2 := hvl_ten (c := b) (by rw [hb]; rfl)
          simp only [List.mem_cons, not_or]
          exact ⟨Ne.symm h1, Ne.symm h2, this⟩
theorem mid_ten {x i : List Nat} (h : midP x = some i) : 10 ∉ x := by
  unfold midP at h
  split at h
  · rename_i hc
    obtain ⟨h1, h2, h3⟩ := hc
    have hu := unhex_ten h
    intro hx
    rw [← List.take_append_drop 1 x, List.mem_append] at hx
    rcases hx with hx | hx
    · cases x with
      | nil => cases hx
      | cons a t => simp at hx h2; omega
    · rw [← List.take_append_drop 64 (x.drop 1), List.mem_append] at hx
      rcases hx with hx | hx
      · exact hu hx
      · rw [List.drop_drop, h3] at hx; exact absurd hx (by decide)
  · cases h
theorem aut_ten {x i : List Nat} (h : autP x = some i) : 10 ∉ x := by
  unfold autP at h
  split at h
  · exact unhex_ten h
  · cases h
theorem ij_mapM {f : List Nat → Option (List Nat)} : ∀ (l : List (List Nat)) (r : List (List Nat)), l.mapM f = some r → ∀ p ∈ l, ∃ i, f p = some i
  | [], _, _, p, h => by cases h
  | y :: t, r, h, p, hp => by
    rw [List.mapM_cons] at h
    cases hy : f y with
    | none => rw [hy] at h; cases h
    | some z =>
      rw [hy] at h
      cases ht : t.mapM f with
      | none => rw [ht] at h; cases h
      | some s =>
        rcases List.mem_cons.1 hp with rfl | hp
        · exact ⟨z, hy⟩
        · exact ij_mapM t s ht p hp
theorem mods_ten {x : List Nat} (h : modsF x = 0) : 10 ∉ x := by
  unfold modsF at h
  cases hm : (spl 44 x).mapM autP with
  | none => rw [hm] at h; cases h
  | some l =>
    intro hx
    rcases spl_mem 44 x 10 hx with h | ⟨p, hp, hc⟩
    · omega
    · obtain ⟨i, hi⟩ := ij_mapM _ _ hm p hp
      exact aut_ten hi hc
theorem tgt_ten {x : List Nat} (h : tgtF x = 0) : 10 ∉ x := by
  unfold tgtF at h
  cases hm : midP x with
  | none => rw [hm] at h; cases h
  | some i => exact mid_ten hm
theorem grp_ten {x : List Nat} (h : grpF x = 0) : 10 ∉ x := by
  unfold grpF at h
  split at h
  · rename_i h1; intro hx; exact (name_mem h1 10 hx).1 rfl
  · cases h
theorem num_ten {a b : Nat} {x : List Nat} (h : numF a b x = 0) : 10 ∉ x := by
  unfold numF at h
  cases hm : numP x with
  | none => rw [hm] at h; cases h
  | some n =>
    unfold numP at hm
    split at hm
    · cases hm
    · rename_i hc
      intro hx
      have h1 : x.all dig = true := by
        cases hq : x.all dig
        · exact absurd (.inr (.inr (.inr hq))) hc
        · rfl
      exact absurd (List.all_eq_true.1 h1 10 hx) (by decide)
theorem al_gt : ∀ v, v < 64 → 43 ≤ al v := by decide
theorem encF_ten {l : List Nat} (h : ∀ x ∈ l, x < 256) : 10 ∉ encF l := by
  rw [encF_sx l h]
  have hs := (sx_facts l.length l (Nat.le_refl _) h).2.1
  unfold pad4
  intro hx
  rw [List.mem_append] at hx
  rcases hx with hx | hx
  · obtain ⟨v, hv, e⟩ := List.mem_map.1 hx
    have := al_gt v (hs v hv)
    omega
  · rw [List.mem_replicate] at hx; omega
theorem pub_ten {x : List Nat} (h : pubF x = 0) : 10 ∉ x := by
  unfold pubF at h
  split at h
  · rename_i h1; exact absurd h h1
  · rename_i h1
    obtain ⟨h2, h3⟩ := enc_dec x (by omega)
    rw [← h2]
    exact encF_ten h3

/-- A rest begins with its space. -/
def Sp (t : List Nat) : Prop := t = [] ∨ ∃ u, t = 32 :: u
theorem sp_drop (l : List Nat) : Sp (l.dropWhile fun c => !decide (c = 32)) := by
  induction l with
  | nil => exact .inl rfl
  | cons a l ih =>
    by_cases ha : a = 32
    · rw [List.dropWhile_cons_of_neg (by simp [ha])]; exact .inr ⟨l, by rw [ha]⟩
    · rw [List.dropWhile_cons_of_pos (by simp [ha])]; exact ih
theorem nxt_zero {t : List Nat} {k : List Nat → List Nat → Nat} (ht : Sp t) (h : nxt t k = 0) (P : ∀ x u, Sp u → k x u = 0 → 10 ∉ x ∧ 10 ∉ u) : 10 ∉ t := by
  rcases ht with rfl | ⟨u, rfl⟩
  · simp
  · unfold nxt at h
    obtain ⟨h1, h2⟩ := P _ _ (sp_drop u) h
    intro hx
    rcases List.mem_cons.1 hx with hx | hx
    · omega
    · rw [← List.takeWhile_append_dropWhile (p := fun c => !decide (c = 32)) (l := u), List.mem_append] at hx
      rcases hx with hx | hx
      · exact h1 hx
      · exact h2 hx
theorem fin_zero {t : List Nat} (h : fin t = 0) : 10 ∉ t := by
  unfold fin at h
  split at h
  · rename_i h1; rw [h1]; simp
  · cases h
theorem rest_zero {t : List Nat} (ht : Sp t) (h : restF t = 0) : 10 ∉ t := by
  rcases ht with rfl | ⟨u, rfl⟩
  · simp
  · unfold restF at h
    simp only [] at h
    split at h
    · cases h
    · unfold txtF at h
      split at h
      · cases h
      · split at h
        · cases h
        · rename_i h1
          have h2 : u.all prC = true := by
            cases hq : u.all prC
            · exact absurd hq h1
            · rfl
          intro hx
          rcases List.mem_cons.1 hx with hx | hx
          · omega
          · exact absurd (List.all_eq_true.1 h2 10 hx) (by decide)
theorem ctl_ten {s : List Nat} (h : cmdF s = 0) : 10 ∉ s := by
  unfold cmdF at h
  split at h
  · cases h
  · obtain ⟨k, hk⟩ : ∃ k, k = s.takeWhile fun c => !decide (c = 32) := ⟨_, rfl⟩
    obtain ⟨t, ht⟩ : ∃ t, t = s.dropWhile fun c => !decide (c = 32) := ⟨_, rfl⟩
    have hs : s = k ++ t := by rw [hk, ht]; exact List.takeWhile_append_dropWhile.symm
    have hsp : Sp t := by rw [ht]; exact sp_drop s
    rw [← hk, ← ht] at h
    have key : 10 ∉ k ∧ 10 ∉ t := by
      unfold cmdK at h
      split at h
      · rename_i e
        refine ⟨by rw [e]; decide, nxt_zero hsp h fun x u hu h => ?_⟩
        exact ⟨tgt_ten (ij_fe h).1, fin_zero (ij_fe h).2⟩
      · split at h
        · rename_i e
          refine ⟨by rw [e]; decide, nxt_zero hsp h fun x u hu h => ⟨tgt_ten (ij_fe h).1, nxt_zero hu (ij_fe h).2 fun y v hv h => ?_⟩⟩
          exact ⟨grp_ten (ij_fe h).1, fin_zero (ij_fe h).2⟩
        · split at h
          · rename_i e
            refine ⟨by rw [e]; decide, nxt_zero hsp h fun x u hu h => ⟨grp_ten (ij_fe h).1, nxt_zero hu (ij_fe h).2 fun y v hv h => ⟨num_ten (ij_fe h).1, nxt_zero hv (ij_fe h).2 fun m v hv h => ?_⟩⟩⟩
            split at h
            · rename_i e; exact ⟨by rw [e]; decide, rest_zero hv h⟩
            · split at h
              · rename_i e; exact ⟨by rw [e]; decide, nxt_zero hv h fun a z hz h => ⟨mods_ten (ij_fe h).1, rest_zero hz (ij_fe h).2⟩⟩
              · cases h
          · split at h
            · rename_i e
              refine ⟨by rw [e]; decide, nxt_zero hsp h fun x u hu h => ⟨grp_ten (ij_fe h).1, nxt_zero hu (ij_fe h).2 fun y v hv h => ?_⟩⟩
              exact ⟨num_ten (ij_fe h).1, fin_zero (ij_fe h).2⟩
            · split at h
              · rename_i e
                refine ⟨by rw [e]; decide, nxt_zero hsp h fun x u hu h => ⟨num_ten (ij_fe h).1, nxt_zero hu (ij_fe h).2 fun y v hv h => ?_⟩⟩
                exact ⟨pub_ten (ij_fe h).1, fin_zero (ij_fe h).2⟩
              · cases h
    rw [hs, List.mem_append]
    rintro (hx | hx)
    · exact key.1 hx
    · exact key.2 hx

/-- The numbers of a content are bytes. -/
structure Cont.Ok (c : Cont) : Prop where
  author : ∀ x ∈ c.author, x < 256
  root : ∀ x ∈ c.root, x < 256
  rootl : c.root.length = 16
  sup : ∀ x ∈ c.sup, x < 256
  refs : ∀ y ∈ c.refs, ∀ x ∈ y, x < 256
/-- What a valid content tells. -/
structure Cont.Vd (c : Cont) : Prop where
  name : 10 ∉ c.name
  date : 0 ≤ c.date ∧ c.date ≤ 105190559
  groups : c.groups ≠ [] ∧ ∀ x ∈ c.groups, nameF x = 0
  subject : 10 ∉ c.subject
  ctl : 10 ∉ c.ctl
  dist : 10 ∉ c.dist
  number : 0 ≤ c.number ∧ c.number ≤ 1000
  height : 1 ≤ c.height ∧ c.height ≤ 8
  leaf : 0 ≤ c.leaf ∧ c.leaf ≤ 256
theorem vd_of {c : Cont} (h : chkF c = 0) : c.Vd := by
  unfold chkF at h
  obtain ⟨h1, h⟩ := ij_fe h
  obtain ⟨h2, h⟩ := ij_fe h
  obtain ⟨h3, h⟩ := ij_fe h
  obtain ⟨h4, h⟩ := ij_fe h
  obtain ⟨h5, h⟩ := ij_fe h
  obtain ⟨h6, h⟩ := ij_fe h
  obtain ⟨h7, h⟩ := ij_fe h
  obtain ⟨h8, h⟩ := ij_fe h
  obtain ⟨h9, h⟩ := ij_fe h
  obtain ⟨h10, h⟩ := ij_fe h
  have h2 := eIf_zero (by decide) h2
  have h8 := eIf_zero (by decide) h8
  have h9 := eIf_zero (by decide) h9
  have h10 := eIf_zero (by decide) h10
  simp only [Bool.or_eq_false_iff, decide_eq_false_iff_not] at h2 h8 h10
  have hh : 1 ≤ c.height ∧ c.height ≤ 8 := by unfold heightB at h9; simp at h9; omega
  refine ⟨text_ten h1, by omega, groups_ok h3, text_ten h4, ?_, ?_, by omega, hh, by omega, ?_⟩
  · unfold ctlF at h6
    split at h6
    · rename_i e; rw [e]; simp
    · exact ctl_ten (ij_fe (ij_fe h6).2).1
  · unfold distF at h7
    have := eIf_zero (by decide) (ij_fe h7).2
    intro hx
    rw [List.any_eq_false] at this
    exact absurd (this 10 hx) (by decide)
  · have h11 := h10.2
    unfold leavesN at h11
    have hb : heightB c.height = true := by unfold heightB; simp; omega
    rw [if_pos hb] at h11
    have : (2:Int) ^ c.height.toNat ≤ 256 := by
      obtain ⟨k, hk⟩ : ∃ k, k = c.height.toNat := ⟨_, rfl⟩
      rw [← hk]
      have : k ≤ 8 := by omega
      have : ∀ k, k ≤ 8 → (2:Int) ^ k ≤ 256 := by decide
      exact this k (by omega)
    omega
theorem vals_ten {c : Cont} (ho : c.Ok) (h : c.Vd) : ∀ v ∈ fVals c, 10 ∉ v := by
  intro v hv
  unfold fVals at hv
  simp only [List.mem_cons, List.not_mem_nil, or_false] at hv
  rcases hv with rfl | rfl | rfl | rfl | rfl | rfl | rfl | rfl | rfl | rfl | rfl
  · exact h.name
  · intro hx; have := hexF_mem ho.author 10 hx; omega
  · intro hx; have := digI_mem h.date.1 10 hx; omega
  · intro hx
    rcases join_mem 44 _ 10 hx with h1 | ⟨x, h1, h2⟩
    · omega
    · exact (name_mem (h.groups.2 x h1) 10 h2).1 rfl
  · exact h.subject
  · intro hx
    rcases join_mem 32 _ 10 hx with h1 | ⟨x, h1, h2⟩
    · omega
    · obtain ⟨y, hy, rfl⟩ := List.mem_map.1 h1
      have := midF_mem (ho.refs y hy) 10 h2; omega
  · unfold optF
    split
    · simp
    · intro hx; have := midF_mem ho.sup 10 hx; omega
  · exact h.ctl
  · exact h.dist
  · unfold keyF
    rw [List.mem_append, List.mem_cons]
    rintro (hx | hx | hx)
    · have := digI_mem h.number.1 10 hx; omega
    · omega
    · exact encF_ten (by unfold pubB; intro x hx; rcases List.mem_cons.1 hx with rfl | hx; · omega
                         exact ho.root x hx) hx
  · intro hx; have := digI_mem h.leaf.1 10 hx; omega
theorem map_inj {l m : List (List Nat)} (h1 : ∀ y ∈ l, ∀ x ∈ y, x < 256) (h2 : ∀ y ∈ m, ∀ x ∈ y, x < 256) (h : l.map midF = m.map midF) : l = m := by
  induction l generalizing m with
  | nil => cases m with
    | nil => rfl
    | cons b m => simp at h
  | cons a l ih =>
    cases m with
    | nil => simp at h
    | cons b m =>
      simp only [List.map_cons, List.cons.injEq] at h
      rw [midF_inj (h1 a (List.mem_cons_self ..)) (h2 b (List.mem_cons_self ..)) h.1, ih (fun y hy => h1 y (List.mem_cons_of_mem _ hy)) (fun y hy => h2 y (List.mem_cons_of_mem _ hy)) h.2]
theorem form_inj {a b : Cont} (oa : a.Ok) (ob : b.Ok) (ha : chkF a = 0) (hb : chkF b = 0) (h : formF a = formF b) : a = b := by
  have va := vd_of ha
  have vb := vd_of hb
  unfold formF at h
  obtain ⟨h1, h2⟩ := lines_inj fWords (fVals a) (fVals b) _ _ rfl rfl (vals_ten oa va) (vals_ten ob vb) h
  simp only [List.cons.injEq, true_and] at h2
  unfold fVals at h1
  simp only [List.cons.injEq, and_true] at h1
  obtain ⟨e1, e2, e3, e4, e5, e6, e7, e8, e9, e10, e11⟩ := h1
  have f2 := hexF_inj oa.author ob.author e2
  have f3 := digI_inj va.date.1 vb.date.1 (by have := va.date.2; omega) (by have := vb.date.2; omega) e3
  have f4 := join_inj va.groups.1 vb.groups.1 (fun x hx hc => (name_mem (va.groups.2 x hx) 44 hc).2.1 rfl) (fun x hx hc => (name_mem (vb.groups.2 x hx) 44 hc).2.1 rfl) e4
  have nsp : ∀ {l : List (List Nat)}, (∀ y ∈ l, ∀ x ∈ y, x < 256) → ∀ z ∈ l.map midF, 32 ∉ z ∧ z ≠ [] := by
    intro l hl z hz
    obtain ⟨y, hy, rfl⟩ := List.mem_map.1 hz
    exact ⟨fun hx => by have := midF_mem (hl y hy) 32 hx; omega, midF_ne y⟩
  have f6 : a.refs = b.refs := by
    refine map_inj oa.refs ob.refs ?_
    by_cases ea : a.refs.map midF = []
    · rw [ea] at e6 ⊢
      exact (join_nil (fun z hz => (nsp ob.refs z hz).2) e6.symm).symm
    · by_cases eb : b.refs.map midF = []
      · rw [eb] at e6
        exact absurd (join_nil (fun z hz => (nsp oa.refs z hz).2) e6) ea
      · exact join_inj ea eb (fun z hz => (nsp oa.refs z hz).1) (fun z hz => (nsp ob.refs z hz).1) e6
  have f7 : a.sup = b.sup := by
    unfold optF at e7
    split at e7
    · rename_i h3
      split at e7
      · rename_i h4; rw [h3, h4]
      · exact absurd e7.symm (midF_ne _)
    · split at e7
      · exact absurd e7 (midF_ne _)
      · exact midF_inj oa.sup ob.sup e7
  have f10 : a.number = b.number ∧ a.height = b.height ∧ a.root = b.root := by
    unfold keyF at e10
    have n32 : ∀ {n : Int}, 0 ≤ n → 32 ∉ digI n := fun hn hx => by have := digI_mem hn 32 hx; omega
    obtain ⟨g1, g2⟩ := sep_inj (n32 va.number.1) (n32 vb.number.1) e10
    have pa : ∀ {c : Cont}, c.Ok → (∀ x ∈ pubB c, x < 256) ∧ (pubB c).length ≤ 131072 := fun {c} ho =>
      ⟨by unfold pubB; intro x hx; rcases List.mem_cons.1 hx with rfl | hx; · omega
          exact ho.root x hx, by unfold pubB; rw [List.length_cons, ho.rootl]; omega⟩
    have d1 := dec_enc (pubB a) (pa oa).1 (pa oa).2
    have d2 := dec_enc (pubB b) (pa ob).1 (pa ob).2
    rw [g2, d2] at d1
    have d3 : pubB b = pubB a := congrArg Prod.fst d1
    unfold pubB at d3
    simp only [List.cons.injEq] at d3
    have := va.height; have := vb.height
    exact ⟨digI_inj va.number.1 vb.number.1 (by have := va.number.2; omega) (by have := vb.number.2; omega) g1, by omega, d3.2.symm⟩
  have f11 := digI_inj va.leaf.1 vb.leaf.1 (by have := va.leaf.2; omega) (by have := vb.leaf.2; omega) e11
  obtain ⟨f8, f9, f12⟩ := f10
  cases a; cases b
  simp only at e1 f2 f3 f4 e5 f6 f7 e8 e9 f8 f9 f12 f11 h2
  rw [e1, f2, f3, f4, e5, f6, f7, e8, e9, f8, f9, f12, f11, h2]
end Go.Proofs.YtohmdledkhgdaaaGreatDoor
