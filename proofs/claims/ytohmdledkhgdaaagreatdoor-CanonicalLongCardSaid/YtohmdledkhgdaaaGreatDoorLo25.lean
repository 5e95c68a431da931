/- Plain: the canonical form determines the content. -/
import Derived.Test.YtohmdledkhgdaaaGreatDoorLo14
namespace Go.Proofs.YtohmdledkhgdaaaGreatDoor
set_option linter.unusedVariables false
/-! Decimal digits. -/
theorem digN_mem : ∀ (k u : Nat), ∀ c ∈ digN k u, 48 ≤ c ∧ c ≤ 57
  | 0, u, c, h => by simp [digN] at h; omega
  | k + 1, u, c, h => by
    simp only [digN] at h
    split at h
    · simp at h; omega
    · rw [List.mem_append] at h
      rcases h with h | h
      · exact digN_mem k _ c h
      · simp at h; omega
theorem digI_pos {n : Int} (h : 0 ≤ n) : digI n = digN 20 n.toNat := by unfold digI; rw [if_neg (by omega)]
theorem digI_mem {n : Int} (h : 0 ≤ n) : ∀ c ∈ digI n, 48 ≤ c ∧ c ≤ 57 := by rw [digI_pos h]; exact digN_mem _ _
theorem hxl_ge : ∀ a < 16, 48 ≤ hxl a ∧ hxl a ≤ 102 := by decide
theorem hexF_cons (a : Nat) (l : List Nat) : hexF (a :: l) = hxl (a / 16) :: hxl (a % 16) :: hexF l := rfl
theorem hexF_mem : ∀ {l : List Nat}, (∀ x ∈ l, x < 256) → ∀ c ∈ hexF l, 48 ≤ c ∧ c ≤ 102
  | [], _, c, h => by cases h
  | a :: l, h1, c, h => by
    rw [hexF_cons] at h
    have a1 := h1 a (List.mem_cons_self ..)
    rcases List.mem_cons.1 h with rfl | h
    · exact hxl_ge _ (by omega)
    · rcases List.mem_cons.1 h with rfl | h
      · exact hxl_ge _ (by omega)
      · exact hexF_mem (fun x hx => h1 x (List.mem_cons_of_mem _ hx)) c h
theorem midF_mem {l : List Nat} (hl : ∀ x ∈ l, x < 256) : ∀ c ∈ midF l, 48 ≤ c ∧ c ≤ 104 + 11 := by
  intro c h
  unfold midF sHash at h
  rw [List.mem_append, List.mem_cons] at h
  rcases h with (rfl | h) | h
  · omega
  · have := hexF_mem hl c h; omega
  · simp only [List.mem_cons] at h; rcases h with rfl | rfl | rfl | rfl | rfl | rfl | h <;> first | omega | cases h
/-! Joined texts. -/
theorem join_mem (s : Nat) : ∀ (l : List (List Nat)) (c : Nat), c ∈ joinF [s] l → c = s ∨ ∃ x ∈ l, c ∈ x
  | [], c, h => by cases h
  | [x], c, h => .inr ⟨x, List.mem_cons_self .., h⟩
  | x :: y :: r, c, h => by
    simp only [joinF] at h
    rw [List.mem_append, List.mem_append] at h
    rcases h with (h | h) | h
    · exact .inr ⟨x, List.mem_cons_self .., h⟩
    · exact .inl (by simpa using h)
    · rcases join_mem s (y :: r) c h with h | ⟨z, hz, hc⟩
      · exact .inl h
      · exact .inr ⟨z, List.mem_cons_of_mem _ hz, hc⟩
theorem spl_mem (s : Nat) : ∀ (l : List Nat) (c : Nat), c ∈ l → c = s ∨ ∃ p ∈ spl s l, c ∈ p
  | x :: t, c, h => by
    simp only [spl]
    by_cases hx : x = s
    · rw [if_pos hx]
      rcases List.mem_cons.1 h with rfl | h
      · exact .inl hx
      · rcases spl_mem s t c h with h | ⟨p, hp, hc⟩
        · exact .inl h
        · exact .inr ⟨p, List.mem_cons_of_mem _ hp, hc⟩
    · rw [if_neg hx]
      cases hq : spl s t with
      | nil => exact absurd hq (spl_ne s t)
      | cons q r =>
        simp only []
        rcases List.mem_cons.1 h with rfl | h
        · exact .inr ⟨_, List.mem_cons_self .., List.mem_cons_self ..⟩
        · rcases spl_mem s t c h with h | ⟨p, hp, hc⟩
          · exact .inl h
          · rw [hq] at hp
            rcases List.mem_cons.1 hp with rfl | hp
            · exact .inr ⟨_, List.mem_cons_self .., List.mem_cons_of_mem _ hc⟩
            · exact .inr ⟨p, List.mem_cons_of_mem _ hp, hc⟩
/-! Which bytes can stand in valid parts. -/
theorem ij_fe {a b : Nat} (h : fe a b = 0) : a = 0 ∧ b = 0 := by unfold fe at h; split at h <;> omega
theorem eIf_zero {p : Bool} {e : Nat} (he : e ≠ 0) (h : eIf p e = 0) : p = false := by unfold eIf at h; cases p <;> simp_all
theorem nmC_ne {c : Nat} (h : nmC c = true) : c ≠ 10 ∧ c ≠ 44 ∧ c ≠ 32 := by
  unfold nmC low dig at h; simp at h; omega
theorem name_mem {x : List Nat} (h : nameF x = 0) : ∀ c ∈ x, c ≠ 10 ∧ c ≠ 44 ∧ c ≠ 32 := by
  intro c hc
  unfold nameF at h
  split at h
  · cases h
  · split at h
    · cases h
    · rename_i h2
      rcases spl_mem 46 x c hc with rfl | ⟨p, hp, hcp⟩
      · omega
      · have h3 : compB p = true := by
          cases hq : compB p
          · exact absurd (List.any_eq_true.2 ⟨p, hp, by rw [hq]; rfl⟩) h2
          · rfl
        unfold compB at h3
        simp only [Bool.and_eq_true] at h3
        exact nmC_ne (List.all_eq_true.1 h3.2 c hcp)
theorem listG_all {f : List Nat → Nat} {d : Nat} (hd : d ≠ 0) : ∀ (l pre : List (List Nat)), listG f d pre l = 0 → ∀ x ∈ l, f x = 0
  | [], _, _, x, h => by cases h
  | y :: r, pre, h, x, hx => by
    simp only [listG] at h
    split at h
    · rename_i h1; exact absurd h h1
    · rename_i h1
      split at h
      · exact absurd h hd
      · rcases List.mem_cons.1 hx with rfl | hx
        · simpa using h1
        · exact listG_all hd r _ h x hx
theorem groups_ok {l : List (List Nat)} (h : groupsF l = 0) : l ≠ [] ∧ ∀ x ∈ l, nameF x = 0 := by
  unfold groupsF at h
  split at h
  · cases h
  · rename_i h1
    unfold listF at h
    split at h
    · cases h
    · exact ⟨h1, listG_all (by decide) l [] h⟩
theorem take_ten {l : List Nat} (hw : wholeB l = true) (h : 10 ∈ l.take (rn l)) : cpt l = 10 := by
  obtain ⟨h1, h2, h3⟩ := (whole_iff l).1 hw
  obtain ⟨e, hp⟩ := rn_pos hw
  obtain ⟨i, hi, hx⟩ := List.getElem_of_mem h
  rw [List.length_take] at hi
  have hg : l.getD i 0 = 10 := by
    rw [List.getElem_take] at hx
    rw [List.getD_eq_getElem?_getD, List.getElem?_eq_getElem (by omega)]; simpa using hx
  by_cases h0 : i = 0
  · subst h0
    have e1 : rn l = 1 := by rw [e, hg]; rfl
    unfold cpt
    rw [e1, if_pos (Nat.le_refl _), hg]
    have : ((l.take 1).drop 1) = [] := by rw [List.drop_eq_nil_iff, List.length_take]; omega
    rw [this]; rfl
  · have := uCont_ge (h3 i (by omega) (by omega))
    omega
theorem good_ten : ∀ (n : Nat) (l : List Nat) (a : Nat), l.length ≤ n → vld l = true → ((rsN l.length a l).all fun x => gd false x.2) = true → 10 ∉ l
  | 0, l, a, hl, _, _ => by have : l = [] := List.length_eq_zero_iff.1 (by omega)
                            rw [this]; simp
  | n + 1, l, a, hl, hv, hr => by
    by_cases hn : l = []
    · rw [hn]; simp
    · rw [vld_step hn] at hv
      simp only [Bool.and_eq_true, decide_eq_true_eq] at hv
      have hle := (rn_le l).1
      rw [rsN_step _ _ _ hv.1 (Nat.le_refl _)] at hr
      simp only [List.all_cons, Bool.and_eq_true] at hr
      have ih := good_ten n (l.drop (rn l)) _ (by rw [List.length_drop]; omega) hv.2 hr.2
      intro h
      rw [← List.take_append_drop (rn l) l, List.mem_append] at h
      rcases h with h | h
      · rw [take_ten (rn_ne.1 hv.1) h] at hr
        exact absurd hr.1 (by decide)
      · exact ih h
theorem text_ten {l : List Nat} {m : Nat} (h : textF l m = 0) : 10 ∉ l := by
  unfold textF at h
  have h1 := eIf_zero (by decide) (ij_fe (ij_fe h).2).1
  have h2 : good false l = true := by simpa using h1
  unfold good at h2
  simp only [Bool.and_eq_true] at h2
  exact good_ten l.length l 0 (Nat.le_refl _) h2.1 h2.2
theorem hvl_ten {c : Nat} (h : (hvl c).isSome = true) : c ≠ 10 := by rintro rfl; cases h
theorem unhex_ten : ∀ {l r : List Nat}, unhex l = some r → 10 ∉ l
  | [], _, _ => by simp
  | [_], _, h => by cases h
  | a :: b :: t, r, h => by
    simp only [unhex] at h
    cases ha : hvl a with
    | none => rw [ha] at h; cases h
    | some x =>
      cases hb : hvl b with
      | none => rw [ha, hb] at h; cases h
      | some y =>
        cases hu : unhex t with
        | none => rw [ha, hb, hu] at h; cases h
        | some s =>
          have := unhex_ten hu
          have h1 := hvl_ten (c := a) (by rw [ha]; rfl)
          have h2 := hvl_ten (c := b) (by rw [hb]; rfl)
          simp only [List.mem_cons, not_or]
          exact ⟨Ne.symm h1, Ne.symm h2, this⟩
theorem mid_ten {x i : List Nat} (h : midP x = some i) : 10 ∉ x := by
  unfold midP at h
  split at h
  · rename_i hc
    obtain ⟨h1, h2, h3⟩ := hc
    have hu := unhex_ten h
    intro hx
    rw [← List.take_append_drop 1 x, List.mem_append] at hx
    rcases hx with hx | hx
    · cases x with
      | nil => cases hx
      | cons a t => simp at hx h2; omega
    · rw [← List.take_append_drop 64 (x.drop 1), List.mem_append] at hx
      rcases hx with hx | hx
      · exact hu hx
      · rw [List.drop_drop, h3] at hx; exact absurd hx (by decide)
  · cases h
theorem aut_ten {x i : List Nat} (h : autP x = some i) : 10 ∉ x := by
  unfold autP at h
  split at h
  · exact unhex_ten h
  · cases h
theorem ij_mapM {f : List Nat → Option (List Nat)} : ∀ (l : List (List Nat)) (r : List (List Nat)), l.mapM f = some r → ∀ p ∈ l, ∃ i, f p = some i
  | [], _, _, p, h => by cases h
  | y :: t, r, h, p, hp => by
    rw [List.mapM_cons] at h
    cases hy : f y with
    | none => rw [hy] at h; cases h
    | some z =>
      rw [hy] at h
      cases ht : t.mapM f with
      | none => rw [ht] at h; cases h
      | some s =>
        rcases List.mem_cons.1 hp with rfl | hp
        · exact ⟨z, hy⟩
        · exact ij_mapM t s ht p hp
theorem mods_ten {x : List Nat} (h : modsF x = 0) : 10 ∉ x := by
  unfold modsF at h
  cases hm : (spl 44 x).mapM autP with
  | none => rw [hm] at h; cases h
  | some l =>
    intro hx
    rcases spl_mem 44 x 10 hx with h | ⟨p, hp, hc⟩
    · omega
    · obtain ⟨i, hi⟩ := ij_mapM _ _ hm p hp
      exact aut_ten hi hc
theorem tgt_ten {x : List Nat} (h : tgtF x = 0) : 10 ∉ x := by
  unfold tgtF at h
  cases hm : midP x with
  | none => rw [hm] at h; cases h
  | some i => exact mid_ten hm
theorem grp_ten {x : List Nat} (h : grpF x = 0) : 10 ∉ x := by
  unfold grpF at h
  split at h
  · rename_i h1; intro hx; exact (name_mem h1 10 hx).1 rfl
  · cases h
theorem num_ten {a b : Nat} {x : List Nat} (h : numF a b x = 0) : 10 ∉ x := by
  unfold numF at h
  cases hm : numP x with
  | none => rw [hm] at h; cases h
  | some n =>
    unfold numP at hm
    split at hm
    · cases hm
    · rename_i hc
      intro hx
      have h1 : x.all dig = true := by
        cases hq : x.all dig
        · exact absurd (.inr (.inr (.inr hq))) hc
        · rfl
      exact absurd (List.all_eq_true.1 h1 10 hx) (by decide)
theorem al_gt : ∀ v, v < 64 → 43 ≤ al v := by decide
theorem encF_ten {l : List Nat} (h : ∀ x ∈ l, x < 256) : 10 ∉ encF l := by
  rw [encF_sx l h]
  have hs := (sx_facts l.length l (Nat.le_refl _) h).2.1
  unfold pad4
  intro hx
  rw [List.mem_append] at hx
  rcases hx with hx | hx
  · obtain ⟨v, hv, e⟩ := List.mem_map.1 hx
    have := al_gt v (hs v hv)
    omega
  · rw [List.mem_replicate] at hx; omega
theorem pub_ten {x : List Nat} (h : pubF x = 0) : 10 ∉ x := by
  unfold pubF at h
  split at h
  · rename_i h1; exact absurd h h1
  · rename_i h1
    obtain ⟨h2, h3⟩ := enc_dec x (by omega)
    rw [← h2]
    exact encF_ten h3
/-- A rest begins with its space. -/
def Sp (t : List Nat) : Prop := t = [] ∨ ∃ u, t = 32 :: u
theorem sp_drop (l : List Nat) : Sp (l.dropWhile fun c => !decide (c = 32)) := by
  induction l with
  | nil => exact .inl rfl
  | cons a l ih =>
    by_cases ha : a = 32
    · rw [List.dropWhile_cons_of_neg (by simp [ha])]; exact .inr ⟨l, by rw [ha]⟩
    · rw [List.dropWhile_cons_of_pos (by simp [ha])]; exact ih
theorem nxt_zero {t : List Nat} {k : List Nat → List Nat → Nat} (ht : Sp t) (h : nxt t k = 0) (P : ∀ x u, Sp u → k x u = 0 → 10 ∉ x ∧ 10 ∉ u) : 10 ∉ t := by
  rcases ht with rfl | ⟨u, rfl⟩
  · simp
  · unfold nxt at h
    obtain ⟨h1, h2⟩ := P _ _ (sp_drop u) h
    intro hx
    rcases List.mem_cons.1 hx with hx | hx
    · omega
    · rw [← List.takeWhile_append_dropWhile (p := fun c => !decide (c = 32)) (l := u), List.mem_append] at hx
      rcases hx with hx | hx
      · exact h1 hx
      · exact h2 hx
theorem fin_zero {t : List Nat} (h : fin t = 0) : 10 ∉ t := by
  unfold fin at h
  split at h
  · rename_i h1; rw [h1]; simp
  · cases h
theorem rest_zero {t : List Nat} (ht : Sp t) (h : restF t = 0) : 10 ∉ t := by
  rcases ht with rfl | ⟨u, rfl⟩
  · simp
  · unfold restF at h
    simp only [] at h
    split at h
    · cases h
    · unfold txtF at h
      split at h
      · cases h
      · split at h
        · cases h
        · rename_i h1
          have h2 : u.all prC = true := by
            cases hq : u.all prC
            · exact absurd hq h1
            · rfl
          intro hx
          rcases List.mem_cons.1 hx with hx | hx
          · omega
          · exact absurd (List.all_eq_true.1 h2 10 hx) (by decide)
theorem ctl_ten {s : List Nat} (h : cmdF s = 0) : 10 ∉ s := by
  unfold cmdF at h
  split at h
  · cases h
  · obtain ⟨k, hk⟩ : ∃ k, k = s.takeWhile fun c => !decide (c = 32) := ⟨_, rfl⟩
    obtain ⟨t, ht⟩ : ∃ t, t = s.dropWhile fun c => !decide (c = 32) := ⟨_, rfl⟩
    have hs : s = k ++ t := by rw [hk, ht]; exact List.takeWhile_append_dropWhile.symm
    have hsp : Sp t := by rw [ht]; exact sp_drop s
    rw [← hk, ← ht] at h
    have key : 10 ∉ k ∧ 10 ∉ t := by
      unfold cmdK at h
      split at h
      · rename_i e
        refine ⟨by rw [e]; decide, nxt_zero hsp h fun x u hu h => ?_⟩
        exact ⟨tgt_ten (ij_fe h).1, fin_zero (ij_fe h).2⟩
      · split at h
        · rename_i e
          refine ⟨by rw [e]; decide, nxt_zero hsp h fun x u hu h => ⟨tgt_ten (ij_fe h).1, nxt_zero hu (ij_fe h).2 fun y v hv h => ?_⟩⟩
          exact ⟨grp_ten (ij_fe h).1, fin_zero (ij_fe h).2⟩
        · split at h
          · rename_i e
            refine ⟨by rw [e]; decide, nxt_zero hsp h fun x u hu h => ⟨grp_ten (ij_fe h).1, nxt_zero hu (ij_fe h).2 fun y v hv h => ⟨num_ten (ij_fe h).1, nxt_zero hv (ij_fe h).2 fun m v hv h => ?_⟩⟩⟩
            split at h
            · rename_i e; exact ⟨by rw [e]; decide, rest_zero hv h⟩
            · split at h
              · rename_i e; exact ⟨by rw [e]; decide, nxt_zero hv h fun a z hz h => ⟨mods_ten (ij_fe h).1, rest_zero hz (ij_fe h).2⟩⟩
              · cases h
          · split at h
            · rename_i e
              refine ⟨by rw [e]; decide, nxt_zero hsp h fun x u hu h => ⟨grp_ten (ij_fe h).1, nxt_zero hu (ij_fe h).2 fun y v hv h => ?_⟩⟩
              exact ⟨num_ten (ij_fe h).1, fin_zero (ij_fe h).2⟩
            · split at h
              · rename_i e
                refine ⟨by rw [e]; decide, nxt_zero hsp h fun x u hu h => ⟨num_ten (ij_fe h).1, nxt_zero hu (ij_fe h).2 fun y v hv h => ?_⟩⟩
                exact ⟨pub_ten (ij_fe h).1, fin_zero (ij_fe h).2⟩
              · cases h
    rw [hs, List.mem_append]
    rintro (hx | hx)
    · exact key.1 hx
    · exact key.2 hx
/-- The numbers of a content are bytes. -/
structure Cont.Ok (c : Cont) : Prop where
  author : ∀ x ∈ c.author, x < 256
  root : ∀ x ∈ c.root, x < 256
  rootl : c.root.length = 16
  sup : ∀ x ∈ c.sup, x < 256
  refs : ∀ y ∈ c.refs, ∀ x ∈ y, x < 256
/-- What a valid content tells. -/
structure Cont.Vd (c : Cont) : Prop where
  name : 10 ∉ c.name
  date : 0 ≤ c.date ∧ c.date ≤ 105190559
  groups : c.groups ≠ [] ∧ ∀ x ∈ c.groups, nameF x = 0
  subject : 10 ∉ c.subject
  ctl : 10 ∉ c.ctl
  dist : 10 ∉ c.dist
  number : 0 ≤ c.number ∧ c.number ≤ 1000
  height : 1 ≤ c.height ∧ c.height ≤ 8
  leaf : 0 ≤ c.leaf ∧ c.leaf ≤ 256
theorem vd_of {c : Cont} (h : chkF c = 0) : c.Vd := by
  unfold chkF at h
  obtain ⟨h1, h⟩ := ij_fe h
  obtain ⟨h2, h⟩ := ij_fe h
  obtain ⟨h3, h⟩ := ij_fe h
  obtain ⟨h4, h⟩ := ij_fe h
  obtain ⟨h5, h⟩ := ij_fe h
  obtain ⟨h6, h⟩ := ij_fe h
  obtain ⟨h7, h⟩ := ij_fe h
  obtain ⟨h8, h⟩ := ij_fe h
  obtain ⟨h9, h⟩ := ij_fe h
  obtain ⟨h10, h⟩ := ij_fe h
  have h2 := eIf_zero (by decide) h2
  have h8 := eIf_zero (by decide) h8
  have h9 := eIf_zero (by decide) h9
  have h10 := eIf_zero (by decide) h10
  simp only [Bool.or_eq_false_iff, decide_eq_false_iff_not] at h2 h8 h10
  have hh : 1 ≤ c.height ∧ c.height ≤ 8 := by unfold heightB at h9; simp at h9; omega
  refine ⟨text_ten h1, by omega, groups_ok h3, text_ten h4, ?_, ?_, by omega, hh, by omega, ?_⟩
  · unfold ctlF at h6
    split at h6
    · rename_i e; rw [e]; simp
    · exact ctl_ten (ij_fe (ij_fe h6).2).1
  · unfold distF at h7
    have := eIf_zero (by decide) (ij_fe h7).2
    intro hx
    rw [List.any_eq_false] at this
    exact absurd (this 10 hx) (by decide)
  · have h11 := h10.2
    unfold leavesN at h11
    have hb : heightB c.height = true := by unfold heightB; simp; omega
    rw [if_pos hb] at h11
    have : (2:Int) ^ c.height.toNat ≤ 256 := by
      obtain ⟨k, hk⟩ : ∃ k, k = c.height.toNat := ⟨_, rfl⟩
      rw [← hk]
      have : k ≤ 8 := by omega
      have : ∀ k, k ≤ 8 → (2:Int) ^ k ≤ 256 := by decide
      exact this k (by omega)
    omega
end Go.Proofs.YtohmdledkhgdaaaGreatDoor
