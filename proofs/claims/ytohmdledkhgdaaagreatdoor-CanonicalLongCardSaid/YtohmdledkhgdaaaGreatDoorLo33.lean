/- bulletinref15.bad, end, Body. -/
import Derived.Test.YtohmdledkhgdaaaGreatDoorLo32
namespace Go.Proofs.YtohmdledkhgdaaaGreatDoor
open Go.RowKit
set_option linter.unusedVariables false
set_option maxRecDepth 100000
theorem tw_len (p : Nat → Bool) : ∀ (m : List Nat) (k : Nat), k ≤ m.length → (∀ j, j < k → p (m.getD j 0) = true) → (k = m.length ∨ p (m.getD k 0) = false) → (m.takeWhile p).length = k
  | [], k, hk, _, _ => by simp at hk; subst hk; rfl
  | x :: m, 0, hk, h1, h2 => by
    rcases h2 with h2 | h2
    · simp at h2
    · have : p x = false := h2
      simp [this]
  | x :: m, k + 1, hk, h1, h2 => by
    have h0 : p x = true := h1 0 (by omega)
    have := tw_len p m k (by simpa using hk) (fun j hj => h1 (j + 1) (by omega)) (by
      rcases h2 with h2 | h2
      · left; simpa using h2
      · right; exact h2)
    simp [h0, this]
theorem line_at (l : List Nat) (a n : Nat) (h1 : a ≤ n) (h2 : n ≤ l.length) (h3 : ∀ j, a ≤ j → j < n → l.getD j 0 ≠ 10) (h4 : n = l.length ∨ l.getD n 0 = 10) : a + (line (l.drop a)).length = n := by
  have hg : ∀ j, (l.drop a).getD j 0 = l.getD (a + j) 0 := fun j => by simp [List.getD]
  have := tw_len (fun c => !decide (c = 10)) (l.drop a) (n - a) (by rw [List.length_drop]; omega) (fun j hj => by
    rw [hg]
    have := h3 (a + j) (by omega) (by omega)
    simp only [Bool.not_eq_true', decide_eq_false_iff_not]
    exact this) (by
    rcases h4 with h4 | h4
    · left; rw [List.length_drop]; omega
    · right; rw [hg, show a + (n - a) = n by omega, h4]; rfl)
  unfold line
  omega
theorem line_take (l : List Nat) : line l = l.take (line l).length := by
  have h : line l <+: l := List.takeWhile_prefix _
  exact List.prefix_iff_eq_take.1 h
theorem bodyN_eq : ∀ (n : Nat) (l : List Nat) (k : Nat), l.length ≤ n → l.length ≤ k → bodyN k l = bodyN l.length l := by
  intro n
  induction n with
  | zero =>
    intro l k hl hk
    have : l = [] := List.length_eq_zero_iff.1 (by omega)
    subst this
    cases k <;> rfl
  | succ n ih =>
    intro l k hl hk
    cases l with
    | nil => cases k <;> rfl
    | cons a l =>
      cases k with
      | zero => simp at hk
      | succ k =>
        rw [List.length_cons]
        simp only [bodyN]
        have hlen : ((a :: l).drop ((line (a :: l)).length + 1)).length ≤ l.length := by simp
        have hl' : l.length ≤ n := by simpa using hl
        have hk' : l.length ≤ k := by simpa using hk
        rw [ih _ k (by omega) (by omega), ih _ l.length (by omega) (by omega)]
theorem bodyF_step {l : List Nat} (h : l ≠ []) : bodyF l = if (line l).length = l.length then 4 else if 998 < (line l).length then 5 else if good true (line l) = false then 6 else bodyF (l.drop ((line l).length + 1)) := by
  cases l with
  | nil => exact absurd rfl h
  | cons a l =>
    conv => lhs; unfold bodyF
    rw [List.length_cons]
    simp only [bodyN]
    rw [if_neg (List.cons_ne_nil _ _), bodyN_eq l.length _ l.length (by simp) (by simp)]
    rfl
/-- What bad returns. -/
def BadPost (l : List Nat) (w : World) (e : Ending) (w' : World) : Prop :=
  ∃ r : Int, e = .returned (.int .i64 r) ∧ (good true l = true → r < 0) ∧ (good true l = false → 0 ≤ r) ∧ -1 ≤ r ∧ r ≤ 20000000 ∧ Below w.heap.size w w'
theorem rns_off_le : ∀ (k a : Nat) (l : List Nat), ∀ p ∈ rsN k a l, p.1 ≤ a + l.length
  | 0, _, _, p, h => by simp [rsN] at h
  | k + 1, a, l, p, h => by
    simp only [rsN] at h
    split at h
    · cases h
    · have hl := (rn_le l).1
      rcases List.mem_cons.1 h with rfl | h
      · simp
      · have := rns_off_le k (a + rn l) (l.drop (rn l)) p h
        rw [List.length_drop] at this
        omega
set_option maxHeartbeats 1000000 in
theorem rbad_any (s : ByteArray) (w : World) (hs : s.size ≤ 10000000) :
    Calls Tryz.prog 93 #[.string s] w (BadPost (bs s) w) := by
  have A := Lib.hid (all_any s w hs)
  have LN : (rns (bs s)).length ≤ s.size := by rw [← bs_length]; exact rns_len _
  have LN2 : ((rns (bs s)).map Prod.snd).length ≤ s.size := by rw [List.length_map]; exact LN
  obtain ⟨g, hg⟩ : ∃ g, g = good true (bs s) := ⟨_, rfl⟩
  have TG : Hid (g = (vld (bs s) && ((rns (bs s)).map Prod.snd).all (gd true))) := Lib.hid (by rw [hg, good_map])
  have EXT : Hid (∀ (r : Int) w', (g = true → r < 0) → (g = false → 0 ≤ r) → -1 ≤ r → r ≤ 20000000 → Below w.heap.size w w' → BadPost (bs s) w (.returned (.int .i64 r)) w') := Lib.hid (fun r w' h1 h2 h3 h4 h5 => ⟨r, rfl, by rw [← hg]; exact h1, by rw [← hg]; exact h2, h3, h4, h5⟩)
  obtain ⟨V, hV⟩ : ∃ V, V = vld (bs s) := ⟨_, rfl⟩
  obtain ⟨ns, hns⟩ : ∃ ns, ns = (rns (bs s)).map Prod.snd := ⟨_, rfl⟩
  obtain ⟨os, hos⟩ : ∃ os, os = (rns (bs s)).map Prod.fst := ⟨_, rfl⟩
  have HV := Lib.hid hV
  rw [← hV, ← hns] at TG
  obtain ⟨m, hm2⟩ : ∃ m, m = ns.length := ⟨_, rfl⟩
  rw [← hns, ← hm2] at LN2
  have OL : Hid (os.length = m) := Lib.hid (by rw [hos, hm2, hns, List.length_map, List.length_map])
  have OB : Hid (∀ j, os.getD j 0 ≤ s.size) := Lib.hid (fun j => by
    by_cases h : j < os.length
    · have hm := List.getElem_mem h
      rw [List.getD_eq_getElem?_getD, List.getElem?_eq_getElem h]
      have hm' : os[j] ∈ (rns (bs s)).map Prod.fst := by rw [← hos]; exact hm
      obtain ⟨p, hp, e⟩ := List.mem_map.1 hm'
      have := rns_off_le _ _ _ p hp
      rw [bs_length] at this
      simp only [Option.getD_some]
      have e2 : os[j] = p.1 := by rw [e]
      omega
    · rw [List.getD_eq_getElem?_getD, List.getElem?_eq_none (by omega)]; simp)
  have HNS := Lib.hid hns
  have HOS := Lib.hid hos
  have HM := Lib.hid hm2
  have SZ := Lib.hid hs
  clear LN hV hns hm2 hos hg
  go_enter Tryz.func93, Tryz.ntmps93
  go_wp2_with fail
  refine A.out.mono ?_
  rintro e w1 ⟨v1, v2, a, er, rfl, r1, r2, h1, h2, ha, hb⟩
  rw [bs_length] at ha
  rw [← HNS.out] at r1
  rw [← HOS.out] at r2
  have R1 := Lib.hid r1; have R2 := Lib.hid r2
  have B1 := Lib.hid hb
  have ER : Hid ((V = true → er = 0) ∧ (V = false → er ≠ 0)) := Lib.hid ⟨fun h => h1 (HV.out.symm.trans h), fun h => h2 (HV.out.symm.trans h)⟩
  clear A r1 r2 h1 h2 hb
  obtain ⟨ba, cap, rfl, hc, _⟩ := R1.out
  rw [← HM.out] at hc ⊢
  go_wp2_with fail
  go_loopg [7] m (fun k i wr => ∃ n : Nat, n ≤ m ∧ k = m - n ∧ i = .int .i64 (n : Int) ∧ Hid ((ns.take n).all (gd true) = true) ∧ Hid (Dr w1 wr))
  case atStart => exact ⟨0, by omega, rfl, rfl, Lib.hid rfl, Lib.hid (Dr.refl _)⟩
  case round =>
    obtain ⟨n, hn, rfl, rfl, hg, hd⟩ := hrel
    have BD : Hid (Below w.heap.size w wr) := Lib.hid (B1.out.trans ((Dr.below hd.out).mono B1.out.size))
    by_cases b : n < m
    · have hnl : n < ns.length := by rw [← HM.out]; exact b
      obtain ⟨b0, off, cap', e0, _, hb0, hcell⟩ := R1.out.at n hnl
      obtain ⟨x, hx⟩ : ∃ x, x = ns.getD n 0 := ⟨_, rfl⟩
      rw [← hx] at hcell
      cases e0
      have hcc : wr.cell? ⟨b0, off + n, none⟩ = some (.int .i64 (x : Int)) := ((Dr.below hd.out).cell (p := ⟨b0, off + n, none⟩) hb0).trans hcell
      obtain ⟨c, hcx⟩ : ∃ c, c = ctlC x := ⟨_, rfl⟩
      have C := Lib.hid (fun w => rctl_any w x)
      rw [← hcx] at C
      have HC := Lib.hid hcx
      have HX := Lib.hid hx
      have HL := Lib.hid hnl
      clear hcell hx hcx hnl hb0
      cases c
      · have G : Hid ((ns.take (n + 1)).all (gd true) = true) := Lib.hid (all_take_miss hg.out HL.out HX.out (by unfold gd; rw [← HC.out]; rfl))
        clear hg
        go_wp2_with (go_at_call 85; refine (C.out _).mono ?_; rintro e w' ⟨rfl, rfl⟩)
        go_roundg (m - (n + 1))
        case measure => omega
        case rel => exact ⟨n + 1, by omega, rfl, by go_num, G, by (first | exact hd | exact Lib.hid (hd.out.drewN _))⟩
      · by_cases x9 : x = 9
        · have q1 : ((x : Int) != 9) = false := int_nneq (by omega)
          have G : Hid ((ns.take (n + 1)).all (gd true) = true) := Lib.hid (all_take_miss hg.out HL.out HX.out (by unfold gd; rw [decide_eq_true x9, Bool.and_self, Bool.or_true]))
          clear hg x9
          go_wp2_with (go_at_call 85; refine (C.out _).mono ?_; rintro e w' ⟨rfl, rfl⟩)
          go_roundg (m - (n + 1))
          case measure => omega
          case rel => exact ⟨n + 1, by omega, rfl, by go_num, G, by (first | exact hd | exact Lib.hid (hd.out.drewN _))⟩
        · have q1 : ((x : Int) != 9) = true := int_neq (by omega)
          have G : Hid (g = false) := Lib.hid (by rw [TG.out, all_take_hit HL.out HX.out (by unfold gd; rw [← HC.out, decide_eq_false x9]; rfl), Bool.and_false])
          obtain ⟨b2, off2, cap2, e2, hc2, hb2, hcell2⟩ := R2.out.at n (by rw [OL.out]; exact b)
          obtain ⟨y, hy⟩ : ∃ y, y = os.getD n 0 := ⟨_, rfl⟩
          have hys : y ≤ s.size := by rw [hy]; exact OB.out n
          rw [← hy] at hcell2
          subst e2
          rw [OL.out] at hc2 ⊢
          have hcc2 : wr.cell? ⟨b2, off2 + n, none⟩ = some (.int .i64 (y : Int)) := ((Dr.below hd.out).cell (p := ⟨b2, off2 + n, none⟩) hb2).trans hcell2
          clear hg x9 hcell2 hy hb2
          go_wp2_with (go_at_call 85; refine (C.out _).mono ?_; rintro e w' ⟨rfl, rfl⟩)
          go_ret
          exact EXT.out _ _ (fun h => by rw [G.out] at h; cases h) (fun _ => by omega) (by omega) (by have := SZ.out; omega) (by (first | exact BD.out | exact BD.out.drew | exact BD.out.trans ((Dr.below ((Dr.refl _).drewN _)).mono BD.out.size)))
    · obtain rfl : n = m := by omega
      have GV : Hid (g = V) := Lib.hid (by
        have h := hg.out
        rw [List.take_of_length_le (by rw [HM.out]; exact Nat.le_refl _)] at h
        rw [TG.out, h, Bool.and_true])
      clear hg
      cases V with
      | true =>
        obtain rfl := ER.out.1 rfl
        go_wp2_with fail
        go_ret
        exact EXT.out _ _ (fun _ => by decide) (fun h => by rw [GV.out] at h; cases h) (by decide) (by decide) BD.out
      | false =>
        have q1 : ((er : Int) != 0) = true := int_neq (by have := ER.out.2 rfl; omega)
        go_wp2_with fail
        go_ret
        exact EXT.out _ _ (fun h => by rw [GV.out] at h; cases h) (fun _ => by omega) (by omega) (by have := SZ.out; omega) BD.out
set_option maxHeartbeats 1000000 in
theorem rend_any (s : ByteArray) (a : Nat) (w : World) (hs : s.size ≤ 10000000) (ha : a ≤ s.size) :
    Calls Tryz.prog 92 #[.string s, .int .i64 (a : Int)] w fun e w' => e = .returned (.int .i64 ((a + (line ((bs s).drop a)).length : Nat) : Int)) ∧ Dr w w' := by
  go_enter Tryz.func92, Tryz.ntmps92
  go_wp2_with fail
  go_loopg [1] (s.size - a) (fun k i wr => ∃ n : Nat, a ≤ n ∧ n ≤ s.size ∧ k = s.size - n ∧ i = .int .i64 (n : Int) ∧ Hid (∀ j, a ≤ j → j < n → (bs s).getD j 0 ≠ 10) ∧ Hid (Dr w wr))
  case atStart => exact ⟨a, by omega, by omega, rfl, rfl, Lib.hid (fun j h1 h2 => by omega), Lib.hid (Dr.refl _)⟩
  case round =>
    obtain ⟨n, h1, h2, rfl, rfl, hv, hd⟩ := hrel
    have E : Hid (n = s.size ∨ (bs s).getD n 0 = 10 → n = a + (line ((bs s).drop a)).length) := Lib.hid (fun h => (line_at (bs s) a n h1 (by rw [bs_length]; exact h2) hv.out (by rw [bs_length]; exact h)).symm)
    by_cases b : n < s.size
    · obtain ⟨x, hx⟩ : ∃ x, x = (bs s).getD n 0 := ⟨_, rfl⟩
      have hx2 : x < 256 := by rw [hx]; exact bs_lt' s n
      have y1 := fun w => idx_q s w n n rfl b x hx
      have HX := Lib.hid hx
      clear hx
      by_cases e10 : x = 10
      · have q1 : ((x : Int) != 10) = false := int_nneq (by omega)
        have F := Lib.hid (E.out (.inr (by rw [← HX.out]; exact e10)))
        clear hv E e10
        go_wp2_with fail
        go_ret
        exact ⟨by rw [← F.out]; rfl, by (first | exact hd.out | exact hd.out.drewN _)⟩
      · have q1 : ((x : Int) != 10) = true := int_neq (by omega)
        have F : Hid (∀ j, a ≤ j → j < n + 1 → (bs s).getD j 0 ≠ 10) := Lib.hid (fun j g1 g2 => by
          rcases Nat.lt_succ_iff_lt_or_eq.1 g2 with g | rfl
          · exact hv.out j g1 g
          · rw [← HX.out]; exact e10)
        clear hv E e10
        go_wp2_with fail
        go_roundg (s.size - (n + 1))
        case measure => omega
        case rel => exact ⟨n + 1, by omega, by omega, rfl, by go_num, F, by (first | exact hd | exact Lib.hid (hd.out.drewN _))⟩
    · have F := Lib.hid (E.out (.inl (by omega)))
      clear hv E
      go_wp2_with fail
      go_ret
      exact ⟨by rw [← F.out]; rfl, by (first | exact hd.out | exact hd.out.drewN _)⟩
/-- What Body returns. -/
def RbPost (l : List Nat) (w : World) (e : Ending) (w' : World) : Prop := ∃ n : Int, e = .returned (.tuple #[.int .i64 n, .int .i64 (bodyF l : Nat)]) ∧ Below w.heap.size w w'
set_option maxHeartbeats 1000000 in
theorem rbody_any (s : ByteArray) (w : World) (hs : s.size ≤ 10000000) :
    Calls Tryz.prog 50 #[.string s] w (RbPost (bs s) w) := by
  obtain ⟨T, hT⟩ : ∃ T, T = bodyF (bs s) := ⟨_, rfl⟩
  have FIN : Hid (∀ (n : Int) (t : Nat) w', t = T → Below w.heap.size w w' → RbPost (bs s) w (.returned (.tuple #[.int .i64 n, .int .i64 (t : Int)])) w') := Lib.hid (by
    rintro n t w' rfl h
    exact ⟨n, by rw [hT], h⟩)
  have HT := Lib.hid hT
  clear hT
  go_enter Tryz.func50, Tryz.ntmps50
  go_wp2_with fail
  go_loopg [4] s.size (fun k i wr => ∃ n : Nat, n ≤ s.size ∧ k = s.size - n ∧ i = .int .i64 (n : Int) ∧ Hid (T = bodyF ((bs s).drop n)) ∧ Hid (Below w.heap.size w wr))
  case atStart => exact ⟨0, by omega, rfl, rfl, HT, Lib.hid (Below.refl _ _)⟩
  case round =>
    obtain ⟨n, h2, rfl, rfl, hv, hb⟩ := hrel
    by_cases b : n < s.size
    · have hlt : ((bs s).drop n).length = s.size - n := by rw [List.length_drop, bs_length]
      have hne : (bs s).drop n ≠ [] := by intro e; rw [e] at hlt; simp at hlt; omega
      have ST := bodyF_step hne
      have HE := Lib.hid (rend_any s n wr hs h2)
      have hll := line_le ((bs s).drop n)
      rw [hlt] at hll ST
      obtain ⟨m, hm⟩ : ∃ m, m = (line ((bs s).drop n)).length := ⟨_, rfl⟩
      have LT : Hid (line ((bs s).drop n) = bs (s.extract n (n + m))) := Lib.hid (by rw [line_take, ← hm, bs_extract, List.drop_take]; congr 1; omega)
      rw [← hm] at hll ST HE
      rw [List.drop_drop] at ST
      have STH : Hid (T = if m = s.size - n then 4 else if 998 < m then 5 else if good true (bs (s.extract n (n + m))) = false then 6 else bodyF ((bs s).drop (n + (m + 1)))) := Lib.hid (by rw [hv.out, ST, LT.out])
      clear hlt hne ST hm hv LT
      go_wp2_with fail
      refine HE.out.mono ?_
      rintro e w1 ⟨rfl, hd1⟩
      have B1 := Lib.hid (hb.out.trans ((Dr.below hd1).mono hb.out.size))
      clear hd1 HE
      by_cases c1 : m = s.size - n
      · have q1 : (((n + m : Nat) : Int) == (s.size : Int)) = true := int_eq (by omega)
        have F : Hid (4 = T) := Lib.hid (by rw [STH.out, if_pos c1])
        clear STH c1
        go_wp2_with fail
        go_ret2
        exact FIN.out _ 4 _ F.out B1.out
      have q1 : (((n + m : Nat) : Int) == (s.size : Int)) = false := int_ne (by omega)
      by_cases c2 : 998 < m
      · have F : Hid (5 = T) := Lib.hid (by rw [STH.out, if_neg c1, if_pos c2])
        clear STH c1
        go_wp2_with fail
        go_ret2
        exact FIN.out _ 5 _ F.out B1.out
      have BA := Lib.hid (fun w => rbad_any (s.extract n (n + m)) w (by rw [ByteArray.size_extract]; omega))
      obtain ⟨g, hg⟩ : ∃ g, g = good true (bs (s.extract n (n + m))) := ⟨_, rfl⟩
      have HG := Lib.hid hg
      have ST2 : Hid (T = if g = false then 6 else bodyF ((bs s).drop (n + (m + 1)))) := Lib.hid (by rw [STH.out, if_neg c1, if_neg c2, ← hg])
      have c3 : n + m < s.size := by omega
      clear STH c1 hg
      go_wp2_with fail
      refine (BA.out _).mono ?_
      rintro e w2 ⟨r, rfl, g1, g2, r1, r2, hb2⟩
      have B2 := Lib.hid (B1.out.trans (hb2.mono B1.out.size))
      have G1 := Lib.hid (fun h => g1 (HG.out.symm.trans h)); have G2 := Lib.hid (fun h => g2 (HG.out.symm.trans h))
      clear g1 g2 hb2 BA HG
      cases g with
      | false =>
        have := G2.out rfl
        have F : Hid (6 = T) := Lib.hid (by rw [ST2.out]; rfl)
        clear ST2
        go_wp2_with fail
        go_ret2
        exact FIN.out _ 6 _ F.out B2.out
      | true =>
        have := G1.out rfl
        have F : Hid (T = bodyF ((bs s).drop (n + (m + 1)))) := Lib.hid (by rw [ST2.out]; rfl)
        clear ST2
        go_wp2_with fail
        go_roundg (s.size - (n + (m + 1)))
        case measure => omega
        case rel => exact ⟨n + (m + 1), by omega, rfl, by go_num, F, B2⟩
    · have F : Hid (0 = T) := Lib.hid (by rw [hv.out, List.drop_of_length_le (by rw [bs_length]; omega)]; rfl)
      clear hv
      go_wp2_with fail
      go_ret2
      exact FIN.out _ 0 _ F.out hb.out
theorem rlow_any (w : World) (c : Nat) (hc : c < 256) : Calls Tryz.prog 90 #[.int .u8 (c : Int)] w fun e w' => e = .returned (.bool (low c)) ∧ w = w' := by
  rcases (by omega : c < 97 ∨ (97 ≤ c ∧ c ≤ 122) ∨ 122 < c) with h | ⟨h, h2⟩ | h
  all_goals
    go_enter Tryz.func90, Tryz.ntmps90
    go_wp2_with fail
    go_ret
    exact ⟨ret_bool (by rw [Bool.eq_iff_iff]; simp [low]; try omega), rfl⟩
theorem rdig01_any (w : World) (c : Nat) (hc : c < 256) : Calls Tryz.prog 91 #[.int .u8 (c : Int)] w fun e w' => e = .returned (.bool (dig c)) ∧ w = w' := by
  rcases (by omega : c < 48 ∨ (48 ≤ c ∧ c ≤ 57) ∨ 57 < c) with h | ⟨h, h2⟩ | h
  all_goals
    go_enter Tryz.func91, Tryz.ntmps91
    go_wp2_with fail
    go_ret
    exact ⟨ret_bool (by rw [Bool.eq_iff_iff]; simp [dig]; try omega), rfl⟩
theorem rvalid_any (w : World) (n : Int) : Calls Tryz.prog 45 #[.int .i64 n] w fun e w' => e = .returned (.bool (!(decide (n < 0) || decide (105190559 < n)))) ∧ w = w' := by
  rcases (by omega : n < 0 ∨ (0 ≤ n ∧ n ≤ 105190559) ∨ 105190559 < n) with h | ⟨h, h2⟩ | h
  all_goals
    go_enter Tryz.func45, Tryz.ntmps45
    go_wp2_with fail
    go_ret
    exact ⟨ret_bool (by (first | (rw [Bool.eq_iff_iff]; done) | (rw [Bool.eq_iff_iff]; simp; done) | (rw [Bool.eq_iff_iff]; simp; omega))), rfl⟩
set_option maxHeartbeats 1000000 in
theorem rdist_any (s : ByteArray) (w : World) (hs : s.size ≤ maxLen) :
    Calls Tryz.prog 49 #[.string s] w fun e w' => e = .returned (.int .i64 (distF (bs s) : Nat)) ∧ Dr w w' := by
  unfold maxLen at hs
  obtain ⟨T, hT⟩ : ∃ T, T = distF (bs s) := ⟨_, rfl⟩
  rw [← hT]
  have TF : Hid (T = fe (eIf (decide (20 < s.size)) 5) (eIf ((bs s).any dsB) 6)) := Lib.hid (by rw [hT]; unfold distF; rw [bs_length]; rfl)
  clear hT
  by_cases hl : 20 < s.size
  · have T5 : Hid (T = 5) := Lib.hid (by rw [TF.out, decide_eq_true hl]; rfl)
    go_enter Tryz.func49, Tryz.ntmps49
    go_wp2_with fail
    go_ret
    exact ⟨by rw [T5.out]; rfl, Dr.refl _⟩
  have TG : Hid (T = eIf ((bs s).any dsB) 6) := Lib.hid (by rw [TF.out, decide_eq_false hl]; rfl)
  clear TF
  go_enter Tryz.func49, Tryz.ntmps49
  go_wp2_with fail
  go_loopg [3] s.size (fun k i wr => ∃ n : Nat, n ≤ s.size ∧ k = s.size - n ∧ i = .int .i64 (n : Int) ∧ Hid (((bs s).take n).any dsB = false) ∧ Hid (Dr w wr))
  case atStart => exact ⟨0, by omega, rfl, rfl, Lib.hid rfl, Lib.hid (Dr.refl _)⟩
  case round =>
    obtain ⟨n, hn, rfl, rfl, hv, hd⟩ := hrel
    by_cases b : n < s.size
    · obtain ⟨x, hx⟩ : ∃ x, x = (bs s).getD n 0 := ⟨_, rfl⟩
      have hx2 : x < 256 := by rw [hx]; exact bs_lt' s n
      have y1 := fun w => idx_q s w n n rfl b x hx
      have LO := Lib.hid (fun w => rlow_any w x hx2)
      have DI := Lib.hid (fun w => rdig01_any w x hx2)
      obtain ⟨l, hlw⟩ : ∃ l, l = low x := ⟨_, rfl⟩
      obtain ⟨d, hdg⟩ : ∃ d, d = dig x := ⟨_, rfl⟩
      rw [← hlw] at LO
      rw [← hdg] at DI
      obtain ⟨q, hq⟩ : ∃ q, q = dsB x := ⟨_, rfl⟩
      have HQ : Hid (q = (!l && !d && !decide (x = 45))) := Lib.hid (by rw [hq, hlw, hdg]; rfl)
      have NX : Hid (q = false → ((bs s).take (n + 1)).any dsB = false) := Lib.hid (fun h => any_take_miss hv.out (by rw [bs_length]; exact b) hx (hq.symm.trans h))
      have NO : Hid (q = true → (bs s).any dsB = true) := Lib.hid (fun h => any_take_hit (by rw [bs_length]; exact b) hx (hq.symm.trans h))
      clear hx hlw hdg hq hv
      cases l with
      | true =>
        have F := Lib.hid (NX.out (by rw [HQ.out]; rfl))
        clear NX NO
        go_wp2_with (first | (go_at_call 90; refine (LO.out _).mono ?_; rintro e w' ⟨rfl, rfl⟩) | (go_at_call 91; refine (DI.out _).mono ?_; rintro e w' ⟨rfl, rfl⟩))
        go_roundg (s.size - (n + 1))
        case measure => omega
        case rel => exact ⟨n + 1, by omega, rfl, by go_num, F, by (first | exact hd | exact Lib.hid (hd.out.drewN _))⟩
      | false =>
        cases d with
        | true =>
          have F := Lib.hid (NX.out (by rw [HQ.out]; rfl))
          clear NX NO
          go_wp2_with (first | (go_at_call 90; refine (LO.out _).mono ?_; rintro e w' ⟨rfl, rfl⟩) | (go_at_call 91; refine (DI.out _).mono ?_; rintro e w' ⟨rfl, rfl⟩))
          go_roundg (s.size - (n + 1))
          case measure => omega
          case rel => exact ⟨n + 1, by omega, rfl, by go_num, F, by (first | exact hd | exact Lib.hid (hd.out.drewN _))⟩
        | false =>
          by_cases e45 : x = 45
          · have q1 : ((x : Int) != 45) = false := int_nneq (by omega)
            have F := Lib.hid (NX.out (by rw [HQ.out, decide_eq_true e45]; rfl))
            clear NX NO e45
            go_wp2_with (first | (go_at_call 90; refine (LO.out _).mono ?_; rintro e w' ⟨rfl, rfl⟩) | (go_at_call 91; refine (DI.out _).mono ?_; rintro e w' ⟨rfl, rfl⟩))
            go_roundg (s.size - (n + 1))
            case measure => omega
            case rel => exact ⟨n + 1, by omega, rfl, by go_num, F, by (first | exact hd | exact Lib.hid (hd.out.drewN _))⟩
          · have q1 : ((x : Int) != 45) = true := int_neq (by omega)
            have F := Lib.hid (NO.out (by rw [HQ.out, decide_eq_false e45]; rfl))
            have T6 : Hid (T = 6) := Lib.hid (by rw [TG.out, F.out]; rfl)
            clear NX NO e45
            go_wp2_with (first | (go_at_call 90; refine (LO.out _).mono ?_; rintro e w' ⟨rfl, rfl⟩) | (go_at_call 91; refine (DI.out _).mono ?_; rintro e w' ⟨rfl, rfl⟩))
            go_ret
            exact ⟨by rw [T6.out]; rfl, by (first | exact hd.out | exact hd.out.drewN _)⟩
    · have T0 : Hid (T = 0) := Lib.hid (by rw [TG.out, any_take_all hv.out (by rw [bs_length]; omega)]; rfl)
      clear hv
      go_wp2_with fail
      go_ret
      exact ⟨by rw [T0.out]; rfl, by (first | exact hd.out | exact hd.out.drewN _)⟩
set_option maxHeartbeats 1000000 in
theorem rcomp_any (s : ByteArray) (w : World) (hs : s.size ≤ maxLen) :
    Calls Tryz.prog 166 #[.string s] w fun e w' => e = .returned (.bool (compB (bs s))) ∧ Dr w w' := by
  unfold maxLen at hs
  obtain ⟨T, hT⟩ : ∃ T, T = compB (bs s) := ⟨_, rfl⟩
  rw [← hT]
  have TF : Hid (T = (!(bs s).isEmpty && decide (s.size ≤ 20) && low ((bs s).getD 0 0) && (bs s).all nmC)) := Lib.hid (by rw [hT]; unfold compB; rw [bs_length])
  clear hT
  by_cases h0 : s.size = 0
  · have F : Hid (T = false) := Lib.hid (by rw [TF.out, bs_emp h0]; rfl)
    obtain rfl := str_emp h0
    clear TF h0 hs
    go_enter Tryz.func166, Tryz.ntmps166
    go_wp2_with fail
    go_ret
    exact ⟨by rw [F.out]; rfl, Dr.refl _⟩
  have NE : Hid ((bs s).isEmpty = false) := Lib.hid (by rw [List.isEmpty_eq_false_iff]; intro e; have := congrArg List.length e; rw [bs_length] at this; exact h0 this)
  by_cases h20 : 20 < s.size
  · have F : Hid (T = false) := Lib.hid (by rw [TF.out, decide_eq_false (by omega)]; simp)
    clear TF
    go_enter Tryz.func166, Tryz.ntmps166
    go_wp2_with fail
    go_ret
    exact ⟨by rw [F.out]; rfl, Dr.refl _⟩
  obtain ⟨c, hc⟩ : ∃ c, c = (bs s).getD 0 0 := ⟨_, rfl⟩
  have hc2 : c < 256 := by rw [hc]; exact bs_lt' s 0
  have x0 := idx0 s c hc (by omega)
  have TG : Hid (T = (low c && (bs s).all nmC)) := Lib.hid (by rw [TF.out, NE.out, decide_eq_true (show s.size ≤ 20 by omega), hc]; simp)
  have HC := Lib.hid hc
  clear TF NE hc
  by_cases hlo : c < 97
  · have F : Hid (T = false) := Lib.hid (by rw [TG.out]; unfold low; rw [decide_eq_false (by omega)]; rfl)
    go_enter Tryz.func166, Tryz.ntmps166
    go_wp2_with fail
    go_ret
    exact ⟨by rw [F.out]; rfl, Dr.refl _⟩
  by_cases hhi : 122 < c
  · have F : Hid (T = false) := Lib.hid (by rw [TG.out]; unfold low; rw [decide_eq_false (show ¬ c ≤ 122 by omega)]; simp)
    go_enter Tryz.func166, Tryz.ntmps166
    go_wp2_with fail
    go_ret
    exact ⟨by rw [F.out]; rfl, Dr.refl _⟩
  have LC : low c = true := by unfold low; rw [decide_eq_true (show 97 ≤ c by omega), decide_eq_true (show c ≤ 122 by omega)]; rfl
  have TA : Hid (T = (bs s).all nmC) := Lib.hid (by rw [TG.out, LC]; rfl)
  have S1 : Hid (((bs s).take 1).all nmC = true) := Lib.hid (all_take_miss (k := 0) rfl (by rw [bs_length]; omega) HC.out (by unfold nmC; rw [LC]; rfl))
  clear TG LC
  go_enter Tryz.func166, Tryz.ntmps166
  go_wp2_with fail
  go_loopg [3, 4] s.size (fun k i c wr => ∃ n : Nat, 1 ≤ n ∧ n ≤ s.size ∧ k = s.size + 1 - n ∧ i = .int .i64 (n : Int) ∧ Hid (((bs s).take n).all nmC = true) ∧ Hid (Dr w wr))
  case atStart => exact ⟨1, by omega, by omega, by omega, rfl, S1, Lib.hid (Dr.refl _)⟩
  case round =>
    obtain ⟨n, h1, hn, rfl, rfl, hv, hd⟩ := hrel
    by_cases b : n < s.size
    · obtain ⟨x, hx⟩ : ∃ x, x = (bs s).getD n 0 := ⟨_, rfl⟩
      have hx2 : x < 256 := by rw [hx]; exact bs_lt' s n
      have y1 := fun w => idx_q s w n n rfl b x hx
      have NX : Hid (nmC x = true → ((bs s).take (n + 1)).all nmC = true) := Lib.hid (fun h => all_take_miss hv.out (by rw [bs_length]; exact b) hx h)
      have NO : Hid (nmC x = false → (bs s).all nmC = false) := Lib.hid (fun h => all_take_hit (by rw [bs_length]; exact b) hx h)
      clear hx hv
      rcases (by omega : (97 ≤ x ∧ x ≤ 122) ∨ (48 ≤ x ∧ x ≤ 57) ∨ x = 45 ∨ x = 43 ∨ x = 95 ∨ (x < 43) ∨ (x = 44) ∨ (45 < x ∧ x < 48) ∨ (57 < x ∧ x < 95) ∨ x = 96 ∨ 122 < x) with ⟨h, h2⟩ | ⟨h, h2⟩ | h | h | h | h | h | ⟨h, h2⟩ | ⟨h, h2⟩ | h | h
      all_goals
        first
          | have F := Lib.hid (NX.out (by simp [nmC, low, dig]; omega))
            clear NX NO
            try have q1 : ((x : Int) == 45) = true := int_eq (by omega)
            try have q2 : ((x : Int) == 43) = true := int_eq (by omega)
            try have q3 : ((x : Int) == 95) = true := int_eq (by omega)
            try have q1 : ((x : Int) == 45) = false := int_ne (by omega)
            try have q2 : ((x : Int) == 43) = false := int_ne (by omega)
            try have q3 : ((x : Int) == 95) = false := int_ne (by omega)
            go_wp2_with fail
            go_roundg (s.size + 1 - (n + 1))
            case measure => omega
            case rel => exact ⟨n + 1, by omega, by omega, rfl, by go_num, F, by (first | exact hd | exact Lib.hid (hd.out.drewN _))⟩
          | have F : Hid (T = false) := Lib.hid (by rw [TA.out, NO.out (by simp [nmC, low, dig]; omega)])
            clear NX NO
            try have q1 : ((x : Int) == 45) = false := int_ne (by omega)
            try have q2 : ((x : Int) == 43) = false := int_ne (by omega)
            try have q3 : ((x : Int) == 95) = false := int_ne (by omega)
            go_wp2_with fail
            all_goals
              first
                | (go_ret; exact ⟨by rw [F.out]; rfl, by (first | exact hd.out | exact hd.out.drewN _)⟩)
                | (exfalso; simp only [Bool.not_eq_false', decide_eq_true_eq] at *; omega)
    · have F : Hid (T = true) := Lib.hid (by have h := hv.out; rw [List.take_of_length_le (by rw [bs_length]; omega)] at h; rw [TA.out, h])
      clear hv
      go_wp2_with fail
      go_ret
      exact ⟨by rw [F.out]; rfl, by (first | exact hd.out | exact hd.out.drewN _)⟩
end Go.Proofs.YtohmdledkhgdaaaGreatDoor
