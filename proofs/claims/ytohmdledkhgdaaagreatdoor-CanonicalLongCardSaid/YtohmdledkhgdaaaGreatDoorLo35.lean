/- bulletinref17.digit, text, number; bulletinref11.digit. -/
import Derived.Test.YtohmdledkhgdaaaGreatDoorLo34
namespace Go.Proofs.YtohmdledkhgdaaaGreatDoor
open Go.RowKit
set_option linter.unusedVariables false
set_option maxRecDepth 100000
theorem rdig17_any (w : World) (c : Nat) (hc : c < 256) : Calls Tryz.prog 209 #[.int .u8 (c : Int)] w fun e w' => e = .returned (.int .i64 (hvz c)) ∧ w = w' := by
  obtain ⟨r, hr⟩ : ∃ r, r = hvz c := ⟨_, rfl⟩
  rw [← hr]
  rcases (by omega : c < 48 ∨ (48 ≤ c ∧ c ≤ 57) ∨ (57 < c ∧ c < 97) ∨ (97 ≤ c ∧ c ≤ 102) ∨ 102 < c) with h | ⟨h, h2⟩ | ⟨h, h2⟩ | ⟨h, h2⟩ | h
  · have R : Hid (r = -1) := Lib.hid (by rw [hr]; unfold hvz hvl; rw [if_neg (by omega), if_neg (by omega)])
    clear hr
    go_enter Tryz.func209, Tryz.ntmps209
    go_wp2_with fail
    go_ret
    exact ⟨by rw [R.out]; rfl, rfl⟩
  · have R : Hid (r = (c : Int) - 48) := Lib.hid (by rw [hr]; unfold hvz hvl; rw [if_pos ⟨h, h2⟩]; simp; omega)
    have cv : IntKind.u8.wrap ((c : Int) - 48) = (c : Int) - 48 := by rw [IntKind.wrap_u8]; omega
    clear hr
    go_enter Tryz.func209, Tryz.ntmps209
    go_wp2_with fail
    go_ret
    exact ⟨by rw [R.out]; rfl, rfl⟩
  · have R : Hid (r = -1) := Lib.hid (by rw [hr]; unfold hvz hvl; rw [if_neg (by omega), if_neg (by omega)])
    clear hr
    go_enter Tryz.func209, Tryz.ntmps209
    go_wp2_with fail
    go_ret
    exact ⟨by rw [R.out]; rfl, rfl⟩
  · have R : Hid (r = (c : Int) - 97 + 10) := Lib.hid (by rw [hr]; unfold hvz hvl; rw [if_neg (by omega), if_pos ⟨h, h2⟩]; simp; omega)
    have cv : IntKind.u8.wrap ((c : Int) - 97) = (c : Int) - 97 := by rw [IntKind.wrap_u8]; omega
    clear hr
    go_enter Tryz.func209, Tryz.ntmps209
    go_wp2_with fail
    go_ret
    exact ⟨by rw [R.out]; rfl, rfl⟩
  · have R : Hid (r = -1) := Lib.hid (by rw [hr]; unfold hvz hvl; rw [if_neg (by omega), if_neg (by omega)])
    clear hr
    go_enter Tryz.func209, Tryz.ntmps209
    go_wp2_with fail
    go_ret
    exact ⟨by rw [R.out]; rfl, rfl⟩
theorem rdig11_any (w : World) (c : Nat) (hc : c < 256) : Calls Tryz.prog 208 #[.int .u8 (c : Int)] w fun e w' => e = .returned (.int .i64 (hvz c)) ∧ w = w' := by
  obtain ⟨r, hr⟩ : ∃ r, r = hvz c := ⟨_, rfl⟩
  rw [← hr]
  rcases (by omega : c < 48 ∨ (48 ≤ c ∧ c ≤ 57) ∨ (57 < c ∧ c < 97) ∨ (97 ≤ c ∧ c ≤ 102) ∨ 102 < c) with h | ⟨h, h2⟩ | ⟨h, h2⟩ | ⟨h, h2⟩ | h
  · have R : Hid (r = -1) := Lib.hid (by rw [hr]; unfold hvz hvl; rw [if_neg (by omega), if_neg (by omega)])
    clear hr
    go_enter Tryz.func208, Tryz.ntmps208
    go_wp2_with fail
    go_ret
    exact ⟨by rw [R.out]; rfl, rfl⟩
  · have R : Hid (r = (c : Int) - 48) := Lib.hid (by rw [hr]; unfold hvz hvl; rw [if_pos ⟨h, h2⟩]; simp; omega)
    clear hr
    go_enter Tryz.func208, Tryz.ntmps208
    go_wp2_with fail
    go_ret
    exact ⟨by rw [R.out]; rfl, rfl⟩
  · have R : Hid (r = -1) := Lib.hid (by rw [hr]; unfold hvz hvl; rw [if_neg (by omega), if_neg (by omega)])
    clear hr
    go_enter Tryz.func208, Tryz.ntmps208
    go_wp2_with fail
    go_ret
    exact ⟨by rw [R.out]; rfl, rfl⟩
  · have R : Hid (r = (c : Int) - 97 + 10) := Lib.hid (by rw [hr]; unfold hvz hvl; rw [if_neg (by omega), if_pos ⟨h, h2⟩]; simp; omega)
    clear hr
    go_enter Tryz.func208, Tryz.ntmps208
    go_wp2_with fail
    go_ret
    exact ⟨by rw [R.out]; rfl, rfl⟩
  · have R : Hid (r = -1) := Lib.hid (by rw [hr]; unfold hvz hvl; rw [if_neg (by omega), if_neg (by omega)])
    clear hr
    go_enter Tryz.func208, Tryz.ntmps208
    go_wp2_with fail
    go_ret
    exact ⟨by rw [R.out]; rfl, rfl⟩
theorem head_getD {l : List Nat} (h : 0 < l.length) : l.head? = some (l.getD 0 0) := by
  rw [List.head?_eq_getElem?, List.getElem?_eq_getElem h]; simp [List.getD, h]
theorem last_getD {l : List Nat} (h : 0 < l.length) : l.getLast? = some (l.getD (l.length - 1) 0) := by
  have h1 : l.length - 1 < l.length := by omega
  rw [List.getLast?_eq_getElem?, List.getElem?_eq_getElem h1, List.getD_eq_getElem?_getD, List.getElem?_eq_getElem h1]; rfl
set_option maxHeartbeats 1000000 in
theorem rtxt17_any (s : ByteArray) (w : World) (hs : s.size ≤ maxLen) :
    Calls Tryz.prog 134 #[.string s] w fun e w' => e = .returned (.int .i64 (txtF (bs s) : Nat)) ∧ Dr w w' := by
  unfold maxLen at hs
  obtain ⟨T, hT⟩ : ∃ T, T = txtF (bs s) := ⟨_, rfl⟩
  rw [← hT]
  have TF : Hid (T = if 200 < s.size then 5 else if (bs s).all prC = false then 6 else if (bs s).head? = some 32 ∨ (bs s).getLast? = some 32 then 3 else 0) := Lib.hid (by rw [hT]; unfold txtF; rw [bs_length])
  clear hT
  by_cases hl : 200 < s.size
  · have T5 : Hid (T = 5) := Lib.hid (by rw [TF.out, if_pos hl])
    go_enter Tryz.func134, Tryz.ntmps134
    go_wp2_with fail
    go_ret
    exact ⟨by rw [T5.out]; rfl, Dr.refl _⟩
  have TG : Hid (T = if (bs s).all prC = false then 6 else if (bs s).head? = some 32 ∨ (bs s).getLast? = some 32 then 3 else 0) := Lib.hid (by rw [TF.out, if_neg hl])
  clear TF
  go_enter Tryz.func134, Tryz.ntmps134
  go_wp2_with fail
  go_loopg [3] s.size (fun k i wr => ∃ n : Nat, n ≤ s.size ∧ k = s.size - n ∧ i = .int .i64 (n : Int) ∧ Hid (((bs s).take n).all prC = true) ∧ Hid (Dr w wr))
  case atStart => exact ⟨0, by omega, rfl, rfl, Lib.hid rfl, Lib.hid (Dr.refl _)⟩
  case round =>
    obtain ⟨n, hn, rfl, rfl, hv, hd⟩ := hrel
    by_cases b : n < s.size
    · obtain ⟨x, hx⟩ : ∃ x, x = (bs s).getD n 0 := ⟨_, rfl⟩
      have hx2 : x < 256 := by rw [hx]; exact bs_lt' s n
      have y1 := fun w => idx_q s w n n rfl b x hx
      have NX : Hid (prC x = true → ((bs s).take (n + 1)).all prC = true) := Lib.hid (fun h => all_take_miss hv.out (by rw [bs_length]; exact b) hx h)
      have NO : Hid (prC x = false → (bs s).all prC = false) := Lib.hid (fun h => all_take_hit (by rw [bs_length]; exact b) hx h)
      clear hx hv
      rcases (by omega : x < 32 ∨ (32 ≤ x ∧ x ≤ 126) ∨ 126 < x) with h | ⟨h, h2⟩ | h
      · have T6 : Hid (T = 6) := Lib.hid (by rw [TG.out, if_pos (NO.out (by unfold prC; rw [decide_eq_false (by omega)]; rfl))])
        clear NX NO
        go_wp2_with fail
        go_ret
        exact ⟨by rw [T6.out]; rfl, by (first | exact hd.out | exact hd.out.drewN _)⟩
      · have F := Lib.hid (NX.out (by unfold prC; rw [decide_eq_true h, decide_eq_true h2]; rfl))
        clear NX NO
        go_wp2_with fail
        go_roundg (s.size - (n + 1))
        case measure => omega
        case rel => exact ⟨n + 1, by omega, rfl, by go_num, F, by (first | exact hd | exact Lib.hid (hd.out.drewN _))⟩
      · have T6 : Hid (T = 6) := Lib.hid (by rw [TG.out, if_pos (NO.out (by unfold prC; rw [decide_eq_false (show ¬ x ≤ 126 by omega)]; simp))])
        clear NX NO
        go_wp2_with fail
        go_ret
        exact ⟨by rw [T6.out]; rfl, by (first | exact hd.out | exact hd.out.drewN _)⟩
    · have AL : (bs s).all prC = true := by have h := hv.out; rwa [List.take_of_length_le (by rw [bs_length]; omega)] at h
      have TH : Hid (T = if (bs s).head? = some 32 ∨ (bs s).getLast? = some 32 then 3 else 0) := Lib.hid (by rw [TG.out, AL]; rfl)
      clear AL hv TG
      by_cases h0 : s.size = 0
      · have T0 : Hid (T = 0) := Lib.hid (by rw [TH.out, bs_emp h0]; rfl)
        obtain rfl := str_emp h0
        clear h0 TH
        go_wp2_with fail
        go_ret
        exact ⟨by rw [T0.out]; rfl, by (first | exact hd.out | exact hd.out.drewN _)⟩
      obtain ⟨x, hx⟩ : ∃ x, x = (bs s).getD 0 0 := ⟨_, rfl⟩
      obtain ⟨y, hy⟩ : ∃ y, y = (bs s).getD (s.size - 1) 0 := ⟨_, rfl⟩
      have hx2 : x < 256 := by rw [hx]; exact bs_lt' s 0
      have hy2 : y < 256 := by rw [hy]; exact bs_lt' s _
      have x1 := fun w => idx0 s x hx (by omega) w
      have y1 := fun w => idx_q s w ((s.size : Int) - 1) (s.size - 1) (by omega) (by omega) y hy
      have sne := str_ne h0
      have TI : Hid (T = if x = 32 ∨ y = 32 then 3 else 0) := Lib.hid (by
        rw [TH.out, head_getD (by rw [bs_length]; omega), last_getD (by rw [bs_length]; omega), bs_length, ← hx, ← hy]; simp)
      clear hx hy TH
      by_cases e1 : x = 32
      · have q1 : ((x : Int) == 32) = true := int_eq (by omega)
        have T3 : Hid (T = 3) := Lib.hid (by rw [TI.out, if_pos (.inl e1)])
        clear e1
        go_wp2_with fail
        go_ret
        exact ⟨by rw [T3.out]; rfl, by (first | exact hd.out | exact hd.out.drewN _)⟩
      by_cases e2 : y = 32
      · have q1 : ((x : Int) == 32) = false := int_ne (by omega)
        have q2 : ((y : Int) == 32) = true := int_eq (by omega)
        have T3 : Hid (T = 3) := Lib.hid (by rw [TI.out, if_pos (.inr e2)])
        clear e1 e2
        go_wp2_with fail
        go_ret
        exact ⟨by rw [T3.out]; rfl, by (first | exact hd.out | exact hd.out.drewN _)⟩
      · have q1 : ((x : Int) == 32) = false := int_ne (by omega)
        have q2 : ((y : Int) == 32) = false := int_ne (by omega)
        have T3 : Hid (T = 0) := Lib.hid (by rw [TI.out, if_neg (fun h => h.elim e1 e2)])
        clear e1 e2
        go_wp2_with fail
        go_ret
        exact ⟨by rw [T3.out]; rfl, by (first | exact hd.out | exact hd.out.drewN _)⟩
/-- The value of digits. -/
def nvl (l : List Nat) : Nat := l.foldl (fun n c => 10 * n + (c - 48)) 0
theorem nvl_snoc (l : List Nat) (c : Nat) : nvl (l ++ [c]) = 10 * nvl l + (c - 48) := by unfold nvl; rw [List.foldl_append]; rfl
theorem nvl_lt : ∀ (k : Nat) (l : List Nat), l.length = k → l.all dig = true → nvl l < 10 ^ k := by
  intro k
  induction k with
  | zero => intro l h _; obtain rfl := List.length_eq_zero_iff.1 h; decide
  | succ k ih =>
    intro l h hd
    have hne : l ≠ [] := by intro e; rw [e] at h; simp at h
    have hc := List.dropLast_concat_getLast hne
    rw [← hc] at hd ⊢
    rw [List.all_append, Bool.and_eq_true] at hd
    have := ih l.dropLast (by rw [List.length_dropLast, h]; rfl) hd.1
    have h2 : dig (l.getLast hne) = true := by simpa using hd.2
    unfold dig at h2
    simp at h2
    rw [nvl_snoc, Nat.pow_succ]
    omega
theorem nvl_le {l : List Nat} (h : l.length ≤ 7) (hd : l.all dig = true) : nvl l < 10000000 :=
  Nat.lt_of_lt_of_le (nvl_lt _ l rfl hd) (Nat.pow_le_pow_right (by decide : 0 < 10) h)
theorem nvl_take {l : List Nat} {k c : Nat} (hk : k < l.length) (hc : c = l.getD k 0) : nvl (l.take (k + 1)) = 10 * nvl (l.take k) + (c - 48) := by
  rw [List.take_succ_eq_append_getElem hk, nvl_snoc]
  have : l[k] = c := by rw [hc]; simp [List.getD, hk]
  rw [this]
def numZ (l : List Nat) : Int := match numP l with | none => -1 | some n => (n : Int)
set_option maxHeartbeats 1000000 in
theorem rnum17_any (s : ByteArray) (w : World) (hs : s.size ≤ maxLen) :
    Calls Tryz.prog 168 #[.string s] w fun e w' => e = .returned (.int .i64 (numZ (bs s))) ∧ Dr w w' := by
  unfold maxLen at hs
  obtain ⟨T, hT⟩ : ∃ T, T = numZ (bs s) := ⟨_, rfl⟩
  rw [← hT]
  have TN : Hid (bs s = [] ∨ 7 < s.size ∨ (1 < s.size ∧ (bs s).getD 0 0 = 48) ∨ (bs s).all dig = false → T = -1) := Lib.hid (fun h => by rw [hT]; unfold numZ numP; rw [bs_length, if_pos h])
  have TS : Hid (¬ (bs s = [] ∨ 7 < s.size ∨ (1 < s.size ∧ (bs s).getD 0 0 = 48) ∨ (bs s).all dig = false) → T = (nvl (bs s) : Int)) := Lib.hid (fun h => by rw [hT]; unfold numZ numP; rw [bs_length, if_neg h]; rfl)
  clear hT
  by_cases h0 : s.size = 0
  · have F := Lib.hid (TN.out (.inl (bs_emp h0)))
    obtain rfl := str_emp h0
    clear h0 TN TS
    go_enter Tryz.func168, Tryz.ntmps168
    go_wp2_with fail
    go_ret
    exact ⟨by rw [F.out]; rfl, Dr.refl _⟩
  have NE : Hid (bs s ≠ []) := Lib.hid (fun e => h0 (by rw [← bs_length, e]; rfl))
  have sne := str_ne h0
  by_cases h7 : 7 < s.size
  · have F := Lib.hid (TN.out (.inr (.inl h7)))
    clear TN TS
    go_enter Tryz.func168, Tryz.ntmps168
    go_wp2_with fail
    go_ret
    exact ⟨by rw [F.out]; rfl, Dr.refl _⟩
  obtain ⟨c, hc⟩ : ∃ c, c = (bs s).getD 0 0 := ⟨_, rfl⟩
  have hc2 : c < 256 := by rw [hc]; exact bs_lt' s 0
  have x0 := idx0 s c hc (by omega)
  have HC := Lib.hid hc
  clear hc
  by_cases hz : 1 < s.size ∧ c = 48
  · obtain ⟨hz1, hz2⟩ := hz
    have F := Lib.hid (TN.out (.inr (.inr (.inl ⟨hz1, by rw [← HC.out]; exact hz2⟩))))
    have q1 : ((c : Int) == 48) = true := int_eq (by omega)
    clear TN TS hz2
    go_enter Tryz.func168, Tryz.ntmps168
    go_wp2_with fail
    go_ret
    exact ⟨by rw [F.out]; rfl, Dr.refl _⟩
  have TT : Hid ((bs s).all dig = true → T = (nvl (bs s) : Int)) := Lib.hid (fun h => TS.out (by
    rintro (h | h | h | h)
    · exact NE.out h
    · exact h7 h
    · exact hz ⟨h.1, by rw [HC.out]; exact h.2⟩
    · rename_i hh; rw [hh] at h; cases h))
  have TB : Hid ((bs s).all dig = false → T = -1) := Lib.hid (fun h => TN.out (.inr (.inr (.inr h))))
  have Z : Hid (c = 48 → ¬ 1 < s.size) := Lib.hid (fun e h => hz ⟨h, e⟩)
  clear TN TS NE HC hz
  have h1 : c = 48 → s.size = 1 := fun e => by have := Z.out e; omega
  have CASE : (((c : Int) == 48) = true ∧ s.size = 1) ∨ ((c : Int) == 48) = false := by
    by_cases e48 : c = 48
    · exact .inl ⟨int_eq (by omega), h1 e48⟩
    · exact .inr (int_ne (by omega))
  clear Z h1
  rcases CASE with ⟨q1, h1⟩ | q1
  all_goals
    go_enter Tryz.func168, Tryz.ntmps168
    go_wp2_with fail
    clear q1 x0
    go_loopg [3, 4] s.size (fun k u i wr => ∃ (n : Nat) (v : Nat), n ≤ s.size ∧ k = s.size - n ∧ i = .int .i64 (n : Int) ∧ u = .int .i64 (v : Int) ∧ v < 10000000 ∧ Hid (nvl ((bs s).take n) = v) ∧ Hid (((bs s).take n).all dig = true) ∧ Hid (Dr w wr))
    case atStart => exact ⟨0, 0, by omega, by omega, rfl, rfl, by omega, Lib.hid rfl, Lib.hid rfl, Lib.hid (Dr.refl _)⟩
    case round =>
      obtain ⟨n, v, hn, rfl, rfl, rfl, hv7, hv, ha, hd⟩ := hrel
      by_cases b : n < s.size
      · obtain ⟨x, hx⟩ : ∃ x, x = (bs s).getD n 0 := ⟨_, rfl⟩
        have hx2 : x < 256 := by rw [hx]; exact bs_lt' s n
        have y1 := fun w => idx_q s w n n rfl b x hx
        have NX : Hid (dig x = true → ((bs s).take (n + 1)).all dig = true ∧ nvl ((bs s).take (n + 1)) = 10 * v + (x - 48) ∧ 10 * v + (x - 48) < 10000000) := Lib.hid (fun h => by
          have a1 := all_take_miss ha.out (by rw [bs_length]; exact b) hx h
          have a2 := nvl_take (l := bs s) (k := n) (by rw [bs_length]; exact b) hx
          rw [hv.out] at a2
          have a3 := nvl_le (l := (bs s).take (n + 1)) (by rw [List.length_take, bs_length]; omega) a1
          exact ⟨a1, a2, by rw [← a2]; exact a3⟩)
        have NO : Hid (dig x = false → (bs s).all dig = false) := Lib.hid (fun h => all_take_hit (by rw [bs_length]; exact b) hx h)
        clear hx hv ha
        rcases (by omega : x < 48 ∨ (48 ≤ x ∧ x ≤ 57) ∨ 57 < x) with h | ⟨h, h2⟩ | h
        · have F := Lib.hid (TB.out (NO.out (by unfold dig; rw [decide_eq_false (by omega)]; rfl)))
          clear NX NO TB TT
          go_wp2_with fail
          go_ret
          exact ⟨by rw [F.out]; rfl, by (first | exact hd.out | exact hd.out.drewN _)⟩
        · obtain ⟨a1, a2, a3⟩ := NX.out (by unfold dig; rw [decide_eq_true h, decide_eq_true h2]; rfl)
          have A1 := Lib.hid a1; have A2 := Lib.hid a2
          have cv : IntKind.u8.wrap ((x : Int) - 48) = (x : Int) - 48 := by rw [IntKind.wrap_u8]; omega
          clear NX NO a1 a2
          go_wp2_with fail
          go_roundg (s.size - (n + 1))
          case measure => omega
          case rel => exact ⟨n + 1, 10 * v + (x - 48), by omega, by omega, by go_num, by go_num, a3, A2, A1, by (first | exact hd | exact Lib.hid (hd.out.drewN _))⟩
        · have F := Lib.hid (TB.out (NO.out (by unfold dig; rw [decide_eq_false (show ¬ x ≤ 57 by omega)]; simp)))
          clear NX NO TB TT
          go_wp2_with fail
          go_ret
          exact ⟨by rw [F.out]; rfl, by (first | exact hd.out | exact hd.out.drewN _)⟩
      · have AL : (bs s).all dig = true := by have h := ha.out; rwa [List.take_of_length_le (by rw [bs_length]; omega)] at h
        have VL : nvl (bs s) = v := by have h := hv.out; rwa [List.take_of_length_le (by rw [bs_length]; omega)] at h
        have F : Hid (T = (v : Int)) := Lib.hid (by rw [TT.out AL, VL])
        clear AL VL hv ha TT TB
        go_wp2_with fail
        go_ret
        exact ⟨by rw [F.out]; rfl, by (first | exact hd.out | exact hd.out.drewN _)⟩
/-- The bytes that the first j digits have made, n bytes in all. -/
def pn (n : Nat) (l : List Nat) (j : Nat) : List Nat := (List.range n).map fun k => if 2 * k + 1 < j then 16 * hv (l.getD (2 * k) 0) + hv (l.getD (2 * k + 1) 0) else if 2 * k < j then hv (l.getD (2 * k) 0) else 0
theorem pn_len (n : Nat) (l : List Nat) (j : Nat) : (pn n l j).length = n := by simp [pn]
theorem pn_at {n : Nat} {l : List Nat} {j k : Nat} (hk : k < n) : (pn n l j)[k]? = some (if 2 * k + 1 < j then 16 * hv (l.getD (2 * k) 0) + hv (l.getD (2 * k + 1) 0) else if 2 * k < j then hv (l.getD (2 * k) 0) else 0) := by
  simp [pn, hk]
theorem pn_zero (n : Nat) (l : List Nat) : pn n l 0 = List.replicate n 0 := by
  apply List.ext_getElem?
  intro k
  by_cases hk : k < n
  · rw [pn_at hk, if_neg (by omega), if_neg (by omega), List.getElem?_replicate, if_pos hk]
  · rw [List.getElem?_eq_none (by rw [pn_len]; omega), List.getElem?_eq_none (by simp; omega)]
theorem pn_step {n : Nat} {l : List Nat} {j k v : Nat} (hk : k = j / 2) (hj : j < 2 * n) (hv' : (pn n l j)[k]? = some v) : pn n l (j + 1) = (pn n l j).set k (v * 16 + hv (l.getD j 0)) ∧ v < 16 := by
  rw [pn_at (by omega)] at hv'
  have hv2 := Option.some.inj hv'
  rw [if_neg (by omega)] at hv2
  have h16 : v < 16 := by
    rw [← hv2]; split
    · exact hv_lt _
    · decide
  refine ⟨?_, h16⟩
  apply List.ext_getElem?
  intro m
  by_cases hn : m < n
  · rw [List.getElem?_set]
    by_cases e : k = m
    · subst e
      rw [if_pos rfl, if_pos (by rw [pn_len]; exact hn), pn_at hn]
      by_cases hp : j = 2 * k
      · rw [if_neg (by omega), if_pos (by omega)]
        rw [if_neg (by omega)] at hv2
        rw [← hv2, ← hp]; simp
      · have e2 : j = 2 * k + 1 := by omega
        rw [if_pos (by omega)]
        rw [if_pos (by omega)] at hv2
        rw [hv2, Nat.mul_comm, e2]
    · rw [if_neg e, pn_at hn, pn_at hn]
      by_cases c1 : 2 * m + 1 < j
      · rw [if_pos (by omega), if_pos c1]
      · rw [if_neg (by omega), if_neg c1]
        by_cases c2 : 2 * m < j
        · rw [if_pos (by omega), if_pos c2]
        · rw [if_neg (by omega), if_neg c2]
  · rw [List.getElem?_eq_none (by rw [pn_len]; omega), List.getElem?_eq_none (by rw [List.length_set, pn_len]; omega)]
theorem pn_end {n : Nat} {l : List Nat} (h : l.length = 2 * n) : pn n l (2 * n) = uh l := by
  apply List.ext_getElem?
  intro k
  by_cases hk : k < n
  · rw [pn_at hk, uh_at n l k h hk, if_pos (by omega)]
  · rw [List.getElem?_eq_none (by rw [pn_len]; omega), List.getElem?_eq_none (by rw [uh_len n l h]; omega)]
set_option maxHeartbeats 4000000 in
theorem rpa17_any (s : ByteArray) (w : World) (hs : s.size ≤ 10000000) :
    Calls Tryz.prog 169 #[.string s] w (PaPost (bs s) w) := by
  obtain ⟨zs, hzs⟩ : ∃ zs, zs = idA zero16 := ⟨_, rfl⟩
  have LEN := Lib.hid (bs_length s)
  have HZS := Lib.hid hzs
  have ZCL : Hid (Cl 16 zs) := Lib.hid (by rw [hzs]; exact cl_au zero16_ok)
  have BU : Hid (∀ w, (Instr.build 22 #[]).run Tryz.prog w = .ok (.agg zs) w) := Lib.hid (fun w => by rw [hzs]; kernel_rfl)
  have START : Hid ((w.alloc (.cells (Array.replicate 16 (.int .u8 0)) 22)).alloc (.cells (Array.replicate 16 (.int .u8 0)) 22) = (w.alloc (.cells zs 22)).alloc (.cells zs 22)) := Lib.hid (by rw [hzs]; rfl)
  -- an answer
  have FIN : Hid (∀ (w4 : World) (cs : Array Value), Cl 16 cs → w4.heap[w.heap.size]? = some (.cells zs 22 (0, 0)) → Below w.heap.size w w4 →
      (storeVar 22 ⟨w.heap.size, 0, none⟩ (.agg cs)).run Tryz.prog w4 = .ok () (w4.setRow w.heap.size cs) ∧
      (∀ tmps : Array Value, tmps.getD 2 undef = .pointer (some ⟨w.heap.size, 0, none⟩) → (results Tryz.f169 tmps).run Tryz.prog (w4.setRow w.heap.size cs) = .ok (.tuple #[.agg cs, tmps.getD 3 undef, tmps.getD 4 undef]) (w4.setRow w.heap.size cs)) ∧
      Below w.heap.size w (w4.setRow w.heap.size cs)) := Lib.hid (fun w4 cs hcl hg hb =>
    ⟨run_storeVar_row (P := Tryz.prog) w4 w.heap.size _ 22 zs cs hg (by rw [hcl.1]; exact size_a16) (by rw [hcl.1, ZCL.out.1]) hcl.2,
     fun tmps h2 => results_cell_tmp2 Tryz.results169 tmps _ w.heap.size _ _ _ _ h2 (setRow_heap w4 w.heap.size zs cs _ _ hg) Tryz.underlying22 rfl (by rw [hcl.1]; exact size_a16),
     below_setRow hb (Nat.le_refl _) cs⟩)
  have NO : Hid (autP (bs s) = none → ∀ a er : Int, er ≠ 0 → ∀ w', Below w.heap.size w w' → PaPost (bs s) w (.returned (.tuple #[.agg zs, .int .i64 a, .int .i64 er])) w') := Lib.hid (fun h a er he w' hb => ⟨a, er, by rw [h, HZS.out]; exact ⟨rfl, he⟩, hb⟩)
  obtain ⟨mn, hmn⟩ : ∃ mn : Nat, mn = min s.size 32 := ⟨_, rfl⟩
  have hm1 : mn ≤ s.size := by omega
  have hm2 : mn ≤ 32 := by omega
  have HMN := Lib.hid hmn
  have PZ : Hid (zs = idA (pn 16 (bs s) 0)) := Lib.hid (by rw [hzs, pn_zero]; rfl)
  clear hzs hmn
  go_enter Tryz.func169, Tryz.ntmps169
  go_wp2_with fail
  go_loopg [6] mn (fun k i wr => ∃ j : Nat, j ≤ mn ∧ k = mn - j ∧ i = .int .i64 (j : Int) ∧ Hid (∀ q, q < j → hdB ((bs s).getD q 0) = true) ∧ Hid (wr.heap[w.heap.size]? = some (.cells zs 22 (0, 0))) ∧ Hid (wr.heap[w.heap.size + 1]? = some (.cells (idA (pn 16 (bs s) j)) 22 (0, 0))) ∧ Hid (Below w.heap.size w wr))
  case atStart =>
    refine ⟨0, by omega, rfl, rfl, Lib.hid (fun q hq => by omega), Lib.hid ?_, Lib.hid ?_, Lib.hid (((Below.refl _ _).alloc (Nat.le_refl _) _).alloc (by simp) _)⟩
    · have h : ((w.alloc (.cells zs 22)).alloc (.cells zs 22)).heap[w.heap.size]? = some (.cells zs 22 (0, 0)) := alloc_block (heap_alloc_last w _)
      rw [← START.out] at h
      exact h
    · have h := heap_alloc_last (w.alloc (.cells zs 22)) (.cells zs 22)
      rw [World.size_alloc, ← START.out] at h
      rw [← PZ.out]
      exact h
  case round =>
    obtain ⟨j, hj, rfl, rfl, hg, hres, hcell, hbel⟩ := hrel
    by_cases hlt : j < mn
    · obtain ⟨c, hc⟩ : ∃ c, c = (bs s).getD j 0 := ⟨_, rfl⟩
      have hc2 : c < 256 := by rw [hc]; exact bs_lt' s j
      have y1 := fun w => idx_q s w j j rfl (by omega) c hc
      have IX := Lib.hid (fun w => rdig17_any w c hc2)
      by_cases hd : hdB c = true
      · rw [hvz_good hd] at IX
        obtain ⟨y, hy⟩ : ∃ y, y = hv c := ⟨_, rfl⟩
        have hy16 : y < 16 := by rw [hy]; exact hv_lt c
        rw [← hy] at IX
        obtain ⟨k, hk⟩ : ∃ k, k = j / 2 := ⟨_, rfl⟩
        have hk16 : k < 16 := by omega
        obtain ⟨v, hv'⟩ : ∃ v, (pn 16 (bs s) j)[k]? = some v := ⟨_, pn_at hk16⟩
        obtain ⟨hst, hv16⟩ := pn_step hk (by omega) hv'
        rw [← hc, ← hy] at hst
        have hck : ∀ w2 : World, w2.heap[w.heap.size + 1]? = wr.heap[w.heap.size + 1]? → w2.cell? ⟨w.heap.size + 1, k, none⟩ = some (.int .u8 (v : Int)) := fun w2 h2 => by rw [cell_of_row w2 _ k _ _ _ (h2.trans hcell.out)]; unfold idA; rw [List.getElem?_toArray, List.getElem?_map, hv']; rfl
        have hc1 := hck wr rfl
        have hc1d := hck wr.drew rfl
        have hfk : wr.frozen? ⟨w.heap.size + 1, k, none⟩ = false := by have := hcell.out; simp [World.frozen?, this]
        have hfkd : wr.drew.frozen? ⟨w.heap.size + 1, k, none⟩ = false := hfk
        obtain ⟨z, hz⟩ : ∃ z, z = v * 16 + y := ⟨_, rfl⟩
        rw [← hz] at hst
        have s1 : IntKind.u8.wrap ((v : Int) * 16) = (v : Int) * 16 := by rw [IntKind.wrap_u8]; omega
        have s3 : IntKind.u8.wrap (y : Int) = (y : Int) := by rw [IntKind.wrap_u8]; omega
        have s2 : IntKind.u8.wrap ((v : Int) * 16 + (y : Int)) = (z : Int) := by rw [IntKind.wrap_u8]; omega
        have hdv : Int.tdiv (j : Int) 2 = (k : Int) := by rw [Int.tdiv_eq_ediv_of_nonneg (by omega)]; omega
        have wk : IntKind.i64.wrap (k : Int) = (k : Int) := IntWalk.i64_in _ (by omega)
        have HW : Hid (∀ w2 : World, w2.heap[w.heap.size + 1]? = wr.heap[w.heap.size + 1]? → (w2.setCell ⟨w.heap.size + 1, k, none⟩ (.int .u8 (z : Int))).heap[w.heap.size + 1]? = some (.cells (idA (pn 16 (bs s) (j + 1))) 22 (0, 0))) := Lib.hid (fun w2 h2 => by rw [hst, ← idA_set]; exact setB (h2.trans hcell.out) k _)
        have RW : Hid (∀ w2 : World, w2.heap[w.heap.size]? = wr.heap[w.heap.size]? → (w2.setCell ⟨w.heap.size + 1, k, none⟩ (.int .u8 (z : Int))).heap[w.heap.size]? = some (.cells zs 22 (0, 0))) := Lib.hid (fun w2 h2 => by
          rw [Below.heap_setCell _ _ _ _ (show w.heap.size ≠ w.heap.size + 1 by omega)]; exact h2.trans hres.out)
        have BW : Hid (∀ w2 : World, Below w.heap.size w w2 → Below w.heap.size w (w2.setCell ⟨w.heap.size + 1, k, none⟩ (.int .u8 (z : Int)))) := Lib.hid (fun w2 h2 => h2.setCell (p := ⟨w.heap.size + 1, k, none⟩) (Nat.le_succ _) _)
        have BD := Lib.hid hbel.out.drew
        have G2 : Hid (∀ q, q < j + 1 → hdB ((bs s).getD q 0) = true) := Lib.hid (fun q hq => by
          by_cases e : q = j
          · rw [e, ← hc]; exact hd
          · exact hg.out q (by omega))
        have HK := Lib.hid hk
        clear hd hc hy hv' hst hz hg hcell hres FIN NO BU START HK hk PZ hck
        go_upto_region 7 with (go_at_call 209; refine (IX.out _).mono ?_; rintro e w' ⟨rfl, rfl⟩)
        refine wp_region_held (S := fun _ => True) (by kernel_rfl) ?_
        change wpAnyH _ _ _ _ _ _ _ _ wr.drew
        have hB : (fun _ : World => True) wr.drew := trivial
        refine takeV 0 (.int .i64 (j : Int)) rfl (fun _ _ => by go_simp) hB ?_
        refine takeV 1 (.int .i64 (k : Int)) rfl (fun _ _ => by go_simp) hB ?_
        refine takeV 2 (.int .i64 (j : Int)) rfl (fun _ _ => by go_simp) hB ?_
        refine takeV 3 (.int .i64 (k : Int)) rfl (fun _ _ => by go_simp) hB ?_
        refine takeV 4 (.pointer (some ⟨w.heap.size + 1, k, none⟩)) rfl (fun _ _ => by go_simp; exact fun hh => absurd hh (by omega)) hB ?_
        refine takeV 7 (.string s) rfl (fun _ _ => by go_simp) hB ?_
        refine takeV 8 (.int .i64 (j : Int)) rfl (fun _ _ => by go_simp) hB ?_
        refine takeV 9 (.int .u8 (c : Int)) rfl (fun _ _ => by go_simp) hB ?_
        refine anyH_two (i := 5) (k := 10) (by kernel_rfl) ?_ ?_
        · skip
          refine any_val (v := .int .u8 (v : Int)) rfl rfl (by go_simp) ?_
          refine ⟨trivial, ?_⟩
          refine takeV 6 (.int .u8 ((v : Int) * 16)) rfl (fun _ _ => by go_simp) hB ?_
          refine anyH_one (i := 10) (by kernel_rfl) ?_
          refine any_call (f := 209) (args := #[.int .u8 (c : Int)]) rfl rfl (by go_simp) ?_
          refine (IX.out _).mono ?_
          rintro e w' ⟨rfl, rfl⟩
          refine ⟨_, rfl, trivial, ?_⟩
          refine takeV 11 (.int .u8 (y : Int)) rfl (fun _ _ => by go_simp) hB ?_
          refine takeV 12 (.int .u8 (z : Int)) rfl (fun _ _ => by go_simp) hB ?_
          refine takeV 13 (.pointer (some ⟨w.heap.size + 1, k, none⟩)) rfl (fun _ _ => by go_simp; exact fun hh => absurd hh (by omega)) hB ?_
          refine anyH_one (i := 14) (by kernel_rfl) ?_
          refine any_skip (w' := wr.drew.setCell ⟨w.heap.size + 1, k, none⟩ (.int .u8 (z : Int))) rfl rfl (by go_simp) ?_
          refine ⟨trivial, ?_⟩
          refine wpAnyH_done (by kernel_rfl) ?_ _
          go_simp
          refine ‹∀ (a : Act) (w_1 : World), _ → _› _ _ ?_
          clear hB
          go_wp2_with fail
          go_roundg (mn - (j + 1))
          case measure => omega
          case rel => exact ⟨j + 1, by omega, rfl, by go_num, G2, Lib.hid (RW.out _ rfl), Lib.hid (HW.out _ rfl), Lib.hid (BW.out _ BD.out)⟩
        · skip
          refine any_call (f := 209) (args := #[.int .u8 (c : Int)]) rfl rfl (by go_simp) ?_
          refine (IX.out _).mono ?_
          rintro e w' ⟨rfl, rfl⟩
          refine ⟨_, rfl, trivial, ?_⟩
          refine takeV 11 (.int .u8 (y : Int)) rfl (fun _ _ => by go_simp) hB ?_
          refine anyH_one (i := 5) (by kernel_rfl) ?_
          refine any_val (v := .int .u8 (v : Int)) rfl rfl (by go_simp) ?_
          refine ⟨trivial, ?_⟩
          refine takeV 6 (.int .u8 ((v : Int) * 16)) rfl (fun _ _ => by go_simp) hB ?_
          refine takeV 12 (.int .u8 (z : Int)) rfl (fun _ _ => by go_simp) hB ?_
          refine takeV 13 (.pointer (some ⟨w.heap.size + 1, k, none⟩)) rfl (fun _ _ => by go_simp; exact fun hh => absurd hh (by omega)) hB ?_
          refine anyH_one (i := 14) (by kernel_rfl) ?_
          refine any_skip (w' := wr.drew.setCell ⟨w.heap.size + 1, k, none⟩ (.int .u8 (z : Int))) rfl rfl (by go_simp) ?_
          refine ⟨trivial, ?_⟩
          refine wpAnyH_done (by kernel_rfl) ?_ _
          go_simp
          refine ‹∀ (a : Act) (w_1 : World), _ → _› _ _ ?_
          clear hB
          go_wp2_with fail
          go_roundg (mn - (j + 1))
          case measure => omega
          case rel => exact ⟨j + 1, by omega, rfl, by go_num, G2, Lib.hid (RW.out _ rfl), Lib.hid (HW.out _ rfl), Lib.hid (BW.out _ BD.out)⟩
      · have hd' : hdB c = false := by simpa using hd
        rw [hvz_bad hd'] at IX
        have NN := Lib.hid (NO.out (aut_bad (j := j) (by rw [LEN.out]; omega) (by rw [← hc]; exact hd')))
        obtain ⟨ST, RES, BB⟩ := FIN.out wr zs ZCL.out hres.out hbel.out
        have ST := Lib.hid ST; have RES := Lib.hid RES; have BB := Lib.hid BB
        clear hd hd' hc FIN NO
        go_wp2_with (first
          | (go_at_call 209; refine (IX.out _).mono ?_; rintro e w' ⟨rfl, rfl⟩)
          | ((with_reducible refine wpList_build0 22 rfl rfl ?_); refine ⟨_, BU.out _, ?_⟩)
          | ((with_reducible refine wpList_store 22 rfl _ _ rfl ?_); refine ⟨_, _, _, rfl, rfl, ST.out, ?_⟩))
        exact bodyPost_ret (RES.out _ rfl) rfl (NN.out _ 6 (by decide) _ BB.out)
    · obtain rfl : j = mn := by omega
      by_cases h1 : s.size < 32
      · have e1 : j = s.size := by have := HMN.out; omega
        have NN := Lib.hid (NO.out (aut_len (by rw [LEN.out]; omega)))
        obtain ⟨ST, RES, BB⟩ := FIN.out wr zs ZCL.out hres.out hbel.out
        have ST := Lib.hid ST; have RES := Lib.hid RES; have BB := Lib.hid BB
        clear FIN NO
        go_wp2_with (first
          | ((with_reducible refine wpList_build0 22 rfl rfl ?_); refine ⟨_, BU.out _, ?_⟩)
          | ((with_reducible refine wpList_store 22 rfl _ _ rfl ?_); refine ⟨_, _, _, rfl, rfl, ST.out, ?_⟩))
        exact bodyPost_ret (RES.out _ rfl) rfl (NN.out _ 4 (by decide) _ BB.out)
      · have e32 : j = 32 := by have := HMN.out; omega
        by_cases h2 : 32 < s.size
        · have NN := Lib.hid (NO.out (aut_len (by rw [LEN.out]; omega)))
          obtain ⟨ST, RES, BB⟩ := FIN.out wr zs ZCL.out hres.out hbel.out
          have ST := Lib.hid ST; have RES := Lib.hid RES; have BB := Lib.hid BB
          clear FIN NO
          go_wp2_with (first
            | ((with_reducible refine wpList_build0 22 rfl rfl ?_); refine ⟨_, BU.out _, ?_⟩)
            | ((with_reducible refine wpList_store 22 rfl _ _ rfl ?_); refine ⟨_, _, _, rfl, rfl, ST.out, ?_⟩))
          exact bodyPost_ret (RES.out _ rfl) rfl (NN.out _ 5 (by decide) _ BB.out)
        · have h32 : s.size = 32 := by omega
          have GG : (bs s).all hdB = true := all_of_getD (fun q hq => hg.out q (by rw [LEN.out] at hq; omega))
          have YES := Lib.hid (aut_good (by rw [LEN.out]; exact h32) GG)
          have OK := aut_ok YES.out
          have hcell' := hcell.out
          rw [e32, show pn 16 (bs s) 32 = uh (bs s) from pn_end (n := 16) (by rw [LEN.out]; exact h32)] at hcell'
          obtain ⟨cs, hcs⟩ : ∃ cs, cs = idA (uh (bs s)) := ⟨_, rfl⟩
          have CL : Cl 16 cs := by rw [hcs]; exact cl_au OK
          rw [← hcs] at hcell'
          obtain ⟨ST, RES, BB⟩ := FIN.out wr cs CL hres.out hbel.out
          have ST := Lib.hid ST; have RES := Lib.hid RES; have BB := Lib.hid BB
          have LD := Lib.hid (run_load_cl wr (w.heap.size + 1) 16 _ _ cs _ _ hcell' rfl Tryz.underlying22 size_a16 CL.1)
          have HCS := Lib.hid hcs
          clear FIN NO OK hcell' CL GG hcs hcell hres hbel hg BU START
          go_wp2_with (first
            | ((with_reducible refine wpList_load 22 rfl _ rfl ?_); refine ⟨_, _, rfl, LD.out, ?_⟩)
            | ((with_reducible refine wpList_store 22 rfl _ _ rfl ?_); refine ⟨_, _, _, rfl, rfl, ST.out, ?_⟩))
          exact bodyPost_ret (RES.out _ rfl) rfl (by unfold PaPost; rw [YES.out]; simp only []; rw [← HCS.out]; exact ⟨_, 0, rfl, BB.out⟩)
end Go.Proofs.YtohmdledkhgdaaaGreatDoor
