/- The reference: Rune, Printable, itself. -/
import Derived.Test.YtbgggeobpiaamaaDoorEP
import Derived.Test.YtbgggeobpiaamaaDoorQ
import Derived.LoopN
namespace Go.Proofs.YtbgggeobpiaamaaDoor
open Go.RowKit
set_option linter.unusedVariables false
set_option maxRecDepth 100000

theorem uCont_iff (f i c : Nat) : uCont f i c = true ↔ (128 ≤ c ∧ c ≤ 191 ∧ (i = 1 → (f = 224 → 160 ≤ c) ∧ (f = 240 → 144 ≤ c) ∧ (f = 237 → c ≤ 159) ∧ (f = 244 → c ≤ 143))) := by
  unfold uCont
  simp only [Bool.and_eq_true, decide_eq_true_eq]
  by_cases h1 : i = 1
  · subst h1
    simp only [true_and, true_implies]
    (repeat' split) <;> omega
  · rw [if_neg (fun h => h1 h.1), if_neg (fun h => h1 h.1), if_neg (fun h => h1 h.1), if_neg (fun h => h1 h.1)]
    simp only [h1, false_implies, and_true]
theorem rn_yes {l : List Nat} {n : Nat} (hn : uLen (l.getD 0 0) = n) (h0 : n ≠ 0) (hl : n ≤ l.length) (h : ∀ i, 1 ≤ i → i < n → uCont (l.getD 0 0) i (l.getD i 0) = true) : rn l = n := by
  subst hn
  have hw := (whole_iff l).2 ⟨h0, hl, h⟩
  exact (rn_pos hw).1
theorem rn_no {l : List Nat} {n : Nat} (hn : uLen (l.getD 0 0) = n) (h : ¬ (n ≠ 0 ∧ n ≤ l.length ∧ ∀ i, 1 ≤ i → i < n → uCont (l.getD 0 0) i (l.getD i 0) = true)) : rn l = 0 := by
  subst hn
  exact rn_zero (whole_no l h)

set_option maxHeartbeats 2000000 in
theorem rune2 (s : ByteArray) (w : World) (hs : s.size ≤ maxLen) (c : Nat) (hc : c = (bs s).getD 0 0) (h0 : 0 < s.size) (hlo : 194 ≤ c) (hhi : c ≤ 223) :
    Calls Tryd.prog 21 #[.string s] w fun e w' => e = .returned (.int .i64 (rn (bs s) : Int)) ∧ w = w' := by
  unfold maxLen at hs
  have HU : Hid (uLen ((bs s).getD 0 0) = 2) := Lib.hid (by rw [← hc]; unfold uLen; (repeat' split) <;> omega)
  have y0 := idx0 s c hc h0
  have n0 := str_ne (s := s) (by omega)
  have HC := Lib.hid hc
  clear hc
  by_cases hz : s.size < 2
  · have R0 : Hid (rn (bs s) = 0) := Lib.hid (rn_no HU.out (fun h => by have := h.2.1; rw [bs_length] at this; omega))
    go_enter Tryd.func21, Tryd.ntmps21
    go_wp2_with fail
    go_ret
    exact ⟨by rw [R0.out]; rfl, rfl⟩
  obtain ⟨x1, hx1⟩ : ∃ x, x = (bs s).getD 1 0 := ⟨_, rfl⟩
  have z1 : x1 < 256 := by rw [hx1]; exact bs_lt' s 1
  have y1 := fun w => idx_q s w 1 1 rfl (by omega) x1 hx1
  have HX1 := Lib.hid hx1
  clear hx1
  by_cases q1lo : x1 < 128
  · have R0 : Hid (rn (bs s) = 0) := Lib.hid (rn_no HU.out (fun h => by
      have := (uCont_iff _ _ _).1 (h.2.2 1 (by omega) (by omega))
      rw [← HX1.out] at this
      omega))
    go_enter Tryd.func21, Tryd.ntmps21
    go_wp2_with fail
    refine wp_loop_rounds 1 ?_
    rw [rounds_succ]
    go_wp2_with fail
    go_ret
    exact ⟨by rw [R0.out]; rfl, rfl⟩
  by_cases q1hi : 191 < x1
  · have R0 : Hid (rn (bs s) = 0) := Lib.hid (rn_no HU.out (fun h => by
      have := (uCont_iff _ _ _).1 (h.2.2 1 (by omega) (by omega))
      rw [← HX1.out] at this
      omega))
    go_enter Tryd.func21, Tryd.ntmps21
    go_wp2_with fail
    refine wp_loop_rounds 1 ?_
    rw [rounds_succ]
    go_wp2_with fail
    go_ret
    exact ⟨by rw [R0.out]; rfl, rfl⟩
  have R1 : Hid (rn (bs s) = 2) := Lib.hid (rn_yes HU.out (by omega) (by rw [bs_length]; omega) (fun i h1 h2 => by
    rw [uCont_iff, ← HC.out]
    rcases (by omega : i = 1) with rfl
    · rw [← HX1.out]; omega))
  go_enter Tryd.func21, Tryd.ntmps21
  go_wp2_with fail
  refine wp_loop_rounds 2 ?_
  rw [rounds_succ]
  go_wp2_with fail
  rw [rounds_succ]
  go_wp2_with fail
  all_goals
    go_ret
    exact ⟨by rw [R1.out]; rfl, rfl⟩

set_option maxHeartbeats 2000000 in
theorem rune3 (s : ByteArray) (w : World) (hs : s.size ≤ maxLen) (c : Nat) (hc : c = (bs s).getD 0 0) (h0 : 0 < s.size) (hlo : 224 ≤ c) (hhi : c ≤ 239) :
    Calls Tryd.prog 21 #[.string s] w fun e w' => e = .returned (.int .i64 (rn (bs s) : Int)) ∧ w = w' := by
  unfold maxLen at hs
  have HU : Hid (uLen ((bs s).getD 0 0) = 3) := Lib.hid (by rw [← hc]; unfold uLen; (repeat' split) <;> omega)
  have y0 := idx0 s c hc h0
  have n0 := str_ne (s := s) (by omega)
  have HC := Lib.hid hc
  clear hc
  by_cases hz : s.size < 3
  · have R0 : Hid (rn (bs s) = 0) := Lib.hid (rn_no HU.out (fun h => by have := h.2.1; rw [bs_length] at this; omega))
    go_enter Tryd.func21, Tryd.ntmps21
    go_wp2_with fail
    go_ret
    exact ⟨by rw [R0.out]; rfl, rfl⟩
  obtain ⟨x1, hx1⟩ : ∃ x, x = (bs s).getD 1 0 := ⟨_, rfl⟩
  have z1 : x1 < 256 := by rw [hx1]; exact bs_lt' s 1
  have y1 := fun w => idx_q s w 1 1 rfl (by omega) x1 hx1
  have HX1 := Lib.hid hx1
  clear hx1
  obtain ⟨x2, hx2⟩ : ∃ x, x = (bs s).getD 2 0 := ⟨_, rfl⟩
  have z2 : x2 < 256 := by rw [hx2]; exact bs_lt' s 2
  have y2 := fun w => idx_q s w 2 2 rfl (by omega) x2 hx2
  have HX2 := Lib.hid hx2
  clear hx2
  by_cases q1lo : x1 < 128
  · have R0 : Hid (rn (bs s) = 0) := Lib.hid (rn_no HU.out (fun h => by
      have := (uCont_iff _ _ _).1 (h.2.2 1 (by omega) (by omega))
      rw [← HX1.out] at this
      omega))
    go_enter Tryd.func21, Tryd.ntmps21
    go_wp2_with fail
    refine wp_loop_rounds 1 ?_
    rw [rounds_succ]
    go_wp2_with fail
    go_ret
    exact ⟨by rw [R0.out]; rfl, rfl⟩
  by_cases q1hi : 191 < x1
  · have R0 : Hid (rn (bs s) = 0) := Lib.hid (rn_no HU.out (fun h => by
      have := (uCont_iff _ _ _).1 (h.2.2 1 (by omega) (by omega))
      rw [← HX1.out] at this
      omega))
    go_enter Tryd.func21, Tryd.ntmps21
    go_wp2_with fail
    refine wp_loop_rounds 1 ?_
    rw [rounds_succ]
    go_wp2_with fail
    go_ret
    exact ⟨by rw [R0.out]; rfl, rfl⟩
  by_cases q2lo : x2 < 128
  · have R0 : Hid (rn (bs s) = 0) := Lib.hid (rn_no HU.out (fun h => by
      have := (uCont_iff _ _ _).1 (h.2.2 2 (by omega) (by omega))
      rw [← HX2.out] at this
      omega))
    go_enter Tryd.func21, Tryd.ntmps21
    go_wp2_with fail
    refine wp_loop_rounds 2 ?_
    rw [rounds_succ]
    go_wp2_with fail
    rw [rounds_succ]
    go_wp2_with fail
    go_ret
    exact ⟨by rw [R0.out]; rfl, rfl⟩
  by_cases q2hi : 191 < x2
  · have R0 : Hid (rn (bs s) = 0) := Lib.hid (rn_no HU.out (fun h => by
      have := (uCont_iff _ _ _).1 (h.2.2 2 (by omega) (by omega))
      rw [← HX2.out] at this
      omega))
    go_enter Tryd.func21, Tryd.ntmps21
    go_wp2_with fail
    refine wp_loop_rounds 2 ?_
    rw [rounds_succ]
    go_wp2_with fail
    rw [rounds_succ]
    go_wp2_with fail
    go_ret
    exact ⟨by rw [R0.out]; rfl, rfl⟩
  by_cases qv : ((c : Int) - 224) * 4096 + ((x1 : Int) - 128) * 64 + ((x2 : Int) - 128) < 2048 ∨ (55296 ≤ ((c : Int) - 224) * 4096 + ((x1 : Int) - 128) * 64 + ((x2 : Int) - 128) ∧ ((c : Int) - 224) * 4096 + ((x1 : Int) - 128) * 64 + ((x2 : Int) - 128) ≤ 57343)
  · have R0 : Hid (rn (bs s) = 0) := Lib.hid (rn_no HU.out (fun h => by
      have := (uCont_iff _ _ _).1 (h.2.2 1 (by omega) (by omega))
      rw [← HX1.out, ← HC.out] at this
      omega))
    go_enter Tryd.func21, Tryd.ntmps21
    go_wp2_with fail
    refine wp_loop_rounds 3 ?_
    rw [rounds_succ]
    go_wp2_with fail
    rw [rounds_succ]
    go_wp2_with fail
    rw [rounds_succ]
    go_wp2_with fail
    all_goals
      go_ret
      exact ⟨by rw [R0.out]; rfl, rfl⟩
  have R1 : Hid (rn (bs s) = 3) := Lib.hid (rn_yes HU.out (by omega) (by rw [bs_length]; omega) (fun i h1 h2 => by
    rw [uCont_iff, ← HC.out]
    rcases (by omega : i = 1 ∨ i = 2) with rfl | rfl
    · rw [← HX1.out]; omega
    · rw [← HX2.out]; omega))
  go_enter Tryd.func21, Tryd.ntmps21
  go_wp2_with fail
  refine wp_loop_rounds 3 ?_
  rw [rounds_succ]
  go_wp2_with fail
  rw [rounds_succ]
  go_wp2_with fail
  rw [rounds_succ]
  go_wp2_with fail
  all_goals
    go_ret
    exact ⟨by rw [R1.out]; rfl, rfl⟩

set_option maxHeartbeats 2000000 in
theorem rune4 (s : ByteArray) (w : World) (hs : s.size ≤ maxLen) (c : Nat) (hc : c = (bs s).getD 0 0) (h0 : 0 < s.size) (hlo : 240 ≤ c) (hhi : c ≤ 244) :
    Calls Tryd.prog 21 #[.string s] w fun e w' => e = .returned (.int .i64 (rn (bs s) : Int)) ∧ w = w' := by
  unfold maxLen at hs
  have HU : Hid (uLen ((bs s).getD 0 0) = 4) := Lib.hid (by rw [← hc]; unfold uLen; (repeat' split) <;> omega)
  have y0 := idx0 s c hc h0
  have n0 := str_ne (s := s) (by omega)
  have HC := Lib.hid hc
  clear hc
  by_cases hz : s.size < 4
  · have R0 : Hid (rn (bs s) = 0) := Lib.hid (rn_no HU.out (fun h => by have := h.2.1; rw [bs_length] at this; omega))
    go_enter Tryd.func21, Tryd.ntmps21
    go_wp2_with fail
    go_ret
    exact ⟨by rw [R0.out]; rfl, rfl⟩
  obtain ⟨x1, hx1⟩ : ∃ x, x = (bs s).getD 1 0 := ⟨_, rfl⟩
  have z1 : x1 < 256 := by rw [hx1]; exact bs_lt' s 1
  have y1 := fun w => idx_q s w 1 1 rfl (by omega) x1 hx1
  have HX1 := Lib.hid hx1
  clear hx1
  obtain ⟨x2, hx2⟩ : ∃ x, x = (bs s).getD 2 0 := ⟨_, rfl⟩
  have z2 : x2 < 256 := by rw [hx2]; exact bs_lt' s 2
  have y2 := fun w => idx_q s w 2 2 rfl (by omega) x2 hx2
  have HX2 := Lib.hid hx2
  clear hx2
  obtain ⟨x3, hx3⟩ : ∃ x, x = (bs s).getD 3 0 := ⟨_, rfl⟩
  have z3 : x3 < 256 := by rw [hx3]; exact bs_lt' s 3
  have y3 := fun w => idx_q s w 3 3 rfl (by omega) x3 hx3
  have HX3 := Lib.hid hx3
  clear hx3
  by_cases q1lo : x1 < 128
  · have R0 : Hid (rn (bs s) = 0) := Lib.hid (rn_no HU.out (fun h => by
      have := (uCont_iff _ _ _).1 (h.2.2 1 (by omega) (by omega))
      rw [← HX1.out] at this
      omega))
    go_enter Tryd.func21, Tryd.ntmps21
    go_wp2_with fail
    refine wp_loop_rounds 1 ?_
    rw [rounds_succ]
    go_wp2_with fail
    go_ret
    exact ⟨by rw [R0.out]; rfl, rfl⟩
  by_cases q1hi : 191 < x1
  · have R0 : Hid (rn (bs s) = 0) := Lib.hid (rn_no HU.out (fun h => by
      have := (uCont_iff _ _ _).1 (h.2.2 1 (by omega) (by omega))
      rw [← HX1.out] at this
      omega))
    go_enter Tryd.func21, Tryd.ntmps21
    go_wp2_with fail
    refine wp_loop_rounds 1 ?_
    rw [rounds_succ]
    go_wp2_with fail
    go_ret
    exact ⟨by rw [R0.out]; rfl, rfl⟩
  by_cases q2lo : x2 < 128
  · have R0 : Hid (rn (bs s) = 0) := Lib.hid (rn_no HU.out (fun h => by
      have := (uCont_iff _ _ _).1 (h.2.2 2 (by omega) (by omega))
      rw [← HX2.out] at this
      omega))
    go_enter Tryd.func21, Tryd.ntmps21
    go_wp2_with fail
    refine wp_loop_rounds 2 ?_
    rw [rounds_succ]
    go_wp2_with fail
    rw [rounds_succ]
    go_wp2_with fail
    go_ret
    exact ⟨by rw [R0.out]; rfl, rfl⟩
  by_cases q2hi : 191 < x2
  · have R0 : Hid (rn (bs s) = 0) := Lib.hid (rn_no HU.out (fun h => by
      have := (uCont_iff _ _ _).1 (h.2.2 2 (by omega) (by omega))
      rw [← HX2.out] at this
      omega))
    go_enter Tryd.func21, Tryd.ntmps21
    go_wp2_with fail
    refine wp_loop_rounds 2 ?_
    rw [rounds_succ]
    go_wp2_with fail
    rw [rounds_succ]
    go_wp2_with fail
    go_ret
    exact ⟨by rw [R0.out]; rfl, rfl⟩
  by_cases q3lo : x3 < 128
  · have R0 : Hid (rn (bs s) = 0) := Lib.hid (rn_no HU.out (fun h => by
      have := (uCont_iff _ _ _).1 (h.2.2 3 (by omega) (by omega))
      rw [← HX3.out] at this
      omega))
    go_enter Tryd.func21, Tryd.ntmps21
    go_wp2_with fail
    refine wp_loop_rounds 3 ?_
    rw [rounds_succ]
    go_wp2_with fail
    rw [rounds_succ]
    go_wp2_with fail
    rw [rounds_succ]
    go_wp2_with fail
    go_ret
    exact ⟨by rw [R0.out]; rfl, rfl⟩
  by_cases q3hi : 191 < x3
  · have R0 : Hid (rn (bs s) = 0) := Lib.hid (rn_no HU.out (fun h => by
      have := (uCont_iff _ _ _).1 (h.2.2 3 (by omega) (by omega))
      rw [← HX3.out] at this
      omega))
    go_enter Tryd.func21, Tryd.ntmps21
    go_wp2_with fail
    refine wp_loop_rounds 3 ?_
    rw [rounds_succ]
    go_wp2_with fail
    rw [rounds_succ]
    go_wp2_with fail
    rw [rounds_succ]
    go_wp2_with fail
    go_ret
    exact ⟨by rw [R0.out]; rfl, rfl⟩
  by_cases qv : ((c : Int) - 240) * 262144 + ((x1 : Int) - 128) * 4096 + ((x2 : Int) - 128) * 64 + ((x3 : Int) - 128) < 65536 ∨ 1114111 < ((c : Int) - 240) * 262144 + ((x1 : Int) - 128) * 4096 + ((x2 : Int) - 128) * 64 + ((x3 : Int) - 128)
  · have R0 : Hid (rn (bs s) = 0) := Lib.hid (rn_no HU.out (fun h => by
      have := (uCont_iff _ _ _).1 (h.2.2 1 (by omega) (by omega))
      rw [← HX1.out, ← HC.out] at this
      omega))
    go_enter Tryd.func21, Tryd.ntmps21
    go_wp2_with fail
    refine wp_loop_rounds 4 ?_
    rw [rounds_succ]
    go_wp2_with fail
    rw [rounds_succ]
    go_wp2_with fail
    rw [rounds_succ]
    go_wp2_with fail
    rw [rounds_succ]
    go_wp2_with fail
    all_goals
      go_ret
      exact ⟨by rw [R0.out]; rfl, rfl⟩
  have R1 : Hid (rn (bs s) = 4) := Lib.hid (rn_yes HU.out (by omega) (by rw [bs_length]; omega) (fun i h1 h2 => by
    rw [uCont_iff, ← HC.out]
    rcases (by omega : i = 1 ∨ i = 2 ∨ i = 3) with rfl | rfl | rfl
    · rw [← HX1.out]; omega
    · rw [← HX2.out]; omega
    · rw [← HX3.out]; omega))
  go_enter Tryd.func21, Tryd.ntmps21
  go_wp2_with fail
  refine wp_loop_rounds 4 ?_
  rw [rounds_succ]
  go_wp2_with fail
  rw [rounds_succ]
  go_wp2_with fail
  rw [rounds_succ]
  go_wp2_with fail
  rw [rounds_succ]
  go_wp2_with fail
  all_goals
    go_ret
    exact ⟨by rw [R1.out]; rfl, rfl⟩

set_option maxHeartbeats 2000000 in
theorem rune_any (s : ByteArray) (w : World) (hs : s.size ≤ maxLen) :
    Calls Tryd.prog 21 #[.string s] w fun e w' => e = .returned (.int .i64 (rn (bs s) : Int)) ∧ w = w' := by
  by_cases h0 : s.size = 0
  · obtain rfl := str_emp h0
    go_enter Tryd.func21, Tryd.ntmps21
    go_wp2_with fail
    go_ret
    exact ⟨rfl, rfl⟩
  · obtain ⟨c, hc⟩ : ∃ c, c = (bs s).getD 0 0 := ⟨_, rfl⟩
    have hc2 : c < 256 := by rw [hc]; exact bs_lt' s 0
    rcases (by omega : c < 128 ∨ (128 ≤ c ∧ c < 194) ∨ (194 ≤ c ∧ c ≤ 223) ∨ (224 ≤ c ∧ c ≤ 239) ∨ (240 ≤ c ∧ c ≤ 244) ∨ 244 < c) with h | h | h | h | h | h
    · have R1 : Hid (rn (bs s) = 1) := Lib.hid (rn_yes (n := 1) (by rw [← hc]; unfold uLen; rw [if_pos (by omega)]) (by omega) (by rw [bs_length]; omega) (fun i h1 h2 => by omega))
      unfold maxLen at hs
      have y0 := idx0 s c hc (by omega)
      have n0 := str_ne h0
      clear hc
      go_enter Tryd.func21, Tryd.ntmps21
      go_wp2_with fail
      go_ret
      exact ⟨by rw [R1.out]; rfl, rfl⟩
    · have R0 : Hid (rn (bs s) = 0) := Lib.hid (rn_no (n := 0) (by rw [← hc]; unfold uLen; (repeat' split) <;> omega) (fun h => h.1 rfl))
      unfold maxLen at hs
      obtain ⟨h1, h2⟩ := h
      have y0 := idx0 s c hc (by omega)
      have n0 := str_ne h0
      clear hc
      go_enter Tryd.func21, Tryd.ntmps21
      go_wp2_with fail
      go_ret
      exact ⟨by rw [R0.out]; rfl, rfl⟩
    · exact rune2 s w hs c hc (by omega) h.1 h.2
    · exact rune3 s w hs c hc (by omega) h.1 h.2
    · exact rune4 s w hs c hc (by omega) h.1 h.2
    · have R0 : Hid (rn (bs s) = 0) := Lib.hid (rn_no (n := 0) (by rw [← hc]; unfold uLen; (repeat' split) <;> omega) (fun h => h.1 rfl))
      unfold maxLen at hs
      have y0 := idx0 s c hc (by omega)
      have n0 := str_ne h0
      clear hc
      go_enter Tryd.func21, Tryd.ntmps21
      go_wp2_with fail
      go_ret
      exact ⟨by rw [R0.out]; rfl, rfl⟩
end Go.Proofs.YtbgggeobpiaamaaDoor
