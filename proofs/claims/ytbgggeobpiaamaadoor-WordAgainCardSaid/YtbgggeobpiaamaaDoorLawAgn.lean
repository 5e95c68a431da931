/- The walk of WordAgain. -/
import Derived.Test.YtbgggeobpiaamaaDoorKn
import Derived.Test.YtbgggeobpiaamaaDoorRefW
import Derived.Test.YtbgggeobpiaamaaDoorAP
namespace Go.Proofs.YtbgggeobpiaamaaDoor
open Go.RowKit
set_option linter.unusedVariables false
set_option maxRecDepth 100000
theorem again_word {l : List Nat} (hlt : ∀ x ∈ l, x < 256) (h : (parseR l).2.2 = 0) : ∃ m, wordR ((parseR l).2.1 : Int) (parseR l).1 = (m, 0) ∧ m.length ≤ l.length ∧ m.length ≤ 75 ∧ (∀ x ∈ m, x < 256) ∧ parseR m = ((parseR l).1, (parseR l).2.1, 0) := by
  obtain ⟨q, h1, h2, h3, h4, h5, h6, h7, _⟩ := parse_ok hlt h
  have hq : isQ ((parseR l).2.1 : Int) = q := by rw [h1]; cases q <;> rfl
  have h75 : (wordF q (parseR l).1).length ≤ 75 := by omega
  refine ⟨wordF q (parseR l).1, ?_, h6, h75, ?_, ?_⟩
  · rw [wordR_ok _ (by rw [h1]; cases q; exact .inl rfl; exact .inr rfl) h2 h3 (by rw [hq]; omega), hq]
  · intro x hx
    rw [wordF_eq] at hx
    rcases List.mem_append.1 hx with hx | hx
    · have : ∀ q, ∀ x ∈ startF q, x < 256 := by intro q; cases q <;> decide
      exact this q x hx
    · rcases List.mem_append.1 hx with hx | hx
      · unfold dataW at hx
        split at hx
        · exact wQ_lt h4 x hx
        · exact encF_lt _ x hx
      · simp at hx; omega
  · rw [parse_wordF q h2 h3 h4 (by omega) h75, ← h1]
set_option maxHeartbeats 1000000 in
theorem again_card (w : World) (s : ByteArray) (hs : s.size ≤ maxLen) (he : Env w) :
    Calls Tryd.prog 8 #[.string s] w fun e w' => e = .returned (.bool true) ∧ Below w.heap.size w w' := by
  unfold maxLen at hs
  have K : Hid (∀ w', Below w.heap.size w w' → Calls Tryd.prog 11 #[] w' fun e w'' => e = .returned (.bool true) ∧ Below w.heap.size w w'') := Lib.hid (fun w' hb => (known_w w' (he.on hb)).mono fun e w'' h => ⟨h.1, hb.trans (h.2.mono hb.size)⟩)
  have R0 := Lib.hid (Below.refl w.heap.size w)
  by_cases h6 : 100 < s.size
  · clear he
    go_enter Tryd.func8, Tryd.ntmps8
    go_wp2_with (go_at_call 11; refine (K.out _ R0.out).mono ?_; rintro e w1 ⟨rfl, hb1⟩; have R0 := Lib.hid hb1; clear hb1)
    go_ret
    exact ⟨rfl, R0.out⟩
  · have PA : ∀ (t : ByteArray), t.size ≤ 1000 → ∀ w', Below w.heap.size w w' → Calls Tryd.prog 20 #[.string t] w' fun e w'' => e = .returned (.tuple #[.string (strN (parseR (bs t)).1), .int .i64 ((parseR (bs t)).2.1 : Int), .int .i64 ((parseR (bs t)).2.2 : Int)]) ∧ Below w.heap.size w w'' := fun t ht w' hb => (parse_any t w' (by omega) (he.on hb)).mono fun e w'' h => ⟨h.1, hb.trans (h.2.mono hb.size)⟩
    have P1 := Lib.hid (PA s (by omega))
    by_cases hz : (parseR (bs s)).2.2 = 0
    · obtain ⟨m, hm1, hm2, hm3, hm4, hm5⟩ := again_word (bs_lt s) hz
      obtain ⟨q, g1, g2, g3, g4, g5, _, _, _⟩ := parse_ok (bs_lt s) hz
      have W1 : Hid (∀ w', Below w.heap.size w w' → Calls Tryd.prog 12 #[.string (strN (parseR (bs s)).1), .int .i64 ((parseR (bs s)).2.1 : Int)] w' fun e w'' => e = .returned (.tuple #[.string (strN m), .int .i64 0]) ∧ Below w.heap.size w w'') := Lib.hid (fun w' hb => (word_any (strN (parseR (bs s)).1) _ w' (by rw [strN_size]; omega) (he.on hb).tab).mono fun e w'' h => by
        obtain ⟨h1, h2⟩ := h
        rw [bs_strN _ g4, hm1] at h1
        exact ⟨h1, hb.trans (h2.mono hb.size)⟩)
      have P2 := PA (strN m) (by rw [strN_size]; omega)
      rw [bs_strN _ hm4, hm5] at P2
      have RP : Hid (∀ w, Calls Tryd.prog 22 #[.string (strN (parseR (bs s)).1)] w fun e w' => e = .returned (.bool true) ∧ w = w') := Lib.hid (fun w => by
        have := rprt_any (strN (parseR (bs s)).1) w (by rw [strN_size]; unfold maxLen; omega)
        rw [bs_strN _ g4, g3] at this
        exact this)
      rw [hz] at P1
      have hms : (strN m).size = m.length := strN_size m
      rw [bs_length] at hm2
      obtain ⟨t, ht⟩ : ∃ t, t = strN (parseR (bs s)).1 := ⟨_, rfl⟩
      obtain ⟨en, hen⟩ : ∃ n : Int, n = ((parseR (bs s)).2.1 : Int) := ⟨_, rfl⟩
      obtain ⟨u, hu⟩ : ∃ u, u = strN m := ⟨_, rfl⟩
      simp only [← ht, ← hen, ← hu] at P1 W1 P2 RP hms
      have PP2 := Lib.hid P2
      have hus : u.size ≤ s.size := by rw [hms]; exact hm2
      clear PA P2 he hz hm1 hm2 hm3 hm4 hm5 g1 g2 g3 g4 g5 ht hen hu hms
      go_enter Tryd.func8, Tryd.ntmps8
      go_wp2_with (first | (go_at_call 11; refine (K.out _ R0.out).mono ?_; rintro e w1 ⟨rfl, hb1⟩; have R0 := Lib.hid hb1; clear hb1) | (go_at_call 20; ((with_reducible refine (P1.out _ R0.out).mono ?_); rintro e w1 ⟨rfl, hb1⟩; have R0 := Lib.hid hb1; clear hb1 P1)) | (go_at_call 20; ((with_reducible refine (PP2.out _ R0.out).mono ?_); rintro e w1 ⟨rfl, hb1⟩; have R0 := Lib.hid hb1; clear hb1)) | (go_at_call 12; refine (W1.out _ R0.out).mono ?_; rintro e w1 ⟨rfl, hb1⟩; have R0 := Lib.hid hb1; clear hb1) | (go_at_call 22; refine (RP.out _).mono ?_; rintro e w' ⟨rfl, rfl⟩))
      go_ret
      exact ⟨ret_bool (by simp), R0.out⟩
    · obtain ⟨e1, e2⟩ := parse_err hz
      obtain ⟨n, hn⟩ : ∃ n, n = (parseR (bs s)).2.2 := ⟨_, rfl⟩
      rw [e1, e2, ← hn] at P1
      rw [← hn] at hz
      have q0 : ((n : Int) != 0) = true := int_neq (by omega)
      have e3 : strN [] = ⟨#[]⟩ := rfl
      simp only [e3] at P1
      clear PA he hn e1 e2 e3
      go_enter Tryd.func8, Tryd.ntmps8
      go_wp2_with (first | (go_at_call 11; refine (K.out _ R0.out).mono ?_; rintro e w1 ⟨rfl, hb1⟩; have R0 := Lib.hid hb1; clear hb1) | (go_at_call 20; refine (P1.out _ R0.out).mono ?_; rintro e w1 ⟨rfl, hb1⟩; have R0 := Lib.hid hb1; clear hb1))
      go_ret
      exact ⟨rfl, R0.out⟩
end Go.Proofs.YtbgggeobpiaamaaDoor
