/- The walk of WordUnchanged. -/
import Derived.Test.YtbgggeobpiaamaaDoorKn
namespace Go.Proofs.YtbgggeobpiaamaaDoor
open Go.RowKit
set_option linter.unusedVariables false
set_option maxRecDepth 100000
theorem decT_none {l : List Nat} (h : findR l = []) : decT l = l := by unfold decT; rw [h]; simp [dcSt]
set_option maxHeartbeats 1000000 in
theorem unchanged_any (s : ByteArray) (w : World) (hs : s.size ≤ maxLen) (he : Env w) :
    Calls Tryd.prog 7 #[.string s] w fun e w' => e = .returned (.bool true) ∧ Below w.heap.size w w' := by
  unfold maxLen at hs
  have K : Hid (∀ w', Below w.heap.size w w' → Calls Tryd.prog 11 #[] w' fun e w'' => e = .returned (.bool true) ∧ Below w.heap.size w w'') := Lib.hid (fun w' hb => (known_w w' (he.on hb)).mono fun e w'' h => ⟨h.1, hb.trans (h.2.mono hb.size)⟩)
  have HE := Lib.hid he
  have R0 := Lib.hid (Below.refl w.heap.size w)
  clear he
  by_cases h6 : 600 < s.size
  · go_enter Tryd.func7, Tryd.ntmps7
    go_wp2_with (go_at_call 11; refine (K.out _ R0.out).mono ?_; rintro e w1 ⟨rfl, hb1⟩; have R0 := Lib.hid hb1; clear hb1)
    go_ret
    exact ⟨rfl, R0.out⟩
  · have F : Hid (∀ w', Below w.heap.size w w' → Calls Tryd.prog 16 #[.string s] w' fun e w'' => ∃ a c, e = .returned (.slice a (findR (bs s)).length c) ∧ Below w.heap.size w w'') := Lib.hid (fun w' hb => (find_any s w' (by omega) (HE.out.on hb)).mono fun e w'' h => by
      obtain ⟨v, rfl, ho, hb2⟩ := h
      rcases ho.2 with ⟨rfl, h0⟩ | ⟨g, c2, cur, rfl, _⟩
      · exact ⟨none, 0, by rw [h0], hb.trans (hb2.mono hb.size)⟩
      · exact ⟨_, c2, rfl, hb.trans (hb2.mono hb.size)⟩)
    obtain ⟨n, hn⟩ : ∃ n, n = (findR (bs s)).length := ⟨_, rfl⟩
    rw [← hn] at F
    have HN := Lib.hid hn
    clear hn
    by_cases hn0 : 0 < n
    · go_enter Tryd.func7, Tryd.ntmps7
      go_wp2_with (first | (go_at_call 11; refine (K.out _ R0.out).mono ?_; rintro e w1 ⟨rfl, hb1⟩; have R0 := Lib.hid hb1; clear hb1) | (go_at_call 16; refine (F.out _ R0.out).mono ?_; rintro e w1 ⟨a, c, rfl, hb1⟩; have R0 := Lib.hid hb1; clear hb1))
      go_ret
      exact ⟨rfl, R0.out⟩
    · have hF : findR (bs s) = [] := List.length_eq_zero_iff.1 (by rw [← HN.out]; omega)
      have D : Hid (∀ w', Below w.heap.size w w' → Calls Tryd.prog 14 #[.string s] w' fun e w'' => e = .returned (.tuple #[.string (strN (decR (bs s)).1), .int .i64 ((decR (bs s)).2 : Int)]) ∧ Below w.heap.size w w'') := Lib.hid (fun w' hb => (decode_word s w' (by unfold maxLen; omega) (HE.out.on hb)).mono fun e w'' h => ⟨h.1, hb.trans (h.2.mono hb.size)⟩)
      have hdr : decR (bs s) = ([], 6) ∨ decR (bs s) = (bs s, 0) := by
        unfold decR
        rw [if_neg (by rw [bs_length]; omega), decT_none hF]
        split
        · exact .inl rfl
        · exact .inr rfl
      clear hF
      rcases hdr with h | h
      · rw [h] at D
        have e1 : strN [] = ⟨#[]⟩ := rfl
        simp only [e1] at D
        clear h e1
        go_enter Tryd.func7, Tryd.ntmps7
        go_wp2_with (first | (go_at_call 11; refine (K.out _ R0.out).mono ?_; rintro e w1 ⟨rfl, hb1⟩; have R0 := Lib.hid hb1; clear hb1) | (go_at_call 16; refine (F.out _ R0.out).mono ?_; rintro e w1 ⟨a, c, rfl, hb1⟩; have R0 := Lib.hid hb1; clear hb1) | (go_at_call 14; refine (D.out _ R0.out).mono ?_; rintro e w1 ⟨rfl, hb1⟩; have R0 := Lib.hid hb1; clear hb1))
        go_ret
        exact ⟨rfl, R0.out⟩
      · rw [h] at D
        simp only [strN_bs] at D
        clear h
        go_enter Tryd.func7, Tryd.ntmps7
        go_wp2_with (first | (go_at_call 11; refine (K.out _ R0.out).mono ?_; rintro e w1 ⟨rfl, hb1⟩; have R0 := Lib.hid hb1; clear hb1) | (go_at_call 16; refine (F.out _ R0.out).mono ?_; rintro e w1 ⟨a, c, rfl, hb1⟩; have R0 := Lib.hid hb1; clear hb1) | (go_at_call 14; refine (D.out _ R0.out).mono ?_; rintro e w1 ⟨rfl, hb1⟩; have R0 := Lib.hid hb1; clear hb1))
        go_ret
        exact ⟨ret_bool (by simp), R0.out⟩
theorem unchanged_card (w : World) (s : ByteArray) (hs : s.size ≤ maxLen) (he : Env w) :
    Calls Tryd.prog 7 #[.string s] w fun e w' => e = .returned (.bool true) ∧ Below w.heap.size w w' := unchanged_any s w hs he
end Go.Proofs.YtbgggeobpiaamaaDoor
