/- The walk of WordWord. -/
import Derived.Test.YtbgggeobpiaamaaDoorKn
import Derived.Test.YtbgggeobpiaamaaDoorRefW
namespace Go.Proofs.YtbgggeobpiaamaaDoor
open Go.RowKit
set_option linter.unusedVariables false
set_option maxRecDepth 100000
set_option maxHeartbeats 1000000 in
theorem wordword_card (w : World) (s : ByteArray) (hs : s.size ≤ maxLen) (enc : Int) (hw : (Lit.int .i64 enc).wf = true) (he : Env w) :
    Calls Tryd.prog 3 #[.string s, .int .i64 enc] w fun e w' => e = .returned (.bool true) ∧ Below w.heap.size w w' := by
  unfold maxLen at hs
  have K : Hid (∀ w', Below w.heap.size w w' → Calls Tryd.prog 11 #[] w' fun e w'' => e = .returned (.bool true) ∧ Below w.heap.size w w'') := Lib.hid (fun w' hb => (known_w w' (he.on hb)).mono fun e w'' h => ⟨h.1, hb.trans (h.2.mono hb.size)⟩)
  have R0 := Lib.hid (Below.refl w.heap.size w)
  by_cases h6 : 100 < s.size
  · clear he hw
    go_enter Tryd.func3, Tryd.ntmps3
    go_wp2_with (go_at_call 11; refine (K.out _ R0.out).mono ?_; rintro e w1 ⟨rfl, hb1⟩; have R0 := Lib.hid hb1; clear hb1)
    go_ret
    exact ⟨rfl, R0.out⟩
  · have W1 : Hid (∀ w', Below w.heap.size w w' → Calls Tryd.prog 12 #[.string s, .int .i64 enc] w' fun e w'' => e = .returned (.tuple #[.string (strN (wordR enc (bs s)).1), .int .i64 ((wordR enc (bs s)).2 : Int)]) ∧ Below w.heap.size w w'') := Lib.hid (fun w' hb => (word_any s enc w' (by omega) (he.on hb).tab).mono fun e w'' h => ⟨h.1, hb.trans (h.2.mono hb.size)⟩)
    have W2 : Hid (∀ w', Below w.heap.size w w' → Calls Tryd.prog 13 #[.string s, .int .i64 enc] w' fun e w'' => e = .returned (.tuple #[.string (strN (wordR enc (bs s)).1), .int .i64 ((wordR enc (bs s)).2 : Int)]) ∧ Below w.heap.size w w'') := Lib.hid (fun w' hb => (rWord_any s enc w' (by omega)).mono fun e w'' h => ⟨h.1, hb.trans (h.2.mono hb.size)⟩)
    obtain ⟨z, hz⟩ : ∃ z, z = wordR enc (bs s) := ⟨_, rfl⟩
    rw [← hz] at W1 W2
    obtain ⟨t, ht⟩ : ∃ t, t = strN z.1 := ⟨_, rfl⟩
    obtain ⟨n, hn⟩ : ∃ n : Int, n = (z.2 : Int) := ⟨_, rfl⟩
    rw [← ht, ← hn] at W1 W2
    clear he hw hz ht hn
    go_enter Tryd.func3, Tryd.ntmps3
    go_wp2_with (first | (go_at_call 11; refine (K.out _ R0.out).mono ?_; rintro e w1 ⟨rfl, hb1⟩; have R0 := Lib.hid hb1; clear hb1) | (go_at_call 12; refine (W1.out _ R0.out).mono ?_; rintro e w1 ⟨rfl, hb1⟩; have R0 := Lib.hid hb1; clear hb1) | (go_at_call 13; refine (W2.out _ R0.out).mono ?_; rintro e w1 ⟨rfl, hb1⟩; have R0 := Lib.hid hb1; clear hb1))
    go_ret
    exact ⟨ret_bool (by simp), R0.out⟩
end Go.Proofs.YtbgggeobpiaamaaDoor
