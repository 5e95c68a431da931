/- The walk of WordRoundTrip. -/
import Derived.Test.YtbgggeobpiaamaaDoorKn
import Derived.Test.YtbgggeobpiaamaaDoorRefW
import Derived.Test.YtbgggeobpiaamaaDoorRP
namespace Go.Proofs.YtbgggeobpiaamaaDoor
open Go.RowKit
set_option linter.unusedVariables false
set_option maxRecDepth 100000
theorem toList_beq (t s : ByteArray) : (t.toList == s.toList) = decide (t = s) := by
  rw [ByteArray.toList_eq, ByteArray.toList_eq, Bool.eq_iff_iff, beq_iff_eq, decide_eq_true_eq]
  constructor
  · intro h; exact Go.WideShapes.bytes_inj h
  · rintro rfl; rfl
def encQ (q : Bool) : Int := if q = true then 1 else 0
theorem encQ01 (q : Bool) : encQ q = 0 ∨ encQ q = 1 := by cases q; exact .inl rfl; exact .inr rfl
theorem trip_parts (s : ByteArray) (q : Bool) (hs : s.size ≤ 600) : encR (encQ q) (bs s) = ([], 6) ∨
    ∃ t : ByteArray, encR (encQ q) (bs s) = (bs t, 0) ∧ decR (bs t) = (bs s, 0) ∧ (∀ i, i < t.size → 32 ≤ (bs t).getD i 0 ∧ (bs t).getD i 0 ≤ 126) ∧ (t = s ↔ plain (bs s) = true) ∧ t.size ≤ 16384 := by
  have hl : (bs s).length ≤ 600 := by rw [bs_length]; exact hs
  by_cases h : (encR (encQ q) (bs s)).2 = 0
  · right
    obtain ⟨h1, h2, h3, h4⟩ := decR_encR (encQ01 q) (bs_lt s) hl h
    have hb : bs (strN (encR (encQ q) (bs s)).1) = (encR (encQ q) (bs s)).1 := bs_strN _ (fun x hx => by have := h2 x hx; omega)
    refine ⟨strN (encR (encQ q) (bs s)).1, ?_, ?_, ?_, ?_, ?_⟩
    · rw [hb, ← h]
    · rw [hb, h1]
    · intro i hi
      rw [strN_size] at hi
      rw [hb, List.getD_eq_getElem?_getD, List.getElem?_eq_getElem hi, Option.getD_some]
      exact h2 _ (List.getElem_mem hi)
    · rw [← h3]
      constructor
      · intro e; rw [← hb, e]
      · intro e; rw [e, strN_bs]
    · rw [strN_size]; exact h4
  · left
    rcases encR_cases (encQ01 q) (bs_lt s) (by omega) with ⟨e, _⟩ | ⟨e, _⟩ | ⟨_, _, ts, _, e, _⟩
    · exact e
    · rw [e] at h; exact absurd rfl h
    · rw [e] at h; exact absurd rfl h
set_option maxHeartbeats 2000000 in
theorem trip_card (w : World) (s : ByteArray) (hs : s.size ≤ maxLen) (q : Bool) (he : Env w) :
    Calls Tryd.prog 5 #[.string s, .bool q] w fun e w' => e = .returned (.bool true) ∧ Below w.heap.size w w' := by
  unfold maxLen at hs
  have K : Hid (∀ w', Below w.heap.size w w' → Calls Tryd.prog 11 #[] w' fun e w'' => e = .returned (.bool true) ∧ Below w.heap.size w w'') := Lib.hid (fun w' hb => (known_w w' (he.on hb)).mono fun e w'' h => ⟨h.1, hb.trans (h.2.mono hb.size)⟩)
  have R0 := Lib.hid (Below.refl w.heap.size w)
  by_cases h6 : 600 < s.size
  · clear he
    go_enter Tryd.func5, Tryd.ntmps5
    go_wp2_with (go_at_call 11; refine (K.out _ R0.out).mono ?_; rintro e w1 ⟨rfl, hb1⟩; have R0 := Lib.hid hb1; clear hb1)
    go_ret
    exact ⟨rfl, R0.out⟩
  · have E : Hid (∀ w', Below w.heap.size w w' → Calls Tryd.prog 18 #[.string s, .int .i64 (encQ q)] w' fun e w'' => e = .returned (.tuple #[.string (strN (encR (encQ q) (bs s)).1), .int .i64 ((encR (encQ q) (bs s)).2 : Int)]) ∧ Below w.heap.size w w'') := Lib.hid (fun w' hb => (encode_word s (encQ q) w' (by unfold maxLen; omega) (he.on hb)).mono fun e w'' h => ⟨h.1, hb.trans (h.2.mono hb.size)⟩)
    rcases trip_parts s q (by omega) with h | ⟨t, h1, h2, h3, h4, h5⟩
    · rw [h] at E
      have e1 : strN [] = ⟨#[]⟩ := rfl
      simp only [e1] at E
      clear h e1 he
      cases q
      all_goals
        unfold encQ at E
        simp only [if_true, Bool.false_eq_true, if_false] at E
        go_enter Tryd.func5, Tryd.ntmps5
        go_wp2_with (first | (go_at_call 11; refine (K.out _ R0.out).mono ?_; rintro e w1 ⟨rfl, hb1⟩; have R0 := Lib.hid hb1; clear hb1) | (go_at_call 18; refine (E.out _ R0.out).mono ?_; rintro e w1 ⟨rfl, hb1⟩; have R0 := Lib.hid hb1; clear hb1))
        go_ret
        exact ⟨rfl, R0.out⟩
    · have D : Hid (∀ w', Below w.heap.size w w' → Calls Tryd.prog 14 #[.string t] w' fun e w'' => e = .returned (.tuple #[.string s, .int .i64 0]) ∧ Below w.heap.size w w'') := Lib.hid (fun w' hb => (decode_word t w' (by unfold maxLen; omega) (he.on hb)).mono fun e w'' h => by
        obtain ⟨ha, hc⟩ := h
        rw [h2, strN_bs] at ha
        exact ⟨ha, hb.trans (hc.mono hb.size)⟩)
      have PL : Hid (∀ w', Below w.heap.size w w' → Calls Tryd.prog 19 #[.string s] w' fun e w'' => e = .returned (.bool (plain (bs s))) ∧ Below w.heap.size w w'') := Lib.hid (fun w' hb => (plain_any s w' (by omega) (he.on hb)).mono fun e w'' h => ⟨h.1, hb.trans (h.2.mono hb.size)⟩)
      rw [h1] at E
      simp only [strN_bs] at E
      have H3 := Lib.hid h3
      obtain ⟨b, hb⟩ : ∃ b, b = plain (bs s) := ⟨_, rfl⟩
      rw [← hb] at PL h4
      have qe : (t.toList == s.toList) = b := by rw [toList_beq]; cases b <;> simp_all
      have QE := Lib.hid qe
      clear h1 h2 h3 h4 he hb qe
      cases q
      all_goals
        unfold encQ at E
        simp only [if_true, Bool.false_eq_true, if_false] at E
        go_enter Tryd.func5, Tryd.ntmps5
        go_wp2_with (first | (go_at_call 11; refine (K.out _ R0.out).mono ?_; rintro e w1 ⟨rfl, hb1⟩; have R0 := Lib.hid hb1; clear hb1) | (go_at_call 18; refine (E.out _ R0.out).mono ?_; rintro e w1 ⟨rfl, hb1⟩; have R0 := Lib.hid hb1; clear hb1))
        go_loopg [8] t.size (fun k i wr => ∃ n : Nat, n ≤ t.size ∧ k = t.size - n ∧ i = .int .i64 (n : Int) ∧ Below w.heap.size w wr)
        case atStart => exact ⟨0, by omega, rfl, rfl, R0.out⟩
        case round =>
          obtain ⟨n, hn, rfl, rfl, hbw⟩ := hrel
          have HB := Lib.hid hbw
          clear hbw R0
          by_cases h : n < t.size
          · obtain ⟨c, hc⟩ : ∃ c, c = (bs t).getD n 0 := ⟨_, rfl⟩
            have hc3 := H3.out n h
            rw [← hc] at hc3
            obtain ⟨c1, c2⟩ := hc3
            have x0 := fun w => idx_q t w (n : Int) n rfl h c hc
            clear hc
            go_wp2_with fail
            go_roundg (t.size - (n + 1))
            case measure => omega
            case rel => exact ⟨n + 1, by omega, rfl, by go_num, HB.out⟩
          · have R0 := HB
            clear HB
            go_wp2_with (first | (go_at_call 14; refine (D.out _ R0.out).mono ?_; rintro e w1 ⟨rfl, hb1⟩; have R0 := Lib.hid hb1; clear hb1) | (go_at_call 19; refine (PL.out _ R0.out).mono ?_; rintro e w1 ⟨rfl, hb1⟩; have R0 := Lib.hid hb1; clear hb1))
            go_ret
            exact ⟨ret_bool (by simp [QE.out]), R0.out⟩
end Go.Proofs.YtbgggeobpiaamaaDoor
