/- The walk of WordEncode. -/
import Derived.Test.YtbgggeobpiaamaaDoorKn
import Derived.Test.YtbgggeobpiaamaaDoorRefO
namespace Go.Proofs.YtbgggeobpiaamaaDoor
open Go.RowKit
set_option linter.unusedVariables false
set_option maxRecDepth 100000
/-- What Shorter says. -/
def shR (l : List Nat) : Nat := if (encR 0 l).2 = 0 ∧ (encR 1 l).2 = 0 ∧ (encR 1 l).1.length < (encR 0 l).1.length then 1 else 0
theorem enc_err (l : List Nat) : (encR 0 l).2 = (encR 1 l).2 := by
  unfold encR
  by_cases h1 : 4096 < l.length
  · simp [h1]
  · by_cases h2 : prt l = false
    · simp [h1, h2]
    · by_cases h3 : plain l = true
      · simp [h1, h2, h3]
      · simp [h1, h2, h3]
set_option maxHeartbeats 1000000 in
theorem wshort_any (s : ByteArray) (w : World) (hs : s.size ≤ maxLen) (he : Env w) :
    Calls Tryd.prog 25 #[.string s] w fun e w' => e = .returned (.int .i64 (shR (bs s) : Int)) ∧ Below w.heap.size w w' := by
  have R0 := Lib.hid (Below.refl w.heap.size w)
  have E : ∀ enc : Int, ∀ w', Below w.heap.size w w' → Calls Tryd.prog 18 #[.string s, .int .i64 enc] w' fun e w'' => e = .returned (.tuple #[.string (strN (encR enc (bs s)).1), .int .i64 ((encR enc (bs s)).2 : Int)]) ∧ Below w.heap.size w w'' := fun enc w' hb => (encode_word s enc w' hs (he.on hb)).mono fun e w'' h => ⟨h.1, hb.trans (h.2.mono hb.size)⟩
  have E0 := Lib.hid (E 0)
  have E1 := Lib.hid (E 1)
  have S : Hid (shR (bs s) = if (encR 0 (bs s)).2 = 0 ∧ (encR 1 (bs s)).2 = 0 ∧ (encR 1 (bs s)).1.length < (encR 0 (bs s)).1.length then 1 else 0) := Lib.hid rfl
  rw [← enc_err] at S E1
  obtain ⟨a, ha⟩ : ∃ a, a = strN (encR 0 (bs s)).1 := ⟨_, rfl⟩
  obtain ⟨b, hb⟩ : ∃ b, b = strN (encR 1 (bs s)).1 := ⟨_, rfl⟩
  obtain ⟨n, hn⟩ : ∃ n, n = (encR 0 (bs s)).2 := ⟨_, rfl⟩
  have la : a.size = (encR 0 (bs s)).1.length := by rw [ha, strN_size]
  have lb : b.size = (encR 1 (bs s)).1.length := by rw [hb, strN_size]
  rw [← hn, ← la, ← lb] at S
  rw [← ha, ← hn] at E0
  rw [← hb, ← hn] at E1
  clear E he ha hb hn la lb
  by_cases n0 : n = 0
  · by_cases hlt : b.size < a.size
    · have F : Hid (shR (bs s) = 1) := Lib.hid (by rw [S.out, if_pos ⟨n0, n0, hlt⟩])
      subst n0
      clear S
      go_enter Tryd.func25, Tryd.ntmps25
      go_wp2_with (first | (go_at_call 18; ((with_reducible refine (E0.out _ R0.out).mono ?_); rintro e w1 ⟨rfl, hb1⟩; have R0 := Lib.hid hb1; clear hb1)) | (go_at_call 18; ((with_reducible refine (E1.out _ R0.out).mono ?_); rintro e w1 ⟨rfl, hb1⟩; have R0 := Lib.hid hb1; clear hb1)))
      go_ret
      exact ⟨by rw [F.out]; rfl, R0.out⟩
    · have F : Hid (shR (bs s) = 0) := Lib.hid (by rw [S.out, if_neg (fun c => hlt c.2.2)])
      subst n0
      clear S
      go_enter Tryd.func25, Tryd.ntmps25
      go_wp2_with (first | (go_at_call 18; ((with_reducible refine (E0.out _ R0.out).mono ?_); rintro e w1 ⟨rfl, hb1⟩; have R0 := Lib.hid hb1; clear hb1)) | (go_at_call 18; ((with_reducible refine (E1.out _ R0.out).mono ?_); rintro e w1 ⟨rfl, hb1⟩; have R0 := Lib.hid hb1; clear hb1)))
      go_ret
      exact ⟨by rw [F.out]; rfl, R0.out⟩
  · have F : Hid (shR (bs s) = 0) := Lib.hid (by rw [S.out, if_neg (fun c => n0 c.1)])
    have q0 : ((n : Int) != 0) = true := int_neq (by omega)
    have q1 : ((n : Int) == 0) = false := int_ne (by omega)
    clear S
    go_enter Tryd.func25, Tryd.ntmps25
    go_wp2_with (first | (go_at_call 18; ((with_reducible refine (E0.out _ R0.out).mono ?_); rintro e w1 ⟨rfl, hb1⟩; have R0 := Lib.hid hb1; clear hb1)) | (go_at_call 18; ((with_reducible refine (E1.out _ R0.out).mono ?_); rintro e w1 ⟨rfl, hb1⟩; have R0 := Lib.hid hb1; clear hb1)))
    go_ret
    exact ⟨by rw [F.out]; rfl, R0.out⟩
set_option maxHeartbeats 1000000 in
theorem rshort_any (s : ByteArray) (w : World) (hs : s.size ≤ maxLen) :
    Calls Tryd.prog 26 #[.string s] w fun e w' => e = .returned (.int .i64 (shR (bs s) : Int)) ∧ Below w.heap.size w w' := by
  have R0 := Lib.hid (Below.refl w.heap.size w)
  have E : ∀ enc : Int, ∀ w', Below w.heap.size w w' → Calls Tryd.prog 23 #[.string s, .int .i64 enc] w' fun e w'' => e = .returned (.tuple #[.string (strN (encR enc (bs s)).1), .int .i64 ((encR enc (bs s)).2 : Int)]) ∧ Below w.heap.size w w'' := fun enc w' hb => (rEncode_any s enc w' hs).mono fun e w'' h => ⟨h.1, hb.trans (h.2.mono hb.size)⟩
  have E0 := Lib.hid (E 0)
  have E1 := Lib.hid (E 1)
  have S : Hid (shR (bs s) = if (encR 0 (bs s)).2 = 0 ∧ (encR 1 (bs s)).2 = 0 ∧ (encR 1 (bs s)).1.length < (encR 0 (bs s)).1.length then 1 else 0) := Lib.hid rfl
  rw [← enc_err] at S E1
  obtain ⟨a, ha⟩ : ∃ a, a = strN (encR 0 (bs s)).1 := ⟨_, rfl⟩
  obtain ⟨b, hb⟩ : ∃ b, b = strN (encR 1 (bs s)).1 := ⟨_, rfl⟩
  obtain ⟨n, hn⟩ : ∃ n, n = (encR 0 (bs s)).2 := ⟨_, rfl⟩
  have la : a.size = (encR 0 (bs s)).1.length := by rw [ha, strN_size]
  have lb : b.size = (encR 1 (bs s)).1.length := by rw [hb, strN_size]
  rw [← hn, ← la, ← lb] at S
  rw [← ha, ← hn] at E0
  rw [← hb, ← hn] at E1
  clear E ha hb hn la lb
  by_cases n0 : n = 0
  · by_cases hlt : b.size < a.size
    · have F : Hid (shR (bs s) = 1) := Lib.hid (by rw [S.out, if_pos ⟨n0, n0, hlt⟩])
      subst n0
      clear S
      go_enter Tryd.func26, Tryd.ntmps26
      go_wp2_with (first | (go_at_call 23; ((with_reducible refine (E0.out _ R0.out).mono ?_); rintro e w1 ⟨rfl, hb1⟩; have R0 := Lib.hid hb1; clear hb1)) | (go_at_call 23; ((with_reducible refine (E1.out _ R0.out).mono ?_); rintro e w1 ⟨rfl, hb1⟩; have R0 := Lib.hid hb1; clear hb1)))
      go_ret
      exact ⟨by rw [F.out]; rfl, R0.out⟩
    · have F : Hid (shR (bs s) = 0) := Lib.hid (by rw [S.out, if_neg (fun c => hlt c.2.2)])
      subst n0
      clear S
      go_enter Tryd.func26, Tryd.ntmps26
      go_wp2_with (first | (go_at_call 23; ((with_reducible refine (E0.out _ R0.out).mono ?_); rintro e w1 ⟨rfl, hb1⟩; have R0 := Lib.hid hb1; clear hb1)) | (go_at_call 23; ((with_reducible refine (E1.out _ R0.out).mono ?_); rintro e w1 ⟨rfl, hb1⟩; have R0 := Lib.hid hb1; clear hb1)))
      go_ret
      exact ⟨by rw [F.out]; rfl, R0.out⟩
  · have F : Hid (shR (bs s) = 0) := Lib.hid (by rw [S.out, if_neg (fun c => n0 c.1)])
    have q0 : ((n : Int) != 0) = true := int_neq (by omega)
    have q1 : ((n : Int) == 0) = false := int_ne (by omega)
    clear S
    go_enter Tryd.func26, Tryd.ntmps26
    go_wp2_with (first | (go_at_call 23; ((with_reducible refine (E0.out _ R0.out).mono ?_); rintro e w1 ⟨rfl, hb1⟩; have R0 := Lib.hid hb1; clear hb1)) | (go_at_call 23; ((with_reducible refine (E1.out _ R0.out).mono ?_); rintro e w1 ⟨rfl, hb1⟩; have R0 := Lib.hid hb1; clear hb1)))
    go_ret
    exact ⟨by rw [F.out]; rfl, R0.out⟩

set_option maxHeartbeats 1000000 in
theorem encode_card (w : World) (s : ByteArray) (hs : s.size ≤ maxLen) (enc : Int) (hw : (Lit.int .i64 enc).wf = true) (he : Env w) :
    Calls Tryd.prog 10 #[.string s, .int .i64 enc] w fun e w' => e = .returned (.bool true) ∧ Below w.heap.size w w' := by
  have K : Hid (∀ w', Below w.heap.size w w' → Calls Tryd.prog 11 #[] w' fun e w'' => e = .returned (.bool true) ∧ Below w.heap.size w w'') := Lib.hid (fun w' hb => (known_w w' (he.on hb)).mono fun e w'' h => ⟨h.1, hb.trans (h.2.mono hb.size)⟩)
  have R0 := Lib.hid (Below.refl w.heap.size w)
  by_cases h6 : 300 < s.size
  · clear he hw
    unfold maxLen at hs
    go_enter Tryd.func10, Tryd.ntmps10
    go_wp2_with (go_at_call 11; refine (K.out _ R0.out).mono ?_; rintro e w1 ⟨rfl, hb1⟩; have R0 := Lib.hid hb1; clear hb1)
    go_ret
    exact ⟨rfl, R0.out⟩
  · have W1 : Hid (∀ w', Below w.heap.size w w' → Calls Tryd.prog 18 #[.string s, .int .i64 enc] w' fun e w'' => e = .returned (.tuple #[.string (strN (encR enc (bs s)).1), .int .i64 ((encR enc (bs s)).2 : Int)]) ∧ Below w.heap.size w w'') := Lib.hid (fun w' hb => (encode_word s enc w' hs (he.on hb)).mono fun e w'' h => ⟨h.1, hb.trans (h.2.mono hb.size)⟩)
    have W2 : Hid (∀ w', Below w.heap.size w w' → Calls Tryd.prog 23 #[.string s, .int .i64 enc] w' fun e w'' => e = .returned (.tuple #[.string (strN (encR enc (bs s)).1), .int .i64 ((encR enc (bs s)).2 : Int)]) ∧ Below w.heap.size w w'') := Lib.hid (fun w' hb => (rEncode_any s enc w' hs).mono fun e w'' h => ⟨h.1, hb.trans (h.2.mono hb.size)⟩)
    have P1 : Hid (∀ w', Below w.heap.size w w' → Calls Tryd.prog 19 #[.string s] w' fun e w'' => e = .returned (.bool (plain (bs s))) ∧ Below w.heap.size w w'') := Lib.hid (fun w' hb => (plain_any s w' (by omega) (he.on hb)).mono fun e w'' h => ⟨h.1, hb.trans (h.2.mono hb.size)⟩)
    have P2 : Hid (∀ w', Below w.heap.size w w' → Calls Tryd.prog 24 #[.string s] w' fun e w'' => e = .returned (.bool (plain (bs s))) ∧ Below w.heap.size w w'') := Lib.hid (fun w' hb => (rplain_any s w' hs).mono fun e w'' h => ⟨h.1, by rw [← h.2]; exact hb⟩)
    have S1 : Hid (∀ w', Below w.heap.size w w' → Calls Tryd.prog 25 #[.string s] w' fun e w'' => e = .returned (.int .i64 (shR (bs s) : Int)) ∧ Below w.heap.size w w'') := Lib.hid (fun w' hb => (wshort_any s w' hs (he.on hb)).mono fun e w'' h => ⟨h.1, hb.trans (h.2.mono hb.size)⟩)
    have S2 : Hid (∀ w', Below w.heap.size w w' → Calls Tryd.prog 26 #[.string s] w' fun e w'' => e = .returned (.int .i64 (shR (bs s) : Int)) ∧ Below w.heap.size w w'') := Lib.hid (fun w' hb => (rshort_any s w' hs).mono fun e w'' h => ⟨h.1, hb.trans (h.2.mono hb.size)⟩)
    obtain ⟨z, hz⟩ : ∃ z, z = encR enc (bs s) := ⟨_, rfl⟩
    rw [← hz] at W1 W2
    obtain ⟨t, ht⟩ : ∃ t, t = strN z.1 := ⟨_, rfl⟩
    obtain ⟨n, hn⟩ : ∃ n : Int, n = (z.2 : Int) := ⟨_, rfl⟩
    rw [← ht, ← hn] at W1 W2
    obtain ⟨b, hb⟩ : ∃ b, b = plain (bs s) := ⟨_, rfl⟩
    rw [← hb] at P1 P2
    obtain ⟨m, hm⟩ : ∃ m : Int, m = (shR (bs s) : Int) := ⟨_, rfl⟩
    rw [← hm] at S1 S2
    clear he hw hz ht hn hb hm
    unfold maxLen at hs
    go_enter Tryd.func10, Tryd.ntmps10
    go_wp2_with (first | (go_at_call 11; refine (K.out _ R0.out).mono ?_; rintro e w1 ⟨rfl, hb1⟩; have R0 := Lib.hid hb1; clear hb1) | (go_at_call 18; refine (W1.out _ R0.out).mono ?_; rintro e w1 ⟨rfl, hb1⟩; have R0 := Lib.hid hb1; clear hb1) | (go_at_call 23; refine (W2.out _ R0.out).mono ?_; rintro e w1 ⟨rfl, hb1⟩; have R0 := Lib.hid hb1; clear hb1) | (go_at_call 19; refine (P1.out _ R0.out).mono ?_; rintro e w1 ⟨rfl, hb1⟩; have R0 := Lib.hid hb1; clear hb1) | (go_at_call 24; refine (P2.out _ R0.out).mono ?_; rintro e w1 ⟨rfl, hb1⟩; have R0 := Lib.hid hb1; clear hb1) | (go_at_call 25; refine (S1.out _ R0.out).mono ?_; rintro e w1 ⟨rfl, hb1⟩; have R0 := Lib.hid hb1; clear hb1) | (go_at_call 26; refine (S2.out _ R0.out).mono ?_; rintro e w1 ⟨rfl, hb1⟩; have R0 := Lib.hid hb1; clear hb1))
    go_ret
    exact ⟨ret_bool (by simp), R0.out⟩
end Go.Proofs.YtbgggeobpiaamaaDoor
