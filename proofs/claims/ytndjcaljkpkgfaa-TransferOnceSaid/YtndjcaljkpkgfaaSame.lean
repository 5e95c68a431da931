/- same, Reset, Clone, Equal. -/
import Derived.Test.YtndjcaljkpkgfaaCmds
namespace Go.Proofs.Ytndjcaljkpkgfaa
open Go.RowKit Go.Maps
set_option linter.unusedVariables false

theorem from_q (w : World) {B b n : Nat} {l xs : List Nat} {d : Bool} {v : Value} (h : Rc w B b l n xs d v) {k : Nat} (hk : k = xs.length) (q : Nat) : Calls Try.prog 12 #[.pointer (some ⟨b, 0, none⟩)] (w.drewN q) fun e w' => e = .returned (.int .i64 (k : Int)) ∧ w' = w.drewN q := by
  rw [hk]; exact (from_any _ (h.drewN q)).mono fun e w' ⟨h1, h2⟩ => ⟨h1, h2.symm⟩
theorem complete_q (w : World) {B b n : Nat} {l xs : List Nat} {d : Bool} {v : Value} (h : Rc w B b l n xs d v) (hl : l.length = 32) (q : Nat) : Calls Try.prog 25 #[.pointer (some ⟨b, 0, none⟩)] (w.drewN q) fun e w' => e = .returned (.bool d) ∧ w' = w.drewN q :=
  (complete_any _ (h.drewN q) hl).mono fun e w' ⟨h1, h2⟩ => ⟨h1, h2.symm⟩

theorem FrB.trans' {b : Nat} {v : Value} {w w1 w2 : World} (h : FrB b v w w1) (h2 : FrB b v w1 w2) : FrB b v w w2 := h.trans h2 (.inl rfl)
theorem FrB.drewN {b : Nat} {v : Value} {w w' : World} (h : FrB b v w w') (n : Nat) : FrB b v w (w'.drewN n) := ⟨h.1, h.2, h.3, h.4, h.5⟩
theorem FrB.block {b : Nat} {v : Value} {w w' : World} (h : FrB b v w w') {k : Nat} {o : Obj} (hk : w.heap[k]? = some o) (h1 : k ≠ b) (h2 : v.ownBlock ≠ some k) : w'.heap[k]? = some o := (h.other k (lt_of_block hk) h1 h2).trans hk

set_option maxHeartbeats 1000000 in
theorem same_no (w : World) {B b n : Nat} {l xs : List Nat} {v : Value} (h : Rc w B b l n xs false v) (hl : l.length = 32) (hn : n ≤ 65536) (hx : xs.length ≤ n) :
    Calls Try.prog 17 #[.pointer (some ⟨b, 0, none⟩), .agg (rC l n (strN xs) false)] w fun e w' => e = .returned (.bool true) ∧ Rc w' B b l n xs false v ∧ FrB b v w w' := by
  have b1 : Below w.heap.size w (w.alloc (.cells (rC l n (strN xs) false) 41)) := (Below.refl _ _).alloc (Nat.le_refl _) _
  have h1 := h.below b1
  have r33 := (r_at hl n (strN xs) false).2.1
  have r34 := (r_at hl n (strN xs) false).2.2
  have C1 := Lib.hid (text_no _ h1 hl)
  obtain ⟨k, hk⟩ : ∃ k, k = xs.length := ⟨_, rfl⟩
  have hsz : (strN xs).size = k := by rw [strN_size, hk]
  have FQ := Lib.hid (from_q _ h1 hk); have CQ := Lib.hid (complete_q _ h1 hl)
  have hk6 : k ≤ 65536 := by omega
  have H1 := Lib.hid h1; have B1 := Lib.hid b1
  clear h h1 b1 hk hx
  go_enter Try.func17, Try.ntmps17
  go_wp2_with (go_at_call 13; refine C1.out.mono ?_; rintro e w7 ⟨rfl, hw7⟩; subst hw7)
  go_quiet (first | (go_at_call 12; exact Calls.quiet_of_same (FQ.out _)) | (go_at_call 25; exact Calls.quiet_of_same (CQ.out _)))
  go_wp2_with fail
  go_ret
  exact ⟨by simp, H1.out.drewN nq, (FrB.of_below B1.out).drewN nq⟩

set_option maxHeartbeats 1000000 in
theorem same_yes (w : World) {B b n : Nat} {l xs : List Nat} {v : Value} (h : Rc w B b l n xs true v) (hl : l.length = 32) (hn : n ≤ 65536) (hx : xs.length ≤ n) (h256 : ∀ x ∈ xs, x < 256) :
    Calls Try.prog 17 #[.pointer (some ⟨b, 0, none⟩), .agg (rC l n (strN xs) true)] w fun e w' => e = .returned (.bool true) ∧ Rc w' B b l n xs true v ∧ FrB b v w w' := by
  have b1 : Below w.heap.size w (w.alloc (.cells (rC l n (strN xs) true) 41)) := (Below.refl _ _).alloc (Nat.le_refl _) _
  have h1 := h.below b1
  have r33 := (r_at hl n (strN xs) true).2.1
  have r34 := (r_at hl n (strN xs) true).2.2
  have C1 := Lib.hid (text_yes _ h1 hl h256 (by omega))
  obtain ⟨k, hk⟩ : ∃ k, k = xs.length := ⟨_, rfl⟩
  have hsz : (strN xs).size = k := by rw [strN_size, hk]
  have hk6 : k ≤ 65536 := by omega
  have hnb : w.heap.size ≠ b := by have := h.lt; omega
  have hno : v.ownBlock ≠ some w.heap.size := by
    obtain ⟨ad, h⟩ := h
    intro e
    rcases h.row.2 with ⟨rfl, _⟩ | ⟨g, cap, cur, fz, rfl, hg, hh, _⟩
    · simp [Value.ownBlock] at e
    · simp [Value.ownBlock] at e
      have := lt_of_block hh
      omega
  have HA : Hid ((w.alloc (.cells (rC l n (strN xs) true) 41)).heap[w.heap.size]? = some (.cells (rC l n (strN xs) true) 41 (0, 0))) := Lib.hid (heap_alloc_new w _)
  have B1 := Lib.hid b1; have HK := Lib.hid hk
  clear h h1 b1 hk hx
  go_enter Try.func17, Try.ntmps17
  go_wp2_with fail
  refine C1.out.mono ?_
  rintro e w2 ⟨rfl, hr2, hf2⟩
  have A2 := hf2.block HA.out hnb hno
  have c33 := (cellB A2 33).trans r33
  have c34 := (cellB A2 34).trans r34
  have FQ := Lib.hid (from_q _ hr2 HK.out); have CQ := Lib.hid (complete_q _ hr2 hl)
  have R2 := Lib.hid hr2; have F2 := Lib.hid hf2
  clear hr2 hf2 A2 HA C1 r33 r34 hno hnb
  go_wp2_with fail
  go_quiet (first | (go_at_call 12; exact Calls.quiet_of_same (FQ.out _)) | (go_at_call 25; exact Calls.quiet_of_same (CQ.out _)))
  go_wp2_with fail
  go_ret
  exact ⟨by simp, R2.out.drewN nq, ((FrB.of_below B1.out).trans' F2.out).drewN nq⟩

theorem same_any (w : World) {B b n : Nat} {l xs : List Nat} {d : Bool} {v : Value} (h : Rc w B b l n xs d v) (hl : l.length = 32) (hn : n ≤ 65536) (hx : xs.length ≤ n) (h256 : ∀ x ∈ xs, x < 256) :
    Calls Try.prog 17 #[.pointer (some ⟨b, 0, none⟩), .agg (rC l n (strN xs) d)] w fun e w' => e = .returned (.bool true) ∧ Rc w' B b l n xs d v ∧ FrB b v w w' := by
  cases d with
  | false => exact same_no w h hl hn hx
  | true => exact same_yes w h hl hn hx h256

end Go.Proofs.Ytndjcaljkpkgfaa
