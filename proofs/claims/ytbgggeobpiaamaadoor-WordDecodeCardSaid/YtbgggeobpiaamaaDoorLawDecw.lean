/- The walk of WordDecode. -/
import Derived.Test.YtbgggeobpiaamaaDoorKn
import Derived.Test.YtbgggeobpiaamaaDoorRefG
namespace Go.Proofs.YtbgggeobpiaamaaDoor
open Go.RowKit
set_option linter.unusedVariables false
set_option maxRecDepth 100000
theorem row_cells {W : World} {B t g n c : Nat} {ps : List (Nat × Nat)} (HO : W.ownsRow B t 2 (.slice (some ⟨g, 0, none⟩) n c) n (plC ps)) {j : Nat} (hj : j < ps.length) :
    W.cell? ⟨g, j * 2, none⟩ = some (.int .i64 ((ps[j].1 : Nat) : Int)) ∧ W.cell? ⟨g, j * 2 + 1, none⟩ = some (.int .i64 ((ps[j].2 : Nat) : Int)) := by
  have hc := plC_get ps j hj
  have k0 := HO.cells (g := g) rfl (2 * j) _ hc.1
  have k1 := HO.cells (g := g) rfl (2 * j + 1) _ hc.2
  rw [add_addr] at k0 k1
  rw [Nat.mul_comm]
  exact ⟨k0, k1⟩
theorem own_form {W : World} {B t n : Nat} {v : Value} {xs : List Value} (h : W.ownsRow B t 2 v n xs) : ∃ a c, v = .slice a n c ∧ (0 < n → ∃ g, a = some ⟨g, 0, none⟩) := by
  rcases h.2 with ⟨rfl, h0⟩ | ⟨g, c2, cur, rfl, _⟩
  · exact ⟨none, 0, by rw [h0], fun h => by omega⟩
  · exact ⟨_, c2, rfl, fun _ => ⟨g, rfl⟩⟩
set_option maxHeartbeats 4000000 in
theorem wdecode_card (w : World) (s : ByteArray) (hs : s.size ≤ maxLen) (he : Env w) :
    Calls Tryd.prog 4 #[.string s] w fun e w' => e = .returned (.bool true) ∧ Below w.heap.size w w' := by
  have K : Hid (∀ w', Below w.heap.size w w' → Calls Tryd.prog 11 #[] w' fun e w'' => e = .returned (.bool true) ∧ Below w.heap.size w w'') := Lib.hid (fun w' hb => (known_w w' (he.on hb)).mono fun e w'' h => ⟨h.1, hb.trans (h.2.mono hb.size)⟩)
  have R0 := Lib.hid (Below.refl w.heap.size w)
  by_cases h6 : 400 < s.size
  · clear he
    unfold maxLen at hs
    go_enter Tryd.func4, Tryd.ntmps4
    go_wp2_with (go_at_call 11; refine (K.out _ R0.out).mono ?_; rintro e w1 ⟨rfl, hb1⟩; have R0 := Lib.hid hb1; clear hb1)
    go_ret
    exact ⟨rfl, R0.out⟩
  · have W1 : Hid (∀ w', Below w.heap.size w w' → Calls Tryd.prog 14 #[.string s] w' fun e w'' => e = .returned (.tuple #[.string (strN (decR (bs s)).1), .int .i64 ((decR (bs s)).2 : Int)]) ∧ Below w.heap.size w w'') := Lib.hid (fun w' hb => (decode_word s w' hs (he.on hb)).mono fun e w'' h => ⟨h.1, hb.trans (h.2.mono hb.size)⟩)
    have W2 : Hid (∀ w', Below w.heap.size w w' → Calls Tryd.prog 15 #[.string s] w' fun e w'' => e = .returned (.tuple #[.string (strN (decR (bs s)).1), .int .i64 ((decR (bs s)).2 : Int)]) ∧ Below w.heap.size w w'') := Lib.hid (fun w' hb => (rDecode_any s w' (by omega)).mono fun e w'' h => ⟨h.1, hb.trans (h.2.mono hb.size)⟩)
    have F1 : Hid (∀ w', Below w.heap.size w w' → Calls Tryd.prog 16 #[.string s] w' fun e w'' => ∃ v, e = .returned v ∧ w''.ownsRow w'.heap.size 36 2 v (findR (bs s)).length (plC (findR (bs s))) ∧ Below w'.heap.size w' w'') := Lib.hid (fun w' hb => find_any s w' (by omega) (he.on hb))
    have F2 : Hid (∀ w', Calls Tryd.prog 17 #[.string s] w' fun e w'' => ∃ v, e = .returned v ∧ w''.ownsRow w'.heap.size 37 2 v (findR (bs s)).length (plC (findR (bs s))) ∧ Below w'.heap.size w' w'') := Lib.hid (fun w' => rFind_any s w' (by omega))
    obtain ⟨z, hz⟩ : ∃ z, z = decR (bs s) := ⟨_, rfl⟩
    rw [← hz] at W1 W2
    obtain ⟨t, ht⟩ : ∃ t, t = strN z.1 := ⟨_, rfl⟩
    obtain ⟨no, hno⟩ : ∃ n : Int, n = (z.2 : Int) := ⟨_, rfl⟩
    rw [← ht, ← hno] at W1 W2
    have hln := findR_len (bs s)
    obtain ⟨ps, hps⟩ : ∃ ps, ps = findR (bs s) := ⟨_, rfl⟩
    rw [← hps] at F1 F2 hln
    rw [bs_length] at hln
    obtain ⟨n, hn⟩ : ∃ n, n = ps.length := ⟨_, rfl⟩
    rw [← hn] at F1 F2 hln
    have HN := Lib.hid hn
    have tq : (t.toList == t.toList) = true := by simp
    clear he hz ht hno hps hn
    unfold maxLen at hs
    go_enter Tryd.func4, Tryd.ntmps4
    go_wp2_with (first | (go_at_call 11; refine (K.out _ R0.out).mono ?_; rintro e w1 ⟨rfl, hb1⟩; have R0 := Lib.hid hb1; clear hb1) | (go_at_call 14; refine (W1.out _ R0.out).mono ?_; rintro e w1 ⟨rfl, hb1⟩; have R0 := Lib.hid hb1; clear hb1) | (go_at_call 15; refine (W2.out _ R0.out).mono ?_; rintro e w1 ⟨rfl, hb1⟩; have R0 := Lib.hid hb1; clear hb1))
    refine (F1.out _ R0.out).mono ?_
    rintro e w2 ⟨v, rfl, ho1, hb2⟩
    obtain ⟨P1, hP1⟩ : ∃ P1, P1 = w1.heap.size := ⟨_, rfl⟩
    rw [← hP1] at ho1
    have B2 : Hid (Below w.heap.size w w2) := Lib.hid (R0.out.trans (hb2.mono R0.out.size))
    obtain ⟨a, c, rfl, hag⟩ := own_form ho1
    have O1 := Lib.hid ho1; have HA := Lib.hid hag
    clear hb2 hP1 ho1 hag
    go_wp2_with fail
    refine (F2.out _).mono ?_
    rintro e w3 ⟨v, rfl, ho2, hb3⟩
    have O13 := Lib.hid (owns_below O1.out hb3)
    obtain ⟨P2, hP2⟩ : ∃ P2, P2 = w2.heap.size := ⟨_, rfl⟩
    rw [← hP2] at ho2
    have B3 : Hid (Below w.heap.size w w3) := Lib.hid (B2.out.trans (hb3.mono B2.out.size))
    obtain ⟨a2, c2, rfl, hag⟩ := own_form ho2
    have O2 := Lib.hid ho2; have HA2 := Lib.hid hag
    clear hb3 hP2 ho2 hag B2 O1
    go_wp2_with fail
    go_loopg [9] n (fun k v9 wr => ∃ j : Nat, j ≤ n ∧ k = n - j ∧ v9 = .int .i64 (j : Int) ∧ Hid (wr.ownsRow P1 36 2 (.slice a n c) n (plC ps)) ∧ Hid (wr.ownsRow P2 37 2 (.slice a2 n c2) n (plC ps)) ∧ Hid (Below w.heap.size w wr))
    case atStart => exact ⟨0, by omega, rfl, rfl, O13, O2, B3⟩
    case round =>
      obtain ⟨j, hj, rfl, rfl, H1, H2, HB⟩ := hrel
      clear O13 O2 B3
      by_cases hlt : j < n
      · obtain ⟨g, rfl⟩ := HA.out (by omega)
        obtain ⟨g2, rfl⟩ := HA2.out (by omega)
        have hjp : j < ps.length := by rw [← HN.out]; exact hlt
        obtain ⟨k0, k1⟩ := row_cells H1.out hjp
        obtain ⟨l0, l1⟩ := row_cells H2.out hjp
        obtain ⟨x, hx⟩ : ∃ x, x = ps[j] := ⟨_, rfl⟩
        rw [← hx] at k0 k1 l0 l1
        have ib1 : (0 : Int) ≤ (j : Int) := by omega
        have ib2 : (j : Int) < (n : Int) := by omega
        clear hx
        go_wp2_with fail
        go_quiet (fail)
        have H12 : Hid ((wr.drewN nq).ownsRow P1 36 2 (.slice (some ⟨g, 0, none⟩) n c) n (plC ps)) := H1
        have H22 : Hid ((wr.drewN nq).ownsRow P2 37 2 (.slice (some ⟨g2, 0, none⟩) n c2) n (plC ps)) := H2
        have HB2 : Hid (Below w.heap.size w (wr.drewN nq)) := Lib.hid (HB.out.trans ((Dr.below ⟨nq, rfl⟩).mono HB.out.size))
        clear k0 k1 l0 l1 H1 H2 HB
        generalize wr.drewN nq = wq at *
        go_wp2_with fail
        go_roundg (n - (j + 1))
        case measure => omega
        case rel => exact ⟨j + 1, by omega, rfl, by go_num, H12, H22, HB2⟩
      · go_wp2_with fail
        go_ret
        exact ⟨rfl, HB.out⟩
end Go.Proofs.YtbgggeobpiaamaaDoor
