/- The walk of WordMaximal. -/
import Derived.Test.YtbgggeobpiaamaaDoorKn
import Derived.Test.YtbgggeobpiaamaaDoorRefW
import Derived.Test.YtbgggeobpiaamaaDoorLawRt
import Derived.Test.YtbgggeobpiaamaaDoorMP
namespace Go.Proofs.YtbgggeobpiaamaaDoor
open Go.RowKit
set_option linter.unusedVariables false
set_option maxRecDepth 100000
theorem bs_app (u r : ByteArray) : bs (u ++ r) = bs u ++ bs r := by unfold bs; rw [ByteArray.data_append, Array.toList_append, List.map_append]
theorem bs_eq {u r : ByteArray} (h : bs u = bs r) : u = r := by rw [← strN_bs u, h, strN_bs]
theorem ext_left (u r : ByteArray) : (u ++ r).extract 0 u.size = u := by
  apply bs_eq; rw [bs_to, bs_app, ← bs_length, List.take_left]
theorem ext_right (u r : ByteArray) : (u ++ r).extract u.size (u.size + r.size) = r := by
  rw [← ByteArray.size_append]; apply bs_eq; rw [bs_from, bs_app, ← bs_length, List.drop_left]
theorem add_addr (g i : Nat) : (⟨g, 0, none⟩ : Addr).add i = ⟨g, i, none⟩ := by unfold Addr.add; split <;> simp_all
theorem places_cells {W : World} {P0 g n c : Nat} {A B : Nat → Nat} (HO : W.ownsRow P0 36 2 (.slice (some ⟨g, 0, none⟩) n c) n (plC ((List.range n).map (fun i => (A i, B i))))) :
    ∀ i, i < n → W.cell? ⟨g, i * 2, none⟩ = some (.int .i64 (A i : Int)) ∧ W.cell? ⟨g, i * 2 + 1, none⟩ = some (.int .i64 (B i : Int)) := by
  intro i hi
  have hc := plC_get ((List.range n).map (fun i => (A i, B i))) i (by simpa using hi)
  simp only [List.getElem_map, List.getElem_range] at hc
  have k0 := HO.cells (g := g) rfl (2 * i) _ hc.1
  have k1 := HO.cells (g := g) rfl (2 * i + 1) _ hc.2
  rw [add_addr] at k0 k1
  rw [Nat.mul_comm]
  exact ⟨k0, k1⟩
set_option maxHeartbeats 4000000 in
theorem max_card (w : World) (s : ByteArray) (hs : s.size ≤ maxLen) (q : Bool) (he : Env w) :
    Calls Tryd.prog 6 #[.string s, .bool q] w fun e w' => e = .returned (.bool true) ∧ Below w.heap.size w w' := by
  unfold maxLen at hs
  have K : Hid (∀ w', Below w.heap.size w w' → Calls Tryd.prog 11 #[] w' fun e w'' => e = .returned (.bool true) ∧ Below w.heap.size w w'') := Lib.hid (fun w' hb => (known_w w' (he.on hb)).mono fun e w'' h => ⟨h.1, hb.trans (h.2.mono hb.size)⟩)
  have R0 := Lib.hid (Below.refl w.heap.size w)
  by_cases h6 : 400 < s.size
  · clear he
    go_enter Tryd.func6, Tryd.ntmps6
    go_wp2_with (go_at_call 11; refine (K.out _ R0.out).mono ?_; rintro e w1 ⟨rfl, hb1⟩; have R0 := Lib.hid hb1; clear hb1)
    go_ret
    exact ⟨rfl, R0.out⟩
  · have PL : Hid (∀ w', Below w.heap.size w w' → Calls Tryd.prog 19 #[.string s] w' fun e w'' => e = .returned (.bool (plain (bs s))) ∧ Below w.heap.size w w'') := Lib.hid (fun w' hb => (plain_any s w' (by omega) (he.on hb)).mono fun e w'' h => ⟨h.1, hb.trans (h.2.mono hb.size)⟩)
    obtain ⟨b, hb⟩ : ∃ b, b = plain (bs s) := ⟨_, rfl⟩
    rw [← hb] at PL
    cases b
    rotate_left
    · clear he hb
      go_enter Tryd.func6, Tryd.ntmps6
      go_wp2_with (first | (go_at_call 11; refine (K.out _ R0.out).mono ?_; rintro e w1 ⟨rfl, hb1⟩; have R0 := Lib.hid hb1; clear hb1) | (go_at_call 19; refine (PL.out _ R0.out).mono ?_; rintro e w1 ⟨rfl, hb1⟩; have R0 := Lib.hid hb1; clear hb1))
      go_ret
      exact ⟨rfl, R0.out⟩
    · have E : Hid (∀ w', Below w.heap.size w w' → Calls Tryd.prog 18 #[.string s, .int .i64 (encQ q)] w' fun e w'' => e = .returned (.tuple #[.string (strN (encR (encQ q) (bs s)).1), .int .i64 ((encR (encQ q) (bs s)).2 : Int)]) ∧ Below w.heap.size w w'') := Lib.hid (fun w' hb => (encode_word s (encQ q) w' (by unfold maxLen; omega) (he.on hb)).mono fun e w'' h => ⟨h.1, hb.trans (h.2.mono hb.size)⟩)
      rcases maxP_of (encQ01 q) (s := s) (by omega) hb.symm with h | ⟨t, n, A, B, U, R, h1, ht, M⟩
      · rw [h] at E
        have e1 : strN [] = ⟨#[]⟩ := rfl
        simp only [e1] at E
        clear h e1 he hb
        cases q
        all_goals
          unfold encQ at E
          simp only [if_true, Bool.false_eq_true, if_false] at E
          go_enter Tryd.func6, Tryd.ntmps6
          go_wp2_with (first | (go_at_call 11; refine (K.out _ R0.out).mono ?_; rintro e w1 ⟨rfl, hb1⟩; have R0 := Lib.hid hb1; clear hb1) | (go_at_call 19; refine (PL.out _ R0.out).mono ?_; rintro e w1 ⟨rfl, hb1⟩; have R0 := Lib.hid hb1; clear hb1) | (go_at_call 18; refine (E.out _ R0.out).mono ?_; rintro e w1 ⟨rfl, hb1⟩; have R0 := Lib.hid hb1; clear hb1))
          go_ret
          exact ⟨rfl, R0.out⟩
      · rw [h1] at E
        simp only [strN_bs] at E
        have FN : Hid (∀ w', Below w.heap.size w w' → Calls Tryd.prog 16 #[.string t] w' fun e w'' => ∃ g c, e = .returned (.slice (some ⟨g, 0, none⟩) n c) ∧ w''.ownsRow w'.heap.size 36 2 (.slice (some ⟨g, 0, none⟩) n c) n (plC ((List.range n).map (fun i => (A i, B i)))) ∧ Below w.heap.size w w'') := Lib.hid (fun w' hb => (find_any t w' (by omega) (he.on hb)).mono fun e w'' h => by
          obtain ⟨v, rfl, ho, hb2⟩ := h
          rw [M.find] at ho
          have hlen : ((List.range n).map (fun i => (A i, B i))).length = n := by simp
          rw [hlen] at ho
          rcases ho.2 with ⟨rfl, h0⟩ | ⟨g, c2, cur, rfl, _⟩
          · exact absurd h0 (by have := M.pos; omega)
          · exact ⟨g, c2, rfl, ho, hb.trans (hb2.mono hb.size)⟩)
        have PP : Hid (∀ i, i < n → ∀ w', Below w.heap.size w w' → Calls Tryd.prog 20 #[.string (t.extract (A i) (B i))] w' fun e w'' => e = .returned (.tuple #[.string (U i), .int .i64 (encQ q), .int .i64 0]) ∧ Below w'.heap.size w' w'') := Lib.hid (fun i hi w' hb => (parse_any (t.extract (A i) (B i)) w' (by rw [ByteArray.size_extract]; omega) (he.on hb)).mono fun e w'' h => by
          obtain ⟨ha, hc⟩ := h
          rw [bs_extract, show ((bs t).take (B i)).drop (A i) = cut (bs t) (A i) (B i) from rfl, M.parse i hi, strN_bs] at ha
          refine ⟨?_, hc⟩
          rw [ha]; cases q <;> rfl)
        have WW : Hid (∀ i, i < n → (R (i + 1)).size ≠ 0 → ∀ w', Below w.heap.size w w' → Calls Tryd.prog 12 #[.string (U i ++ (R (i + 1)).extract 0 (rn (bs (R (i + 1))))), .int .i64 (encQ q)] w' fun e w'' => e = .returned (.tuple #[.string ⟨#[]⟩, .int .i64 5]) ∧ Below w'.heap.size w' w'') := Lib.hid (fun i hi hr w' hb => by
          have hsz : ∀ k, k ≤ n → (R k).size ≤ s.size := by
            intro k
            induction k with
            | zero => intro _; rw [M.first]; exact Nat.le_refl _
            | succ k ih =>
              intro hk
              have h1 := ih (by omega)
              have h2 := congrArg ByteArray.size (M.rest k (by omega))
              rw [ByteArray.size_append] at h2
              omega
          have z1 := hsz i (by omega)
          have z2 := congrArg ByteArray.size (M.rest i hi)
          rw [ByteArray.size_append] at z2
          refine (word_any (U i ++ (R (i + 1)).extract 0 (rn (bs (R (i + 1))))) (encQ q) w' (by rw [ByteArray.size_append, ByteArray.size_extract]; omega) (he.on hb).tab).mono fun e w'' h => ?_
          obtain ⟨ha, hc⟩ := h
          refine ⟨?_, hc⟩
          rw [ha]
          have hbb : bs (U i ++ (R (i + 1)).extract 0 (rn (bs (R (i + 1))))) = bs (U i) ++ (bs (R (i + 1))).take (rn (bs (R (i + 1)))) := by
            rw [bs_app, bs_to]
          rw [hbb, M.most i hi hr]
          rfl)
        have RS : Hid (∀ k, k ≤ n → (R k).size ≤ s.size) := Lib.hid (by
            intro k
            induction k with
            | zero => intro _; rw [M.first]; exact Nat.le_refl _
            | succ k ih =>
              intro hk
              have h1 := ih (by omega)
              have h2 := congrArg ByteArray.size (M.rest k (by omega))
              rw [ByteArray.size_append] at h2
              omega)
        have MM := Lib.hid M
        have npos := M.pos
        have hnl : n ≤ 10001 := by
          have := findR_len (bs t)
          rw [M.find, bs_length] at this
          simp at this
          omega
        have FST : Hid (Value.string s = .string (R 0)) := Lib.hid (by rw [M.first])
        clear h1 hb he M
        cases q
        all_goals
          unfold encQ at E PP WW
          simp only [if_true, Bool.false_eq_true, if_false] at E PP WW
          go_enter Tryd.func6, Tryd.ntmps6
          go_wp2_with (first | (go_at_call 11; refine (K.out _ R0.out).mono ?_; rintro e w1 ⟨rfl, hb1⟩; have R0 := Lib.hid hb1; clear hb1) | (go_at_call 19; refine (PL.out _ R0.out).mono ?_; rintro e w1 ⟨rfl, hb1⟩; have R0 := Lib.hid hb1; clear hb1) | (go_at_call 18; refine (E.out _ R0.out).mono ?_; rintro e w1 ⟨rfl, hb1⟩; have R0 := Lib.hid hb1; clear hb1))
          refine (FN.out _ R0.out).mono ?_
          rintro e w2 ⟨g, c, rfl, hown, hb2⟩
          obtain ⟨P0, hP0⟩ : ∃ P0, P0 = w1.heap.size := ⟨_, rfl⟩
          rw [← hP0] at hown
          have z2 := hb2.size
          have hP2 : w.heap.size ≤ P0 := by rw [hP0]; exact R0.out.size
          have OW := Lib.hid hown; have BB := Lib.hid hb2
          clear hown hb2 hP0 R0
          go_wp2_with fail
          go_loopg [9, 10] n (fun k r i wr => ∃ j : Nat, j ≤ n ∧ k = n - j ∧ i = .int .i64 (j : Int) ∧ r = .string (R j) ∧ Hid (wr.ownsRow P0 36 2 (.slice (some ⟨g, 0, none⟩) n c) n (plC ((List.range n).map (fun i => (A i, B i))))) ∧ Hid (Below w.heap.size w wr))
          case atStart => exact ⟨0, by omega, rfl, rfl, FST.out, OW, BB⟩
          case round =>
            obtain ⟨j, hj, rfl, rfl, rfl, HO, HB⟩ := hrel
            clear OW BB FST
            have PG := Lib.hid (places_cells HO.out)
            by_cases h : j < n
            · obtain ⟨k0, k1⟩ := PG.out j h
              obtain ⟨l1, l2, l3⟩ := MM.out.le j h
              have hre := MM.out.rest j h
              have P1 := Lib.hid (PP.out j h)
              have W1 := Lib.hid (WW.out j h)
              have RU := Lib.hid (fun w => rune_any (R (j + 1)) w (by have := RS.out (j + 1) (by omega); unfold maxLen; omega))
              have rsz := RS.out j hj
              have exl := ext_left (U j) (R (j + 1))
              have exr := ext_right (U j) (R (j + 1))
              obtain ⟨u, hu⟩ : ∃ u, u = U j := ⟨_, rfl⟩
              obtain ⟨r1, hr1⟩ : ∃ r, r = R (j + 1) := ⟨_, rfl⟩
              obtain ⟨rj, hrj⟩ : ∃ r, r = R j := ⟨_, rfl⟩
              have hsz := congrArg ByteArray.size hre
              rw [ByteArray.size_append] at hsz
              rw [← hre] at exl exr
              simp only [← hu, ← hr1, ← hrj] at P1 W1 RU exl exr hsz rsz ⊢
              obtain ⟨a, ha⟩ : ∃ a, a = A j := ⟨_, rfl⟩
              obtain ⟨b, hb⟩ : ∃ b, b = B j := ⟨_, rfl⟩
              rw [← ha] at k0 l1 l3
              rw [← hb] at k1 l1 l2 l3
              rw [← ha, ← hb] at P1
              have HRR := Lib.hid hr1; have HAA := Lib.hid ha; have HBB := Lib.hid hb
              have eqn : (rj.extract 0 u.size).toList = u.toList := by rw [exl]
              have hrn : rn (bs r1) ≤ r1.size := by have := (rn_le (bs r1)).1; rwa [bs_length] at this
              clear hre hu hr1 hrj ha hb
              go_wp2_with fail
              go_quiet (fail)
              have HO2 : Hid ((wr.drewN nq).ownsRow P0 36 2 (.slice (some ⟨g, 0, none⟩) n c) n (plC ((List.range n).map (fun i => (A i, B i))))) := HO
              have HB2 : Hid (Below w.heap.size w (wr.drewN nq)) := Lib.hid (HB.out.trans ((Dr.below ⟨nq, rfl⟩).mono HB.out.size))
              clear k0 k1 HO HB PG
              generalize wr.drewN nq = wq at *
              go_wp2_with fail
              refine (P1.out wq HB2.out).mono ?_
              rintro e w5 ⟨rfl, hb5⟩
              have HO5 := Lib.hid (owns_below HO2.out hb5)
              have HB5 : Hid (Below w.heap.size w w5) := Lib.hid (HB2.out.trans (hb5.mono HB2.out.size))
              clear hb5 HO2 HB2 P1
              by_cases r0 : r1.size = 0
              · obtain rfl := str_emp r0
                go_wp2_with fail
                by_cases j0 : j = 0
                · subst j0
                  go_wp2_with fail
                  go_quiet (fail)
                  have HO7 : Hid ((w5.drewN nq).ownsRow P0 36 2 (.slice (some ⟨g, 0, none⟩) n c) n (plC ((List.range n).map (fun i => (A i, B i))))) := HO5
                  have HB7 : Hid (Below w.heap.size w (w5.drewN nq)) := Lib.hid (HB5.out.trans ((Dr.below ⟨nq, rfl⟩).mono HB5.out.size))
                  clear HO5 HB5
                  generalize w5.drewN nq = wq7 at *
                  go_wp2_with fail
                  go_roundg (n - (0 + 1))
                  case measure => omega
                  case rel => exact ⟨0 + 1, by omega, rfl, by go_num, congrArg Value.string HRR.out, HO7, HB7⟩
                · obtain ⟨i, rfl⟩ : ∃ i, j = i + 1 := ⟨j - 1, by omega⟩
                  have c1 := (places_cells HO5.out (i + 1) h).1
                  have c2 := (places_cells HO5.out i (by omega)).2
                  rw [← HAA.out] at c1
                  have hnx := MM.out.next i h
                  rw [← HAA.out] at hnx
                  obtain ⟨bb, hbb⟩ : ∃ bb, bb = B i := ⟨_, rfl⟩
                  rw [← hbb] at c2 hnx
                  subst hnx
                  clear hbb j0
                  go_wp2_with fail
                  go_quiet (fail)
                  have HO7 : Hid ((w5.drewN nq).ownsRow P0 36 2 (.slice (some ⟨g, 0, none⟩) n c) n (plC ((List.range n).map (fun i => (A i, B i))))) := HO5
                  have HB7 : Hid (Below w.heap.size w (w5.drewN nq)) := Lib.hid (HB5.out.trans ((Dr.below ⟨nq, rfl⟩).mono HB5.out.size))
                  clear HO5 HB5
                  generalize w5.drewN nq = wq7 at *
                  go_wp2_with fail
                  go_roundg (n - (i + 1 + 1))
                  case measure => omega
                  case rel => exact ⟨i + 1 + 1, by omega, rfl, by go_num, congrArg Value.string HRR.out, HO7, HB7⟩
              · have n0 := str_ne r0
                go_wp2_with (first | (go_at_call 21; refine (RU.out _).mono ?_; rintro e w' ⟨rfl, rfl⟩) | (go_at_call 12; refine (W1.out r0 w5 HB5.out).mono ?_; rintro e w6 ⟨rfl, hb6⟩))
                have HO6 := Lib.hid (owns_below HO5.out hb6)
                have HB6 : Hid (Below w.heap.size w w6) := Lib.hid (HB5.out.trans (hb6.mono HB5.out.size))
                clear hb6 HO5 HB5 W1 RU
                by_cases j0 : j = 0
                · subst j0
                  go_wp2_with fail
                  go_quiet (fail)
                  have HO7 : Hid ((w6.drewN nq).ownsRow P0 36 2 (.slice (some ⟨g, 0, none⟩) n c) n (plC ((List.range n).map (fun i => (A i, B i))))) := HO6
                  have HB7 : Hid (Below w.heap.size w (w6.drewN nq)) := Lib.hid (HB6.out.trans ((Dr.below ⟨nq, rfl⟩).mono HB6.out.size))
                  clear HO6 HB6
                  generalize w6.drewN nq = wq7 at *
                  go_wp2_with fail
                  go_roundg (n - (0 + 1))
                  case measure => omega
                  case rel => exact ⟨0 + 1, by omega, rfl, by go_num, congrArg Value.string HRR.out, HO7, HB7⟩
                · obtain ⟨i, rfl⟩ : ∃ i, j = i + 1 := ⟨j - 1, by omega⟩
                  have c1 := (places_cells HO6.out (i + 1) h).1
                  have c2 := (places_cells HO6.out i (by omega)).2
                  rw [← HAA.out] at c1
                  have hnx := MM.out.next i h
                  rw [← HAA.out] at hnx
                  obtain ⟨bb, hbb⟩ : ∃ bb, bb = B i := ⟨_, rfl⟩
                  rw [← hbb] at c2 hnx
                  subst hnx
                  clear hbb j0
                  go_wp2_with fail
                  go_quiet (fail)
                  have HO7 : Hid ((w6.drewN nq).ownsRow P0 36 2 (.slice (some ⟨g, 0, none⟩) n c) n (plC ((List.range n).map (fun i => (A i, B i))))) := HO6
                  have HB7 : Hid (Below w.heap.size w (w6.drewN nq)) := Lib.hid (HB6.out.trans ((Dr.below ⟨nq, rfl⟩).mono HB6.out.size))
                  clear HO6 HB6
                  generalize w6.drewN nq = wq7 at *
                  go_wp2_with fail
                  go_roundg (n - (i + 1 + 1))
                  case measure => omega
                  case rel => exact ⟨i + 1 + 1, by omega, rfl, by go_num, congrArg Value.string HRR.out, HO7, HB7⟩
            · obtain rfl : j = n := by omega
              have rdone := MM.out.done
              have hst := MM.out.start
              have hla := MM.out.last
              obtain ⟨m, rfl⟩ : ∃ m, j = m + 1 := ⟨j - 1, by omega⟩
              have c1 := (PG.out 0 (by omega)).1
              have c2 := (PG.out m (by omega)).2
              rw [hst] at c1
              rw [show m + 1 - 1 = m by omega] at hla
              rw [hla] at c2
              rw [rdone]
              clear PG hst hla rdone HO
              go_wp2_with fail
              go_ret
              exact ⟨rfl, HB.out⟩
end Go.Proofs.YtbgggeobpiaamaaDoor
