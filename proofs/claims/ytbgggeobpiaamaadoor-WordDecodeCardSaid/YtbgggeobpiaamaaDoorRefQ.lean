/- The reference: Parse. -/
import Derived.Test.YtbgggeobpiaamaaDoorRefP
import Derived.Test.YtbgggeobpiaamaaDoorParse
import Derived.Test.YtbgggeobpiaamaaDoorAP
namespace Go.Proofs.YtbgggeobpiaamaaDoor
open Go.RowKit
set_option linter.unusedVariables false
set_option maxRecDepth 100000
theorem low63 (c : Nat) : low c = 63 ↔ c = 63 := by
  constructor
  · intro h; unfold low at h; split at h <;> omega
  · rintro rfl; rfl
theorem lows_iff {l : List Nat} {q : Bool} (h : 12 ≤ l.length) : lows (l.take 10) = lows (startF q) ↔ (∀ i, i < 8 → low (l.getD i 0) = pre8.getD i 0) ∧ low (l.getD 8 0) = (if q = true then 113 else 98) ∧ l.getD 9 0 = 63 := by
  have e : lows (l.take 10) = lows (startF q) ↔ ∀ i, i < 10 → low (l.getD i 0) = (lows (startF q)).getD i 0 := by
    have hl : (lows (l.take 10)).length = 10 := by unfold lows; rw [List.length_map, List.length_take]; omega
    have hs : (lows (startF q)).length = 10 := by unfold lows; rw [List.length_map, startF_len]
    have g : ∀ i, i < 10 → (lows (l.take 10)).getD i 0 = low (l.getD i 0) := by
      intro i hi
      unfold lows
      rw [← getD_take (l := l) hi]; simp [List.getD, show i < l.length by omega, hi]
    constructor
    · intro h i hi; rw [← g i hi, h]
    · intro h
      apply List.ext_getElem (by rw [hl, hs])
      intro i h1 h2
      have := h i (by omega)
      rw [← g i (by omega)] at this
      simpa [List.getD, h1, h2] using this
  rw [e]
  have k : ∀ i, i < 8 → (lows (startF q)).getD i 0 = pre8.getD i 0 := by
    have : ∀ i : Fin 8, (lows (startF q)).getD i.val 0 = pre8.getD i.val 0 := by cases q <;> decide
    exact fun i h => this ⟨i, h⟩
  have k8 : (lows (startF q)).getD 8 0 = (if q = true then 113 else 98) := by cases q <;> decide
  have k9 : (lows (startF q)).getD 9 0 = 63 := by cases q <;> decide
  constructor
  · intro h
    refine ⟨fun i hi => by rw [h i (by omega), k i hi], by rw [h 8 (by omega), k8], ?_⟩
    have := h 9 (by omega)
    rw [k9] at this
    exact (low63 _).1 this
  · rintro ⟨a, b, c⟩ i hi
    rcases (by omega : i < 8 ∨ i = 8 ∨ i = 9) with h | rfl | rfl
    · rw [a i h, k i h]
    · rw [b, k8]
    · rw [c, k9]; rfl
theorem framed_iff {l : List Nat} {q : Bool} (h : 12 ≤ l.length) : framed q l = true ↔ l.drop (l.length - 2) = [63, 61] ∧ l.getD 9 0 = 63 ∧ (∀ i, i < 8 → low (l.getD i 0) = pre8.getD i 0) ∧ low (l.getD 8 0) = (if q = true then 113 else 98) := by
  unfold framed
  simp only [Bool.and_eq_true, decide_eq_true_eq]
  rw [lows_iff h]
  constructor
  · rintro ⟨⟨_, a, b, c⟩, d⟩; exact ⟨d, c, a, b⟩
  · rintro ⟨d, c, a, b⟩; exact ⟨⟨h, a, b, c⟩, d⟩
theorem parse_un {l : List Nat} (h75 : ¬ 75 < l.length) (h : ∀ q, framed q l = false) : parseR l = ([], 0, 3) := parse_none h75 (tryW_none (h false)) (tryW_none (h true))
theorem pre_lit (j : Nat) (h : j < 8) : (bs ⟨#[61, 63, 117, 116, 102, 45, 56, 63]⟩).getD j 0 = pre8.getD j 0 := by
  have : ∀ j : Fin 8, (bs ⟨#[61, 63, 117, 116, 102, 45, 56, 63]⟩).getD j.val 0 = pre8.getD j.val 0 := by decide
  exact this ⟨j, h⟩
set_option maxHeartbeats 4000000 in
theorem rParse_any (s : ByteArray) (w : World) (hs : s.size ≤ 1000000) :
    Calls Tryd.prog 36 #[.string s] w (ParsePost (bs s) w) := by
  by_cases h75 : 75 < s.size
  · have PR := Lib.hid (parse_long (l := bs s) (by rw [bs_length]; exact h75))
    go_enter Tryd.func36, Tryd.ntmps36
    go_wp2_with fail
    go_ret3
    exact ⟨by rw [PR.out]; rfl, Below.refl _ _⟩
  · have N75 : Hid (¬ 75 < (bs s).length) := Lib.hid (by rw [bs_length]; exact h75)
    by_cases h12 : s.size < 12
    · have PN := Lib.hid (parse_un N75.out (fun q => framed_len (by rw [bs_length]; exact h12)))
      go_enter Tryd.func36, Tryd.ntmps36
      go_wp2_with fail
      go_ret3
      exact ⟨by rw [PN.out]; rfl, Below.refl _ _⟩
    · have L12 : Hid (12 ≤ (bs s).length) := Lib.hid (by rw [bs_length]; omega)
      obtain ⟨b, hb⟩ : ∃ b, b = decide ((bs s).drop ((bs s).length - 2) = [63, 61]) := ⟨_, rfl⟩
      have tb := tail_b s (by omega) hb
      cases b
      · have PN := Lib.hid (parse_un N75.out (fun q => framed_end (of_decide_eq_false hb.symm)))
        clear hb
        go_enter Tryd.func36, Tryd.ntmps36
        go_wp2_with fail
        go_ret3
        exact ⟨by rw [PN.out]; rfl, Below.refl _ _⟩
      · have TE := Lib.hid (of_decide_eq_true hb.symm)
        clear hb
        obtain ⟨c9, hc9⟩ : ∃ c, c = (bs s).getD 9 0 := ⟨_, rfl⟩
        have x9 := fun w => idx_q s w 9 9 rfl (by omega) c9 hc9
        by_cases c63 : c9 = 63
        · have C9 : Hid ((bs s).getD 9 0 = 63) := Lib.hid (by rw [← hc9]; exact c63)
          have q9 : ((c9 : Int) != 63) = false := int_nneq (by omega)
          clear hc9
          subst c63
          obtain ⟨c8, hc8⟩ : ∃ c, c = (bs s).getD 8 0 := ⟨_, rfl⟩
          have b8 : c8 < 256 := by rw [hc8]; exact bs_lt' s 8
          have x8 := fun w => idx_q s w 8 8 rfl (by omega) c8 hc8
          have L8 := Lib.hid (fun w => lower_any w c8 b8)
          have K8' := Lib.hid hc8
          obtain ⟨d8, hd8⟩ : ∃ d, d = low c8 := ⟨_, rfl⟩
          rw [← hd8] at L8
          have K8 : Hid (d8 = low ((bs s).getD 8 0)) := Lib.hid (by rw [hd8, hc8])
          clear hc8 hd8 K8'
          go_enter Tryd.func36, Tryd.ntmps36
          go_wp2_with fail
          go_loopg [6] 8 (fun k v wr => ∃ j : Nat, j ≤ 8 ∧ k = 8 - j ∧ v = .int .i64 (j : Int) ∧ Hid (∀ i, i < j → low ((bs s).getD i 0) = pre8.getD i 0) ∧ Hid (Below w.heap.size w wr))
          case atStart => exact ⟨0, by omega, rfl, rfl, Lib.hid (fun i h => by omega), Lib.hid (Below.refl _ _)⟩
          case round =>
            obtain ⟨j, hj, rfl, rfl, HP, HB⟩ := hrel
            by_cases hlt : j < 8
            · obtain ⟨c, hc⟩ : ∃ c, c = (bs s).getD j 0 := ⟨_, rfl⟩
              have bc : c < 256 := by rw [hc]; exact bs_lt' s j
              have x0 := fun w => idx_q s w (j : Int) j rfl (by omega) c hc
              obtain ⟨d, hd⟩ : ∃ d, d = pre8.getD j 0 := ⟨_, rfl⟩
              have xf := fun w => idx_q ⟨#[61, 63, 117, 116, 102, 45, 56, 63]⟩ w (j : Int) j rfl (show j < 8 from hlt) d (by rw [hd, pre_lit j hlt])
              have LC : Hid (∀ w, Calls Tryd.prog 61 #[.int .u8 (c : Int)] w fun e w' => e = .returned (.int .u8 (low c : Int)) ∧ w' = w) := Lib.hid (fun w => (lower_any w c bc).mono fun e w' h => ⟨h.1, h.2.symm⟩)
              by_cases heq : low c = d
              · have NX : Hid (∀ i, i < j + 1 → low ((bs s).getD i 0) = pre8.getD i 0) := Lib.hid (fun i hi => by
                  by_cases hij : i = j
                  · rw [hij, ← hc, ← hd]; exact heq
                  · exact HP.out i (by omega))
                have q0 : ((d : Int) != (d : Int)) = false := int_nneq rfl
                rw [heq] at LC
                clear hc hd heq
                go_wp2_with fail
                go_quiet ((go_at_call 61; exact Calls.quiet_of_same (LC.out _)))
                have HB2 : Hid (Below w.heap.size w (wr.drewN nq)) := Lib.hid (HB.out.trans ((Dr.below ⟨nq, rfl⟩).mono HB.out.size))
                clear HB
                generalize wr.drewN nq = wq at *
                go_wp2_with fail
                go_roundg (8 - (j + 1))
                case measure => omega
                case rel => exact ⟨j + 1, by omega, rfl, by go_num, NX, HB2⟩
              · have PN : Hid (parseR (bs s) = ([], 0, 3)) := Lib.hid (parse_un N75.out (fun q => by
                  cases hf : framed q (bs s)
                  · rfl
                  · exact absurd (by rw [hc, hd]; exact ((framed_iff L12.out).1 hf).2.2.1 j hlt) heq))
                obtain ⟨lc, hlc⟩ : ∃ x, x = low c := ⟨_, rfl⟩
                rw [← hlc] at LC heq
                have q0 : ((lc : Int) != (d : Int)) = true := int_neq (by omega)
                clear hc hd heq hlc
                go_wp2_with fail
                go_quiet ((go_at_call 61; exact Calls.quiet_of_same (LC.out _)))
                have HB2 : Hid (Below w.heap.size w (wr.drewN nq)) := Lib.hid (HB.out.trans ((Dr.below ⟨nq, rfl⟩).mono HB.out.size))
                clear HB
                generalize wr.drewN nq = wq at *
                go_wp2_with fail
                go_ret3
                exact ⟨by rw [PN.out]; rfl, HB2.out⟩
            · have HP8 : ∀ i, i < 8 → low ((bs s).getD i 0) = pre8.getD i 0 := fun i hi => HP.out i (by omega)
              by_cases l8 : d8 = 113
              · have q8 : ((d8 : Int) == 113) = true := int_eq (by omega)
                have FR : Hid (framed true (bs s) = true) := Lib.hid ((framed_iff (q := true) L12.out).2 ⟨TE.out, C9.out, HP8, by rw [← K8.out]; exact l8⟩)
                have UD : Hid (∀ w, Calls Tryd.prog 62 #[.string (s.extract 10 (s.size - 2)), .int .i64 1] w fun e w' => e = .returned (.tuple #[.string (strN (readW true (inner (bs s))).1), .bool (decide ((readW true (inner (bs s))).2 = 0))]) ∧ Below w.heap.size w w') := Lib.hid (fun w => by
                  have := undataQ_any (s.extract 10 (s.size - 2)) w (by rw [ByteArray.size_extract]; omega)
                  rw [bs_inner] at this
                  exact this)
                obtain ⟨m, hm⟩ : ∃ m, m = readW true (inner (bs s)) := ⟨_, rfl⟩
                have HLT := Lib.hid (readW_lt s true m hm)
                have hml := readW_len s (by omega) true m hm
                have NO : Hid (¬ (m.2 = 0 ∧ m.1 ≠ [] ∧ prt m.1 = true) → tryW true (bs s) = none) := Lib.hid (fun h => tryW_read (by rw [← hm]; exact h))
                have YES : Hid (m.2 = 0 ∧ m.1 ≠ [] ∧ prt m.1 = true → tryW true (bs s) = some m.1) := Lib.hid (fun h => by rw [hm]; exact tryW_yes FR.out (by rw [← hm]; exact h))
                have OTHER : Hid (tryW (!true) (bs s) = none) := Lib.hid (tryW_none (by
                  cases hf : framed (!true) (bs s)
                  · rfl
                  · have := ((framed_iff (q := !true) L12.out).1 hf).2.2.2
                    have h8 := K8.out
                    rw [← h8, l8] at this
                    exact absurd this (by decide)))
                have NONE : Hid (¬ (m.2 = 0 ∧ m.1 ≠ [] ∧ prt m.1 = true) → parseR (bs s) = ([], 0, 3)) := Lib.hid (fun h => parse_none N75.out OTHER.out (NO.out h))
                have SOME : Hid (m.2 = 0 ∧ m.1 ≠ [] ∧ prt m.1 = true → parseR (bs s) = (m.1, 1, 0)) := Lib.hid (fun h => parse_one true N75.out (YES.out h))
                rw [← hm] at UD
                have RP : Hid (∀ w, Calls Tryd.prog 22 #[.string (strN m.1)] w fun e w' => e = .returned (.bool (prt m.1)) ∧ w = w') := Lib.hid (fun w => by
                  have := rprt_any (strN m.1) w (by rw [strN_size]; unfold maxLen; omega)
                  rw [bs_strN _ HLT.out] at this
                  exact this)
                obtain ⟨t, ht⟩ : ∃ t, t = strN m.1 := ⟨_, rfl⟩
                have tsz : t.size = m.1.length := by rw [ht, strN_size]
                have HT := Lib.hid ht
                rw [← ht] at UD RP
                clear hm ht l8
                by_cases m0 : m.2 = 0
                · rw [decide_eq_true m0] at UD
                  by_cases t0 : t.size = 0
                  · have hz : t.toList.isEmpty = true := by rw [str_emp t0, ByteArray.toList_eq]; rfl
                    have PN : Hid (parseR (bs s) = ([], 0, 3)) := Lib.hid (NONE.out (fun c => c.2.1 (List.length_eq_zero_iff.1 (by omega))))
                    clear m0
                    go_wp2_with (first | (go_at_call 61; refine (L8.out _).mono ?_; rintro e w' ⟨rfl, rfl⟩) | (go_at_call 62; refine (UD.out _).mono ?_; rintro e w1 ⟨rfl, hb1⟩; have B1 : Hid (Below w.heap.size w w1) := Lib.hid (HB.out.trans (hb1.mono HB.out.size)); clear hb1))
                    go_ret3
                    exact ⟨by rw [PN.out]; rfl, B1.out⟩
                  · have hz := str_ne t0
                    have TN : Hid (m.1 ≠ []) := Lib.hid (fun e => t0 (by rw [tsz, e]; rfl))
                    cases hp : prt m.1
                    · rw [hp] at RP
                      have PN : Hid (parseR (bs s) = ([], 0, 3)) := Lib.hid (NONE.out (fun c => by rw [hp] at c; exact absurd c.2.2 (by decide)))
                      clear m0 hp
                      go_wp2_with (first | (go_at_call 61; refine (L8.out _).mono ?_; rintro e w' ⟨rfl, rfl⟩) | (go_at_call 62; refine (UD.out _).mono ?_; rintro e w1 ⟨rfl, hb1⟩; have B1 : Hid (Below w.heap.size w w1) := Lib.hid (HB.out.trans (hb1.mono HB.out.size)); clear hb1) | (go_at_call 22; refine (RP.out _).mono ?_; rintro e w' ⟨rfl, rfl⟩))
                      go_ret3
                      exact ⟨by rw [PN.out]; rfl, B1.out⟩
                    · rw [hp] at RP
                      have PN : Hid (parseR (bs s) = (m.1, 1, 0)) := Lib.hid (SOME.out ⟨m0, TN.out, hp⟩)
                      clear m0 hp
                      go_wp2_with (first | (go_at_call 61; refine (L8.out _).mono ?_; rintro e w' ⟨rfl, rfl⟩) | (go_at_call 62; refine (UD.out _).mono ?_; rintro e w1 ⟨rfl, hb1⟩; have B1 : Hid (Below w.heap.size w w1) := Lib.hid (HB.out.trans (hb1.mono HB.out.size)); clear hb1) | (go_at_call 22; refine (RP.out _).mono ?_; rintro e w' ⟨rfl, rfl⟩))
                      go_ret3
                      exact ⟨by rw [PN.out, HT.out]; rfl, B1.out⟩
                · rw [decide_eq_false m0] at UD
                  have PN : Hid (parseR (bs s) = ([], 0, 3)) := Lib.hid (NONE.out (fun c => m0 c.1))
                  clear m0
                  go_wp2_with (first | (go_at_call 61; refine (L8.out _).mono ?_; rintro e w' ⟨rfl, rfl⟩) | (go_at_call 62; refine (UD.out _).mono ?_; rintro e w1 ⟨rfl, hb1⟩; have B1 : Hid (Below w.heap.size w w1) := Lib.hid (HB.out.trans (hb1.mono HB.out.size)); clear hb1))
                  go_ret3
                  exact ⟨by rw [PN.out]; rfl, B1.out⟩
              · have q8 : ((d8 : Int) == 113) = false := int_ne (by omega)
                by_cases l8' : d8 = 98
                · have q98 : ((d8 : Int) != 98) = false := int_nneq (by omega)
                  clear l8
                  have l8 := l8'
                  clear l8'
                  have FR : Hid (framed false (bs s) = true) := Lib.hid ((framed_iff (q := false) L12.out).2 ⟨TE.out, C9.out, HP8, by rw [← K8.out]; exact l8⟩)
                  have UD : Hid (∀ w, Calls Tryd.prog 62 #[.string (s.extract 10 (s.size - 2)), .int .i64 0] w fun e w' => e = .returned (.tuple #[.string (strN (readW false (inner (bs s))).1), .bool (decide ((readW false (inner (bs s))).2 = 0))]) ∧ Below w.heap.size w w') := Lib.hid (fun w => by
                    have := undataB_any (s.extract 10 (s.size - 2)) w (by rw [ByteArray.size_extract]; omega)
                    rw [bs_inner] at this
                    exact this)
                  obtain ⟨m, hm⟩ : ∃ m, m = readW false (inner (bs s)) := ⟨_, rfl⟩
                  have HLT := Lib.hid (readW_lt s false m hm)
                  have hml := readW_len s (by omega) false m hm
                  have NO : Hid (¬ (m.2 = 0 ∧ m.1 ≠ [] ∧ prt m.1 = true) → tryW false (bs s) = none) := Lib.hid (fun h => tryW_read (by rw [← hm]; exact h))
                  have YES : Hid (m.2 = 0 ∧ m.1 ≠ [] ∧ prt m.1 = true → tryW false (bs s) = some m.1) := Lib.hid (fun h => by rw [hm]; exact tryW_yes FR.out (by rw [← hm]; exact h))
                  have OTHER : Hid (tryW (!false) (bs s) = none) := Lib.hid (tryW_none (by
                    cases hf : framed (!false) (bs s)
                    · rfl
                    · have := ((framed_iff (q := !false) L12.out).1 hf).2.2.2
                      have h8 := K8.out
                      rw [← h8, l8] at this
                      exact absurd this (by decide)))
                  have NONE : Hid (¬ (m.2 = 0 ∧ m.1 ≠ [] ∧ prt m.1 = true) → parseR (bs s) = ([], 0, 3)) := Lib.hid (fun h => parse_none N75.out (NO.out h) OTHER.out)
                  have SOME : Hid (m.2 = 0 ∧ m.1 ≠ [] ∧ prt m.1 = true → parseR (bs s) = (m.1, 0, 0)) := Lib.hid (fun h => parse_one false N75.out (YES.out h))
                  rw [← hm] at UD
                  have RP : Hid (∀ w, Calls Tryd.prog 22 #[.string (strN m.1)] w fun e w' => e = .returned (.bool (prt m.1)) ∧ w = w') := Lib.hid (fun w => by
                    have := rprt_any (strN m.1) w (by rw [strN_size]; unfold maxLen; omega)
                    rw [bs_strN _ HLT.out] at this
                    exact this)
                  obtain ⟨t, ht⟩ : ∃ t, t = strN m.1 := ⟨_, rfl⟩
                  have tsz : t.size = m.1.length := by rw [ht, strN_size]
                  have HT := Lib.hid ht
                  rw [← ht] at UD RP
                  clear hm ht l8
                  by_cases m0 : m.2 = 0
                  · rw [decide_eq_true m0] at UD
                    by_cases t0 : t.size = 0
                    · have hz : t.toList.isEmpty = true := by rw [str_emp t0, ByteArray.toList_eq]; rfl
                      have PN : Hid (parseR (bs s) = ([], 0, 3)) := Lib.hid (NONE.out (fun c => c.2.1 (List.length_eq_zero_iff.1 (by omega))))
                      clear m0
                      go_wp2_with (first | (go_at_call 61; refine (L8.out _).mono ?_; rintro e w' ⟨rfl, rfl⟩) | (go_at_call 62; refine (UD.out _).mono ?_; rintro e w1 ⟨rfl, hb1⟩; have B1 : Hid (Below w.heap.size w w1) := Lib.hid (HB.out.trans (hb1.mono HB.out.size)); clear hb1))
                      go_ret3
                      exact ⟨by rw [PN.out]; rfl, B1.out⟩
                    · have hz := str_ne t0
                      have TN : Hid (m.1 ≠ []) := Lib.hid (fun e => t0 (by rw [tsz, e]; rfl))
                      cases hp : prt m.1
                      · rw [hp] at RP
                        have PN : Hid (parseR (bs s) = ([], 0, 3)) := Lib.hid (NONE.out (fun c => by rw [hp] at c; exact absurd c.2.2 (by decide)))
                        clear m0 hp
                        go_wp2_with (first | (go_at_call 61; refine (L8.out _).mono ?_; rintro e w' ⟨rfl, rfl⟩) | (go_at_call 62; refine (UD.out _).mono ?_; rintro e w1 ⟨rfl, hb1⟩; have B1 : Hid (Below w.heap.size w w1) := Lib.hid (HB.out.trans (hb1.mono HB.out.size)); clear hb1) | (go_at_call 22; refine (RP.out _).mono ?_; rintro e w' ⟨rfl, rfl⟩))
                        go_ret3
                        exact ⟨by rw [PN.out]; rfl, B1.out⟩
                      · rw [hp] at RP
                        have PN : Hid (parseR (bs s) = (m.1, 0, 0)) := Lib.hid (SOME.out ⟨m0, TN.out, hp⟩)
                        clear m0 hp
                        go_wp2_with (first | (go_at_call 61; refine (L8.out _).mono ?_; rintro e w' ⟨rfl, rfl⟩) | (go_at_call 62; refine (UD.out _).mono ?_; rintro e w1 ⟨rfl, hb1⟩; have B1 : Hid (Below w.heap.size w w1) := Lib.hid (HB.out.trans (hb1.mono HB.out.size)); clear hb1) | (go_at_call 22; refine (RP.out _).mono ?_; rintro e w' ⟨rfl, rfl⟩))
                        go_ret3
                        exact ⟨by rw [PN.out, HT.out]; rfl, B1.out⟩
                  · rw [decide_eq_false m0] at UD
                    have PN : Hid (parseR (bs s) = ([], 0, 3)) := Lib.hid (NONE.out (fun c => m0 c.1))
                    clear m0
                    go_wp2_with (first | (go_at_call 61; refine (L8.out _).mono ?_; rintro e w' ⟨rfl, rfl⟩) | (go_at_call 62; refine (UD.out _).mono ?_; rintro e w1 ⟨rfl, hb1⟩; have B1 : Hid (Below w.heap.size w w1) := Lib.hid (HB.out.trans (hb1.mono HB.out.size)); clear hb1))
                    go_ret3
                    exact ⟨by rw [PN.out]; rfl, B1.out⟩
                · have q98 : ((d8 : Int) != 98) = true := int_neq (by omega)
                  have PN : Hid (parseR (bs s) = ([], 0, 3)) := Lib.hid (parse_un N75.out (fun q => by
                    cases hf : framed q (bs s)
                    · rfl
                    · have := ((framed_iff L12.out).1 hf).2.2.2
                      rw [← K8.out] at this
                      cases q
                      · exact absurd this l8'
                      · exact absurd this l8))
                  clear l8 l8'
                  go_wp2_with (go_at_call 61; refine (L8.out _).mono ?_; rintro e w' ⟨rfl, rfl⟩)
                  go_ret3
                  exact ⟨by rw [PN.out]; rfl, HB.out⟩
        · have PN : Hid (parseR (bs s) = ([], 0, 3)) := Lib.hid (parse_un N75.out (fun q => by
            cases hf : framed q (bs s)
            · rfl
            · exact absurd (by rw [hc9]; exact ((framed_iff L12.out).1 hf).2.1) c63))
          have q9 : ((c9 : Int) != 63) = true := int_neq (by omega)
          clear hc9 c63
          go_enter Tryd.func36, Tryd.ntmps36
          go_wp2_with fail
          go_ret3
          exact ⟨by rw [PN.out]; rfl, Below.refl _ _⟩
end Go.Proofs.YtbgggeobpiaamaaDoor
