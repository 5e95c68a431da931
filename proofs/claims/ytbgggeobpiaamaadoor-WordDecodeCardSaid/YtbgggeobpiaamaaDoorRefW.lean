/- The reference: Printable, itself, data, word, Word. -/
import Derived.Test.YtbgggeobpiaamaaDoorRune
import Derived.Test.YtbgggeobpiaamaaDoorWord
import Derived.Test.YtbgggeobpiaamaaDoorRefE
namespace Go.Proofs.YtbgggeobpiaamaaDoor
open Go.RowKit
set_option linter.unusedVariables false
set_option maxRecDepth 100000

theorem ctrl_lo {c : Nat} (h : c < 32) : ctrl c = true := by unfold ctrl; simp [h]
theorem ctrl_del {c : Nat} (h : c = 127) : ctrl c = true := by unfold ctrl; simp [h]
theorem ctrl_no {c : Nat} (h : ¬ c < 32) (h' : ¬ c = 127) : ctrl c = false := by unfold ctrl; simp [h, h']
theorem extract_one (s : ByteArray) (j c : Nat) (h : j < s.size) (hc : c = (bs s).getD j 0) : s.extract j (j + 1) = strN [c] := by
  rw [← strN_bs (s.extract j (j + 1)), bs_extract, List.drop_take, show j + 1 - j = 1 by omega, drop_cons_getD (by rw [bs_length]; exact h), List.take_succ_cons, List.take_zero, ← hc]
set_option maxHeartbeats 1000000 in
theorem rprt_any (s : ByteArray) (w : World) (hs : s.size ≤ maxLen) :
    Calls Tryd.prog 22 #[.string s] w fun e w' => e = .returned (.bool (prt (bs s))) ∧ w = w' := by
  unfold maxLen at hs
  go_enter Tryd.func22, Tryd.ntmps22
  go_wp2_with fail
  go_loopg [3] s.size (fun k i wr => ∃ n : Nat, n ≤ s.size ∧ k = s.size - n ∧ i = .int .i64 (n : Int) ∧ Hid (prt (bs s) = prt ((bs s).drop n)) ∧ w = wr)
  case atStart => exact ⟨0, by omega, rfl, rfl, rfl, rfl⟩
  case round =>
    obtain ⟨n, hn, rfl, rfl, hp, rfl⟩ := hrel
    by_cases h : n < s.size
    · have R := Lib.hid (fun w => rune_any (s.extract n s.size) w (by rw [ByteArray.size_extract]; unfold maxLen; omega))
      have hdl : ((bs s).drop n).length = s.size - n := by rw [List.length_drop, bs_length]
      have hne : (bs s).drop n ≠ [] := by intro e; rw [e] at hdl; simp at hdl; omega
      have hst := prt_step hne
      have hrl := (rn_le ((bs s).drop n)).1
      rw [hdl] at hrl
      simp only [bs_from] at R
      obtain ⟨m, hm⟩ : ∃ m, m = rn ((bs s).drop n) := ⟨_, rfl⟩
      obtain ⟨c, hc⟩ : ∃ c, c = (bs s).getD n 0 := ⟨_, rfl⟩
      have hg : ((bs s).drop n).getD 0 0 = c := by rw [hc]; simp [List.getD]
      rw [← hm] at R hrl
      rw [hg, ← hm, List.drop_drop] at hst
      have hc2 : c < 256 := by rw [hc]; exact bs_lt' s n
      have x0 := fun w => idx_q s w (n : Int) n rfl h c hc
      have ST := Lib.hid hst
      clear hdl hne hst hm hc hg
      by_cases m0 : m = 0
      · have q0 : ((m : Int) == 0) = true := int_eq (by omega)
        have PF : Hid (prt (bs s) = false) := Lib.hid (by rw [hp.out, ST.out, m0]; simp)
        go_wp2_with (go_at_call 21; refine (R.out _).mono ?_; rintro e w' ⟨rfl, rfl⟩)
        go_ret
        exact ⟨by rw [PF.out]; rfl, rfl⟩
      · have q0 : ((m : Int) == 0) = false := int_ne (by omega)
        by_cases c32 : c < 32
        · have PF : Hid (prt (bs s) = false) := Lib.hid (by rw [hp.out, ST.out, ctrl_lo c32]; simp)
          go_wp2_with (go_at_call 21; refine (R.out _).mono ?_; rintro e w' ⟨rfl, rfl⟩)
          go_ret
          exact ⟨by rw [PF.out]; rfl, rfl⟩
        · by_cases c127 : c = 127
          · have q1 : ((c : Int) == 127) = true := int_eq (by omega)
            have PF : Hid (prt (bs s) = false) := Lib.hid (by rw [hp.out, ST.out, ctrl_del c127]; simp)
            clear c127
            go_wp2_with (go_at_call 21; refine (R.out _).mono ?_; rintro e w' ⟨rfl, rfl⟩)
            go_ret
            exact ⟨by rw [PF.out]; rfl, rfl⟩
          · have q1 : ((c : Int) == 127) = false := int_ne (by omega)
            have PT : Hid (prt (bs s) = prt ((bs s).drop (n + m))) := Lib.hid (by rw [hp.out, ST.out, ctrl_no c32 c127]; simp [m0])
            go_wp2_with (go_at_call 21; refine (R.out _).mono ?_; rintro e w' ⟨rfl, rfl⟩)
            go_roundg (s.size - (n + m))
            case measure => omega
            case rel => exact ⟨n + m, by omega, rfl, by go_num, PT.out, rfl⟩
    · have PT : Hid (prt (bs s) = true) := Lib.hid (by rw [hp.out, List.drop_of_length_le (by rw [bs_length]; omega)]; rfl)
      go_wp2_with fail
      go_ret
      exact ⟨by rw [PT.out]; rfl, rfl⟩

set_option maxHeartbeats 1000000 in
theorem rself_any (w : World) (c : Nat) (hc : c < 256) : Calls Tryd.prog 79 #[.int .u8 (c : Int)] w fun e w' => e = .returned (.bool (itself c)) ∧ w = w' := by
  obtain ⟨b, hb⟩ : ∃ b, b = itself c := ⟨_, rfl⟩
  rw [← hb]
  have HB := Lib.hid hb
  clear hb
  by_cases h5 : c = 33 ∨ c = 42 ∨ c = 43 ∨ c = 45 ∨ c = 47
  · rcases h5 with rfl | rfl | rfl | rfl | rfl
    all_goals
      go_enter Tryd.func79, Tryd.ntmps79
      go_wp2_with fail
      go_ret
      exact ⟨ret_bool (by rw [HB.out]; decide), rfl⟩
  · have q1 : ((c : Int) == 33) = false := int_ne (by omega)
    have q2 : ((c : Int) == 42) = false := int_ne (by omega)
    have q3 : ((c : Int) == 43) = false := int_ne (by omega)
    have q4 : ((c : Int) == 45) = false := int_ne (by omega)
    have q5 : ((c : Int) == 47) = false := int_ne (by omega)
    rcases (by omega : c < 48 ∨ (48 ≤ c ∧ c ≤ 57) ∨ (57 < c ∧ c < 65) ∨ (65 ≤ c ∧ c ≤ 90) ∨ (90 < c ∧ c < 97) ∨ (97 ≤ c ∧ c ≤ 122) ∨ 122 < c) with h | ⟨h, h2⟩ | ⟨h, h2⟩ | ⟨h, h2⟩ | ⟨h, h2⟩ | ⟨h, h2⟩ | h
    all_goals
      go_enter Tryd.func79, Tryd.ntmps79
      go_wp2_with fail
      go_ret
      refine ⟨ret_bool ?_, rfl⟩
      rw [HB.out]
      unfold itself
      first
        | (rw [eq_comm, Bool.eq_iff_iff]; simp only [Bool.or_eq_true, decide_eq_true_eq, iff_true]; omega)
        | (rw [eq_comm, Bool.eq_iff_iff]; simp only [Bool.or_eq_true, decide_eq_true_eq, Bool.false_eq_true, iff_false]; omega)

def hexS : ByteArray := ⟨#[48, 49, 50, 51, 52, 53, 54, 55, 56, 57, 65, 66, 67, 68, 69, 70]⟩
theorem hexS_ext (v : Nat) (h : v < 16) : hexS.extract v (v + 1) = strN [hx v] := by
  have : ∀ v : Fin 16, hexS.extract v.val (v.val + 1) = strN [hx v.val] := by decide +kernel
  exact this ⟨v, h⟩
set_option maxHeartbeats 2000000 in
theorem rdataQ_any (s : ByteArray) (w : World) (hs : s.size ≤ 100000) :
    Calls Tryd.prog 51 #[.string s, .int .i64 1] w fun e w' => e = .returned (.string (strN (wQ (bs s)))) ∧ Below w.heap.size w w' := by
  go_enter Tryd.func51, Tryd.ntmps51
  go_wp2_with fail
  go_loopg [5, 6] s.size (fun k v i wr => ∃ (j : Nat) (t : ByteArray), j ≤ s.size ∧ k = s.size - j ∧ i = .int .i64 (j : Int) ∧ v = .string t ∧ t.size ≤ 3 * j ∧ Hid (t = strN (wQ ((bs s).take j))) ∧ Below w.heap.size w wr)
  case atStart => exact ⟨0, ⟨#[]⟩, by omega, rfl, rfl, rfl, by decide, rfl, Below.refl _ _⟩
  case round =>
    obtain ⟨j, t, hj, rfl, rfl, rfl, htl, hst, hbw⟩ := hrel
    have HB := Lib.hid hbw
    clear hbw
    by_cases h : j < s.size
    · obtain ⟨c, hc⟩ : ∃ c, c = (bs s).getD j 0 := ⟨_, rfl⟩
      have hc2 : c < 256 := by rw [hc]; exact bs_lt' s j
      have x0 := fun w => idx_q s w (j : Int) j rfl h c hc
      have hnx := wQ_take_succ (l := bs s) (k := j) (by rw [bs_length]; exact h) hc
      have hex := extract_one s j c h hc
      have NX := Lib.hid hnx; have EX := Lib.hid hex
      clear hnx hex hc
      cases hi : itself c
      · have C : Hid (∀ w, Calls Tryd.prog 79 #[.int .u8 (c : Int)] w fun e w' => e = .returned (.bool false) ∧ w = w') := fun w => by rw [← hi]; exact rself_any w c hc2
        by_cases h32 : c = 32
        · have hq : q1 c = [95] := by rw [h32]; decide
          subst h32
          have HQ := Lib.hid hq
          clear hi hq
          go_wp2_with (go_at_call 79; refine (C.out _).mono ?_; rintro e w' ⟨rfl, rfl⟩)
          go_roundg (s.size - (j + 1))
          case measure => omega
          case rel => exact ⟨j + 1, _, by omega, rfl, by go_num, rfl, by rw [ByteArray.size_append, show (ByteArray.mk #[95]).size = 1 from rfl]; omega, Lib.hid (by rw [NX.out, HQ.out, ← strN_app, ← hst.out]; rfl), HB.out⟩
        · have hq : q1 c = [61, hx (c / 16), hx (c % 16)] := by unfold q1; rw [if_neg (by rw [hi]; decide), if_neg h32]
          have e32 : ((c : Int) == 32) = false := int_ne (by omega)
          have HQ := Lib.hid hq
          clear hi hq
          obtain ⟨a, ha⟩ : ∃ a, a = c / 16 := ⟨_, rfl⟩
          obtain ⟨b, hb⟩ : ∃ b, b = c % 16 := ⟨_, rfl⟩
          have a16 : a < 16 := by omega
          have b16 : b < 16 := by omega
          have HA := Lib.hid ha; have HB' := Lib.hid hb
          have s1 : (c : Int) / 16 = (a : Int) := by omega
          have s2 : (c : Int) % 16 = (b : Int) := by omega
          clear ha hb
          go_wp2_with (go_at_call 79; refine (C.out _).mono ?_; rintro e w' ⟨rfl, rfl⟩)
          go_quiet (fail)
          have BQ : Hid (Below w.heap.size w (wr.drewN nq)) := Lib.hid (HB.out.trans ((Dr.below ⟨nq, rfl⟩).mono HB.out.size))
          have EA := Lib.hid (hexS_ext a a16); have EB := Lib.hid (hexS_ext b b16)
          clear HB
          generalize wr.drewN nq = wq at *
          go_wp2_with fail
          go_roundg (s.size - (j + 1))
          case measure => omega
          case rel => exact ⟨j + 1, _, by omega, rfl, by go_num, rfl, by rw [ByteArray.size_append, ByteArray.size_append, ByteArray.size_append, ByteArray.size_extract, ByteArray.size_extract, show (ByteArray.mk #[61]).size = 1 from rfl]; omega, Lib.hid (by rw [NX.out, HQ.out, ← HA.out, ← HB'.out, ← strN_app, ← hst.out]; unfold hexS at EA EB; rw [EA.out, EB.out, ByteArray.append_assoc, ByteArray.append_assoc]; rfl), BQ.out⟩
      · have hq : q1 c = [c] := by unfold q1; rw [if_pos hi]
        have C : Hid (∀ w, Calls Tryd.prog 79 #[.int .u8 (c : Int)] w fun e w' => e = .returned (.bool true) ∧ w = w') := fun w => by rw [← hi]; exact rself_any w c hc2
        have HQ := Lib.hid hq
        clear hi hq
        go_wp2_with (go_at_call 79; refine (C.out _).mono ?_; rintro e w' ⟨rfl, rfl⟩)
        go_roundg (s.size - (j + 1))
        case measure => omega
        case rel => exact ⟨j + 1, _, by omega, rfl, by go_num, rfl, by rw [ByteArray.size_append, ByteArray.size_extract]; omega, Lib.hid (by rw [NX.out, HQ.out, ← strN_app, ← hst.out, EX.out]), HB.out⟩
    · have hall : (bs s).take j = bs s := List.take_of_length_le (by rw [bs_length]; omega)
      have FN : Hid (t = strN (wQ (bs s))) := Lib.hid (by rw [hst.out, hall])
      clear hall
      go_wp2_with fail
      go_ret
      exact ⟨by rw [← FN.out]; rfl, HB.out⟩

theorem rdataB_any (s : ByteArray) (w : World) (hs : s.size ≤ 100000) :
    Calls Tryd.prog 51 #[.string s, .int .i64 0] w fun e w' => e = .returned (.string (strN (encF (bs s)))) ∧ Below w.heap.size w w' := by
  obtain ⟨W, cap, hcv, hrd, hb0, hz⟩ := bytes_new s w
  have C := rencode_any W (some ⟨w.heap.size, 0, none⟩) cap (bs s) (by rw [bs_length]; omega) hrd
  rw [bs_length] at C
  have C1 := Lib.hid C; have B0 := Lib.hid hb0
  clear C hb0 hrd hz
  go_enter Tryd.func51, Tryd.ntmps51
  go_wp2_with (go_at_call 78; refine C1.out.mono ?_; rintro e w1 ⟨rfl, rfl⟩)
  go_ret
  exact ⟨rfl, B0.out⟩
theorem rdata_any (s : ByteArray) (enc : Int) (w : World) (hs : s.size ≤ 100000) (h : enc = 0 ∨ enc = 1) :
    Calls Tryd.prog 51 #[.string s, .int .i64 enc] w fun e w' => e = .returned (.string (strN (dataW (isQ enc) (bs s)))) ∧ Below w.heap.size w w' := by
  rcases h with rfl | rfl
  · exact rdataB_any s w hs
  · exact rdataQ_any s w hs
theorem dataW_len (q : Bool) {l : List Nat} (h : ∀ x ∈ l, x < 256) : (dataW q l).length ≤ 3 * l.length + 4 := by
  unfold dataW
  split
  · have := wQ_len l; omega
  · rw [encF_len l h]; omega

set_option maxHeartbeats 1000000 in
theorem rword_any (s : ByteArray) (enc : Int) (w : World) (hs : s.size ≤ 100000) (h : enc = 0 ∨ enc = 1) :
    Calls Tryd.prog 29 #[.string s, .int .i64 enc] w fun e w' => e = .returned (.string (strN (wordF (isQ enc) (bs s)))) ∧ Below w.heap.size w w' := by
  have D := Lib.hid (fun w => rdata_any s enc w hs h)
  obtain ⟨d, hd⟩ : ∃ d, d = dataW (isQ enc) (bs s) := ⟨_, rfl⟩
  have dl := dataW_len (isQ enc) (bs_lt s)
  rw [bs_length, ← hd] at dl
  rw [← hd] at D
  have hf : wordF (isQ enc) (bs s) = pre8 ++ [letter (isQ enc)] ++ [63] ++ d ++ [63, 61] := by rw [hd]; rfl
  have HF := Lib.hid hf
  obtain ⟨t, ht⟩ : ∃ t, t = strN d := ⟨_, rfl⟩
  have hts : t.size = d.length := by rw [ht, strN_size]
  have HT := Lib.hid ht
  rw [← ht] at D
  clear hd hf ht
  rcases h with rfl | rfl
  all_goals
    go_enter Tryd.func29, Tryd.ntmps29
    go_wp2_with (go_at_call 51; refine (D.out _).mono ?_; rintro e w1 ⟨rfl, hb1⟩)
    go_ret
    exact ⟨by rw [HF.out, ← strN_app, ← strN_app, ← strN_app, ← strN_app, ← HT.out]; rfl, hb1⟩

set_option maxHeartbeats 1000000 in
theorem rWord_any (s : ByteArray) (enc : Int) (w : World) (hs : s.size ≤ 100000) :
    Calls Tryd.prog 13 #[.string s, .int .i64 enc] w (WordPost enc (bs s) w) := by
  by_cases h01 : enc = 0 ∨ enc = 1
  · have W1 := Lib.hid (fun w => rword_any s enc w hs h01)
    have qq : ((enc != 0) = false ∧ (enc == 0) = true) ∨ ((enc != 0) = true ∧ (enc != 1) = false) := by
      rcases h01 with rfl | rfl
      · exact .inl ⟨rfl, rfl⟩
      · exact .inr ⟨rfl, rfl⟩
    have H01 := Lib.hid h01
    clear h01
    by_cases h0 : s.size = 0
    · obtain rfl := str_emp h0
      have R := Lib.hid (wordR_emp enc H01.out (l := bs ⟨#[]⟩) rfl)
      clear W1 h0
      rcases qq with ⟨q0, q1⟩ | ⟨q0, q1⟩
      all_goals
        go_enter Tryd.func13, Tryd.ntmps13
        go_wp2_with fail
        go_ret2
        exact ⟨by rw [R.out]; rfl, Below.refl _ _⟩
    · have n0 := str_ne h0
      have NE := Lib.hid (bs_ne h0)
      have P := Lib.hid (fun w => rprt_any s w (by unfold maxLen; omega))
      obtain ⟨b, hb⟩ : ∃ b, b = prt (bs s) := ⟨_, rfl⟩
      rw [← hb] at P
      have HB := Lib.hid hb
      clear hb
      cases b
      · have R := Lib.hid (wordR_bad enc H01.out NE.out HB.out.symm)
        rcases qq with ⟨q0, q1⟩ | ⟨q0, q1⟩
        all_goals
          go_enter Tryd.func13, Tryd.ntmps13
          go_wp2_with (go_at_call 22; refine (P.out _).mono ?_; rintro e w' ⟨rfl, rfl⟩)
          go_ret2
          exact ⟨by rw [R.out]; rfl, Below.refl _ _⟩
      · obtain ⟨d, hd⟩ : ∃ d, d = wordF (isQ enc) (bs s) := ⟨_, rfl⟩
        rw [← hd] at W1
        have dl : d.length ≤ 1000000 := by
          rw [hd]; unfold wordF pre8; have := dataW_len (isQ enc) (bs_lt s); rw [bs_length] at this; simp; omega
        have HD := Lib.hid hd
        obtain ⟨t, ht⟩ : ∃ t, t = strN d := ⟨_, rfl⟩
        have hts : t.size = d.length := by rw [ht, strN_size]
        have HT := Lib.hid ht
        rw [← ht] at W1
        clear hd ht
        by_cases h75 : 75 < d.length
        · have R := Lib.hid (wordR_long enc H01.out NE.out HB.out.symm (by rw [← HD.out]; exact h75))
          rcases qq with ⟨q0, q1⟩ | ⟨q0, q1⟩
          all_goals
            go_enter Tryd.func13, Tryd.ntmps13
            go_wp2_with (first | (go_at_call 22; refine (P.out _).mono ?_; rintro e w' ⟨rfl, rfl⟩) | (go_at_call 29; refine (W1.out _).mono ?_; rintro e w1 ⟨rfl, hb1⟩))
            go_ret2
            exact ⟨by rw [R.out]; rfl, hb1⟩
        · have R := Lib.hid (wordR_ok enc H01.out NE.out HB.out.symm (by rw [← HD.out]; exact h75))
          rcases qq with ⟨q0, q1⟩ | ⟨q0, q1⟩
          all_goals
            go_enter Tryd.func13, Tryd.ntmps13
            go_wp2_with (first | (go_at_call 22; refine (P.out _).mono ?_; rintro e w' ⟨rfl, rfl⟩) | (go_at_call 29; refine (W1.out _).mono ?_; rintro e w1 ⟨rfl, hb1⟩))
            go_ret2
            exact ⟨by rw [R.out, ← HD.out, ← HT.out]; rfl, hb1⟩
  · have q0 : (enc != 0) = true := int_neq (fun e => h01 (.inl e))
    have q1 : (enc != 1) = true := int_neq (fun e => h01 (.inr e))
    have R : Hid (wordR enc (bs s) = ([], 2)) := Lib.hid (by unfold wordR; rw [if_pos (by omega)])
    clear h01
    go_enter Tryd.func13, Tryd.ntmps13
    go_wp2_with fail
    go_ret2
    exact ⟨by rw [R.out]; rfl, Below.refl _ _⟩
end Go.Proofs.YtbgggeobpiaamaaDoor
