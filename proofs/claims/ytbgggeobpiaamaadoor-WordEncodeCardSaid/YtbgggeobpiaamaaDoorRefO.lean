/- The reference: Encode, Shorter; and Shorter of package word. -/
import Derived.Test.YtbgggeobpiaamaaDoorRefN
namespace Go.Proofs.YtbgggeobpiaamaaDoor
open Go.RowKit
set_option linter.unusedVariables false
set_option maxRecDepth 100000
theorem bs_app (u r : ByteArray) : bs (u ++ r) = bs u ++ bs r := by unfold bs; rw [ByteArray.data_append, Array.toList_append, List.map_append]
theorem bs_eq {u r : ByteArray} (h : bs u = bs r) : u = r := by rw [← strN_bs u, h, strN_bs]
set_option maxHeartbeats 4000000 in
theorem rEncode01_any (s : ByteArray) (enc : Int) (w : World) (hs : s.size ≤ maxLen) (h01 : enc = 0 ∨ enc = 1) :
    Calls Tryd.prog 23 #[.string s, .int .i64 enc] w (EncPost enc (bs s) w) := by
  have N01 : Hid (¬ (enc ≠ 0 ∧ enc ≠ 1)) := Lib.hid (by omega)
  have H01 := Lib.hid h01
  unfold maxLen at hs
  have qq : ((enc != 0) = false ∧ (enc == 0) = true) ∨ ((enc != 0) = true ∧ (enc != 1) = false) := by
    rcases h01 with rfl | rfl
    · exact .inl ⟨rfl, rfl⟩
    · exact .inr ⟨rfl, rfl⟩
  clear h01
  by_cases hl : 4096 < s.size
  · have R : Hid (encR enc (bs s) = ([], 5)) := Lib.hid (by unfold encR; rw [if_neg N01.out, if_pos (by rw [bs_length]; exact hl)])
    rcases qq with ⟨q0, q1⟩ | ⟨q0, q1⟩
    all_goals
      go_enter Tryd.func23, Tryd.ntmps23
      go_wp2_with fail
      go_ret2
      exact ⟨by rw [R.out]; rfl, Below.refl _ _⟩
  · have P1 := Lib.hid (fun w => rprt_any s w (by unfold maxLen; omega))
    have P2 := Lib.hid (fun w => rplain_any s w (by unfold maxLen; omega))
    obtain ⟨b, hb⟩ : ∃ b, b = prt (bs s) := ⟨_, rfl⟩
    rw [← hb] at P1
    have NL : Hid (¬ 4096 < (bs s).length) := Lib.hid (by rw [bs_length]; exact hl)
    have HBB := Lib.hid hb
    clear hb
    cases b
    · have R : Hid (encR enc (bs s) = ([], 6)) := Lib.hid (by unfold encR; rw [if_neg N01.out, if_neg NL.out, if_pos HBB.out.symm])
      rcases qq with ⟨q0, q1⟩ | ⟨q0, q1⟩
      all_goals
        go_enter Tryd.func23, Tryd.ntmps23
        go_wp2_with (go_at_call 22; refine (P1.out _).mono ?_; rintro e w1 ⟨rfl, rfl⟩)
        go_ret2
        exact ⟨by rw [R.out]; rfl, Below.refl _ _⟩
    · obtain ⟨c, hc⟩ : ∃ c, c = plain (bs s) := ⟨_, rfl⟩
      rw [← hc] at P2
      have HC := Lib.hid hc
      clear hc
      cases c
      · have R : Hid (encR enc (bs s) = (joinF (wordsF enc (bs s)), 0)) := Lib.hid (by unfold encR; rw [if_neg N01.out, if_neg NL.out, if_neg (by rw [← HBB.out]; decide), if_neg (by rw [← HC.out]; decide)])
        rcases qq with ⟨q0, q1⟩ | ⟨q0, q1⟩
        all_goals
          go_enter Tryd.func23, Tryd.ntmps23
          go_wp2_with (first | (go_at_call 22; refine (P1.out _).mono ?_; rintro e w1 ⟨rfl, rfl⟩) | (go_at_call 24; refine (P2.out _).mono ?_; rintro e w1 ⟨rfl, rfl⟩))
          go_loopg [6, 7] s.size (fun k v6 v7 wr => ∃ (n : Nat) (acc : List (List Nat)) (o : ByteArray), n ≤ s.size ∧ k = s.size - n ∧ v7 = .int .i64 (n : Int) ∧ v6 = .string o ∧ Hid (o = strN (joinF acc)) ∧ acc.length ≤ n ∧ o.size ≤ 76 * acc.length ∧ Hid (∀ x ∈ acc, x ≠ []) ∧ Hid (prt ((bs s).drop n) = true) ∧ Hid (wordsF enc (bs s) = acc ++ wordsF enc ((bs s).drop n)) ∧ Hid (Below w.heap.size w wr))
          case atStart => exact ⟨0, [], ⟨#[]⟩, by omega, rfl, rfl, rfl, Lib.hid rfl, by simp, by decide, Lib.hid (fun x hx => absurd hx (by simp)), Lib.hid (by rw [List.drop_zero]; exact HBB.out.symm), Lib.hid (by simp), Lib.hid (Below.refl _ _)⟩
          case round =>
            obtain ⟨n, acc, o, hn, rfl, rfl, rfl, HO, hacc, hos, hne, hpn, hws, HB⟩ := hrel
            by_cases h : n < s.size
            · have hdl : ((bs s).drop n).length = s.size - n := by rw [List.length_drop, bs_length]
              have HNE : Hid ((bs s).drop n ≠ []) := Lib.hid (by intro e; rw [e] at hdl; simp at hdl; omega)
              have WC : Hid (∀ m, m ≤ s.size - n → ∀ w', Below w.heap.size w w' → Calls Tryd.prog 29 #[.string (s.extract n (n + m)), .int .i64 enc] w' fun e w'' => e = .returned (.string (strN (wordF (isQ enc) (((bs s).drop n).take m)))) ∧ Below w.heap.size w w'') := Lib.hid (fun m hm w' hb => (rword_any (s.extract n (n + m)) enc w' (by rw [ByteArray.size_extract]; omega) H01.out).mono fun e w'' h => by
                rw [bs_extract, List.drop_take, Nat.add_sub_cancel_left] at h
                exact ⟨h.1, hb.trans (h.2.mono hb.size)⟩)
              have RC : Hid (∀ m w, Calls Tryd.prog 21 #[.string (s.extract (n + m) s.size)] w fun e w' => e = .returned (.int .i64 (rn (((bs s).drop n).drop m) : Int)) ∧ w = w') := Lib.hid (fun m w => by
                have := rune_any (s.extract (n + m) s.size) w (by rw [ByteArray.size_extract]; unfold maxLen; omega)
                rw [bs_from, ← List.drop_drop] at this
                exact this)
              have DL := Lib.hid hdl
              clear hdl
              go_wp2_with fail
              go_loopg [8] (s.size - n) (fun k v8 wr => ∃ (m fu : Nat), m ≤ s.size - n ∧ k = s.size - n - m ∧ v8 = .int .i64 ((n + m : Nat) : Int) ∧ Hid (s.size - n + 1 ≤ fu + m ∧ lgN enc ((bs s).drop n) fu m = lgF enc ((bs s).drop n)) ∧ Hid (prt (((bs s).drop n).take m) = true) ∧ Hid (prt (((bs s).drop n).drop m) = true) ∧ Hid (Below w.heap.size w wr))
              case atStart => exact ⟨0, s.size - n + 1, by omega, rfl, rfl, Lib.hid ⟨by omega, by unfold lgF; rw [DL.out]⟩, Lib.hid (by rw [List.take_zero]; rfl), Lib.hid (by rw [List.drop_zero]; exact hpn.out), HB⟩
              case round =>
                obtain ⟨m, fu, hm, rfl, rfl, hfu, hpt, hpd, B1⟩ := hrel
                clear HB
                by_cases hin : n + m < s.size
                · have hdl2 : (((bs s).drop n).drop m).length = s.size - n - m := by rw [List.length_drop, DL.out]
                  have hne2 : ((bs s).drop n).drop m ≠ [] := by intro e; rw [e] at hdl2; simp at hdl2; omega
                  have hf := prt_first hne2 hpd.out
                  have hrp := (rn_pos hf.1).2
                  have hrl := (rn_le (((bs s).drop n).drop m)).1
                  have htk := prt_take_step hpt.out hne2 hpd.out
                  rw [hdl2] at hrl
                  have R1 := RC.out m
                  obtain ⟨r, hr⟩ : ∃ r, r = rn (((bs s).drop n).drop m) := ⟨_, rfl⟩
                  rw [← hr] at hrp hrl htk R1
                  have hf2 : prt (((bs s).drop n).drop (m + r)) = true := by rw [hr, ← List.drop_drop]; exact hf.2.2
                  have W1 := WC.out (m + r) (by omega)
                  rw [← Nat.add_assoc] at W1
                  have ht2 : ((bs s).drop n).take (m + r) ≠ [] := by intro e; have := congrArg List.length e; rw [List.length_take, DL.out, List.length_nil] at this; omega
                  have WS := Lib.hid (wordR_short H01.out ht2 htk)
                  obtain ⟨x, hx⟩ : ∃ x, x = wordF (isQ enc) (((bs s).drop n).take (m + r)) := ⟨_, rfl⟩
                  rw [← hx] at W1 WS
                  have hxb : x.length ≤ 20000 := by
                    rw [hx, wordF_length]
                    have := dataW_le (isQ enc) (l := ((bs s).drop n).take (m + r)) (fun y hy => bs_lt s y (List.mem_of_mem_drop (List.mem_of_mem_take hy)))
                    rw [List.length_take, DL.out] at this
                    omega
                  obtain ⟨xs, hxs⟩ : ∃ xs, xs = strN x := ⟨_, rfl⟩
                  have xsz : xs.size = x.length := by rw [hxs, strN_size]
                  rw [← hxs] at W1
                  have WW1 := Lib.hid W1; have RR1 := Lib.hid R1; have TK := Lib.hid htk; have PD2 := Lib.hid hf2; have HR := Lib.hid hr
                  clear hdl2 hne2 hf htk R1 hf2 W1 ht2 hx hxs hr
                  by_cases h75 : 75 < x.length
                  · have STOP : Hid (lgF enc ((bs s).drop n) = m) := Lib.hid (by
                      rw [← hfu.out.2]
                      refine lgN_stop (fun c => ?_)
                      have := WS.out.1 (by rw [HR.out]; exact c.2)
                      omega)
                    have LG : Hid (lgF enc ((bs s).drop n) = m) := Lib.hid (STOP.out)
                    have hpos := lgF_pos H01.out HNE.out hpn.out (fun x hx => bs_lt s x (List.mem_of_mem_drop hx))
                    rw [LG.out] at hpos
                    have LW := Lib.hid (lgW_word H01.out HNE.out hpn.out (fun x hx => bs_lt s x (List.mem_of_mem_drop hx)))
                    rw [LG.out] at LW
                    have hst := wordsF_step H01.out HNE.out hpn.out (fun x hx => bs_lt s x (List.mem_of_mem_drop hx))
                    have hpd := lgF_prt (enc := enc) hpn.out
                    rw [LG.out] at hst hpd
                    rw [List.drop_drop] at hst hpd
                    have W2 := WC.out m hm
                    obtain ⟨x, hx⟩ : ∃ x, x = wordF (isQ enc) (((bs s).drop n).take m) := ⟨_, rfl⟩
                    rw [← hx] at W2
                    have hxl : x.length ≤ 75 := by rw [hx]; exact LW.out.2.2.2
                    have hlw : lgW enc ((bs s).drop n) = x := by rw [hx]; exact LW.out.1
                    rw [hlw] at hst
                    have ST := Lib.hid hst; have PD := Lib.hid hpd
                    have XN : Hid (x ≠ []) := Lib.hid (by rw [hx]; exact wordF_pos _ _)
                    obtain ⟨xs, hxs⟩ : ∃ xs, xs = strN x := ⟨_, rfl⟩
                    have xsz : xs.size ≤ 75 := by rw [hxs, strN_size]; exact hxl
                    rw [← hxs] at W2
                    have WW := Lib.hid W2; have XS := Lib.hid hxs
                    clear hst hpd W2 hlw hxl hx hxs LW
                    by_cases ha : acc = []
                    · have hz : o.toList.isEmpty = true := by rw [HO.out, ha, ByteArray.toList_eq]; rfl
                      have OE : Hid (o = ⟨#[]⟩) := Lib.hid (by rw [HO.out, ha]; rfl)
                      have JN : Hid (o ++ xs = strN (joinF (acc ++ [x]))) := Lib.hid (by rw [OE.out, joinF_snoc, if_pos ha, XS.out]; exact bs_eq (by rw [bs_app]; rfl))
                      have AN : Hid (∀ y ∈ acc ++ [x], y ≠ []) := Lib.hid (by rw [ha]; intro y hy; simp at hy; rw [hy]; exact XN.out)
                      have al : acc.length = 0 := by rw [ha]; rfl
                      clear ha
                      go_wp2_with (first | (go_at_call 21; refine (RR1.out _).mono ?_; rintro e w1 ⟨rfl, rfl⟩) | (go_at_call 29; ((with_reducible refine (WW1.out _ B1.out).mono ?_); rintro e w3 ⟨rfl, hb3⟩; have B1 := Lib.hid hb3; clear hb3)) | (go_at_call 29; ((with_reducible refine (WW.out _ B1.out).mono ?_); rintro e w3 ⟨rfl, hb3⟩; have B3 := Lib.hid hb3; clear hb3)))
                      go_roundg (s.size - (n + m))
                      case measure => omega
                      case rel => exact ⟨n + m, acc ++ [x], o ++ xs, by omega, rfl, by go_num, rfl, JN, by rw [List.length_append]; simp; omega, by rw [ByteArray.size_append]; simp only [List.length_append, List.length_cons, List.length_nil]; omega, AN, PD, Lib.hid (by rw [hws.out, ST.out]; simp), B3⟩
                    · have ON : o.size ≠ 0 := by
                        intro h
                        have := str_emp h
                        rw [HO.out] at this
                        have h2 := congrArg ByteArray.size this
                        rw [strN_size] at h2
                        exact ha ((joinF_ne hne.out).1 (List.length_eq_zero_iff.1 h2))
                      have hz := str_ne ON
                      have JN : Hid (o ++ ⟨#[32]⟩ ++ xs = strN (joinF (acc ++ [x]))) := Lib.hid (by rw [joinF_snoc, if_neg ha, XS.out, HO.out, ← strN_app, ← strN_app]; rfl)
                      have AN : Hid (∀ y ∈ acc ++ [x], y ≠ []) := Lib.hid (by intro y hy; rcases List.mem_append.1 hy with hy | hy; exact hne.out y hy; simp at hy; rw [hy]; exact XN.out)
                      clear ha
                      go_wp2_with (first | (go_at_call 21; refine (RR1.out _).mono ?_; rintro e w1 ⟨rfl, rfl⟩) | (go_at_call 29; ((with_reducible refine (WW1.out _ B1.out).mono ?_); rintro e w3 ⟨rfl, hb3⟩; have B1 := Lib.hid hb3; clear hb3)) | (go_at_call 29; ((with_reducible refine (WW.out _ B1.out).mono ?_); rintro e w3 ⟨rfl, hb3⟩; have B3 := Lib.hid hb3; clear hb3)))
                      go_roundg (s.size - (n + m))
                      case measure => omega
                      case rel => exact ⟨n + m, acc ++ [x], _, by omega, rfl, by go_num, rfl, JN, by rw [List.length_append]; simp; omega, by rw [ByteArray.size_append, ByteArray.size_append]; simp only [List.length_append, List.length_cons, List.length_nil]; rw [show (ByteArray.mk #[32]).size = 1 from rfl]; omega, AN, PD, Lib.hid (by rw [hws.out, ST.out]; simp), B3⟩
                  · obtain ⟨k, hk⟩ : ∃ k, fu = k + 1 := ⟨fu - 1, by have := hfu.out.1; omega⟩
                    have NX : Hid (s.size - n + 1 ≤ k + (m + r) ∧ lgN enc ((bs s).drop n) k (m + r) = lgF enc ((bs s).drop n)) := Lib.hid ⟨by have := hfu.out.1; omega, by
                      have a := hfu.out.2
                      rw [hk, lgN_go (by rw [DL.out]; omega) (by rw [← HR.out]; exact WS.out.2 (by omega)), ← HR.out] at a
                      exact a⟩
                    clear hk
                    go_wp2_with (first | (go_at_call 21; refine (RR1.out _).mono ?_; rintro e w' ⟨rfl, rfl⟩) | (go_at_call 29; ((with_reducible refine (WW1.out _ B1.out).mono ?_); rintro e w3 ⟨rfl, hb3⟩; have B1 := Lib.hid hb3; clear hb3)))
                    go_roundg (s.size - n - (m + r))
                    case measure => omega
                    case rel => exact ⟨m + r, k, by omega, rfl, by go_num, NX, TK, PD2, B1⟩
                · have STOP : Hid (lgF enc ((bs s).drop n) = m) := Lib.hid (by
                    rw [← hfu.out.2]
                    exact lgN_stop (fun c => by rw [DL.out] at c; omega))
                  have LG : Hid (lgF enc ((bs s).drop n) = m) := Lib.hid (STOP.out)
                  have hpos := lgF_pos H01.out HNE.out hpn.out (fun x hx => bs_lt s x (List.mem_of_mem_drop hx))
                  rw [LG.out] at hpos
                  have LW := Lib.hid (lgW_word H01.out HNE.out hpn.out (fun x hx => bs_lt s x (List.mem_of_mem_drop hx)))
                  rw [LG.out] at LW
                  have hst := wordsF_step H01.out HNE.out hpn.out (fun x hx => bs_lt s x (List.mem_of_mem_drop hx))
                  have hpd := lgF_prt (enc := enc) hpn.out
                  rw [LG.out] at hst hpd
                  rw [List.drop_drop] at hst hpd
                  have W2 := WC.out m hm
                  obtain ⟨x, hx⟩ : ∃ x, x = wordF (isQ enc) (((bs s).drop n).take m) := ⟨_, rfl⟩
                  rw [← hx] at W2
                  have hxl : x.length ≤ 75 := by rw [hx]; exact LW.out.2.2.2
                  have hlw : lgW enc ((bs s).drop n) = x := by rw [hx]; exact LW.out.1
                  rw [hlw] at hst
                  have ST := Lib.hid hst; have PD := Lib.hid hpd
                  have XN : Hid (x ≠ []) := Lib.hid (by rw [hx]; exact wordF_pos _ _)
                  obtain ⟨xs, hxs⟩ : ∃ xs, xs = strN x := ⟨_, rfl⟩
                  have xsz : xs.size ≤ 75 := by rw [hxs, strN_size]; exact hxl
                  rw [← hxs] at W2
                  have WW := Lib.hid W2; have XS := Lib.hid hxs
                  clear hst hpd W2 hlw hxl hx hxs LW
                  by_cases ha : acc = []
                  · have hz : o.toList.isEmpty = true := by rw [HO.out, ha, ByteArray.toList_eq]; rfl
                    have OE : Hid (o = ⟨#[]⟩) := Lib.hid (by rw [HO.out, ha]; rfl)
                    have JN : Hid (o ++ xs = strN (joinF (acc ++ [x]))) := Lib.hid (by rw [OE.out, joinF_snoc, if_pos ha, XS.out]; exact bs_eq (by rw [bs_app]; rfl))
                    have AN : Hid (∀ y ∈ acc ++ [x], y ≠ []) := Lib.hid (by rw [ha]; intro y hy; simp at hy; rw [hy]; exact XN.out)
                    have al : acc.length = 0 := by rw [ha]; rfl
                    clear ha
                    go_wp2_with (go_at_call 29; ((with_reducible refine (WW.out _ B1.out).mono ?_); rintro e w3 ⟨rfl, hb3⟩; have B3 := Lib.hid hb3; clear hb3))
                    go_roundg (s.size - (n + m))
                    case measure => omega
                    case rel => exact ⟨n + m, acc ++ [x], o ++ xs, by omega, rfl, by go_num, rfl, JN, by rw [List.length_append]; simp; omega, by rw [ByteArray.size_append]; simp only [List.length_append, List.length_cons, List.length_nil]; omega, AN, PD, Lib.hid (by rw [hws.out, ST.out]; simp), B3⟩
                  · have ON : o.size ≠ 0 := by
                      intro h
                      have := str_emp h
                      rw [HO.out] at this
                      have h2 := congrArg ByteArray.size this
                      rw [strN_size] at h2
                      exact ha ((joinF_ne hne.out).1 (List.length_eq_zero_iff.1 h2))
                    have hz := str_ne ON
                    have JN : Hid (o ++ ⟨#[32]⟩ ++ xs = strN (joinF (acc ++ [x]))) := Lib.hid (by rw [joinF_snoc, if_neg ha, XS.out, HO.out, ← strN_app, ← strN_app]; rfl)
                    have AN : Hid (∀ y ∈ acc ++ [x], y ≠ []) := Lib.hid (by intro y hy; rcases List.mem_append.1 hy with hy | hy; exact hne.out y hy; simp at hy; rw [hy]; exact XN.out)
                    clear ha
                    go_wp2_with (go_at_call 29; ((with_reducible refine (WW.out _ B1.out).mono ?_); rintro e w3 ⟨rfl, hb3⟩; have B3 := Lib.hid hb3; clear hb3))
                    go_roundg (s.size - (n + m))
                    case measure => omega
                    case rel => exact ⟨n + m, acc ++ [x], _, by omega, rfl, by go_num, rfl, JN, by rw [List.length_append]; simp; omega, by rw [ByteArray.size_append, ByteArray.size_append]; simp only [List.length_append, List.length_cons, List.length_nil]; rw [show (ByteArray.mk #[32]).size = 1 from rfl]; omega, AN, PD, Lib.hid (by rw [hws.out, ST.out]; simp), B3⟩
            · have hw : wordsF enc (bs s) = acc := by rw [hws.out, List.drop_of_length_le (by rw [bs_length]; omega)]; simp [wordsF, wdN]
              have HW := Lib.hid hw
              clear hw
              go_wp2_with fail
              go_ret2
              exact ⟨by rw [R.out, HW.out, HO.out]; rfl, HB.out⟩
      · have R : Hid (encR enc (bs s) = (bs s, 0)) := Lib.hid (by unfold encR; rw [if_neg N01.out, if_neg NL.out, if_neg (by rw [← HBB.out]; decide), if_pos HC.out.symm])
        rcases qq with ⟨q0, q1⟩ | ⟨q0, q1⟩
        all_goals
          go_enter Tryd.func23, Tryd.ntmps23
          go_wp2_with (first | (go_at_call 22; refine (P1.out _).mono ?_; rintro e w1 ⟨rfl, rfl⟩) | (go_at_call 24; refine (P2.out _).mono ?_; rintro e w1 ⟨rfl, rfl⟩))
          go_ret2
          exact ⟨by rw [R.out]; simp only [strN_bs]; rfl, Below.refl _ _⟩
theorem rEncode_any (s : ByteArray) (enc : Int) (w : World) (hs : s.size ≤ maxLen) :
    Calls Tryd.prog 23 #[.string s, .int .i64 enc] w (EncPost enc (bs s) w) := by
  by_cases h : enc = 0 ∨ enc = 1
  · exact rEncode01_any s enc w hs h
  · have h' : enc ≠ 0 ∧ enc ≠ 1 := by omega
    have R : Hid (encR enc (bs s) = ([], 2)) := Lib.hid (by unfold encR; rw [if_pos h'])
    have q0 : (enc != 0) = true := int_neq h'.1
    have q1 : (enc != 1) = true := int_neq h'.2
    clear h h'
    go_enter Tryd.func23, Tryd.ntmps23
    go_wp2_with fail
    go_ret2
    exact ⟨by rw [R.out]; rfl, Below.refl _ _⟩
end Go.Proofs.YtbgggeobpiaamaaDoor
