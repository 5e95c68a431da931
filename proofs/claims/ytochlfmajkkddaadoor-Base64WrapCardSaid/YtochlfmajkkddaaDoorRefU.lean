/- Walk of the reference's Unwrap, and of the statement Base64Unwrap. -/
import Derived.Test.YtochlfmajkkddaaDoorUnw
import Derived.Test.YtochlfmajkkddaaDoorRefE
import Derived.Test.YtochlfmajkkddaaDoorEncE
namespace Go.Proofs.YtochlfmajkkddaaDoor
open Go.RowKit Go.Maps
set_option linter.unusedVariables false

theorem runwrap_empty (w : World) : Calls Tryd.prog 21 #[.string ⟨#[]⟩] w (UnwPost w (unwF [])) := by
  have hu : unwF [] = ([], 0, 0) := by decide
  rw [hu]
  clear hu
  go_enter Tryd.func21, Tryd.ntmps21
  go_wp2_with fail
  refine wp_loop_rounds 1 ?_
  rw [rounds_succ]
  go_wp2_with fail
  go_ret3
  exact ⟨rfl, Below.refl _ _⟩

theorem runwrap_short (w : World) (s : ByteArray) (hs : s.size ≤ 349528) (h0 : s.size ≠ 0) (hl : (bs s).getD (s.size - 1) 0 ≠ 10) : Calls Tryd.prog 21 #[.string s] w (UnwPost w (unwF (bs s))) := by
  have hu : unwF (bs s) = ([], s.size, 4) := by
    unfold unwF
    rw [if_neg (by rw [bs_length]; omega), if_pos ⟨by intro e; rw [← bs_length, e] at h0; exact h0 rfl, by rw [bs_length]; exact hl⟩, bs_length]
  rw [hu]
  obtain ⟨c, hc⟩ : ∃ c, c = (bs s).getD (s.size - 1) 0 := ⟨_, rfl⟩
  have hx : ∀ w, (Instr.index 9 (.string s) (.int .i64 ((s.size : Int) - 1))).run Tryd.prog w = .ok (.int .u8 (c : Int)) w := fun w => by
    rw [idx_str 9 Tryd.underlying9 s .i64 ((s.size : Int) - 1) (s.size - 1) (by omega) (by omega), hc]
  rw [← hc] at hl
  have hc' : ((c : Int) != 10) = true := int_neq (by omega)
  have hne := str_ne s h0
  have hne2 : s.toList.isEmpty = false := by simpa using hne
  clear hc hl hu
  go_enter Tryd.func21, Tryd.ntmps21
  go_wp2_with fail
  go_ret3
  exact ⟨rfl, Below.refl _ _⟩

/-- The width that the reference has seen so far. -/
def seen (first fr : Nat) : Nat := if fr = 0 then 0 else first

set_option maxHeartbeats 1000000 in
theorem runwrap_lines (w : World) (s : ByteArray) (hs : s.size ≤ 349528) (h0 : s.size ≠ 0) (hl : (bs s).getD (s.size - 1) 0 = 10) : Calls Tryd.prog 21 #[.string s] w (UnwPost w (unwF (bs s))) := by
  have hu : unwF (bs s) = unw (bs s) (nl (bs s)) (s.size + 1) 0 [] := by
    unfold unwF
    rw [if_neg (by rw [bs_length]; omega), if_neg (by rw [bs_length]; intro h; exact h.2 hl), bs_length]
  rw [hu]
  obtain ⟨c, hc⟩ : ∃ c, c = (bs s).getD (s.size - 1) 0 := ⟨_, rfl⟩
  have hx : ∀ w, (Instr.index 9 (.string s) (.int .i64 ((s.size : Int) - 1))).run Tryd.prog w = .ok (.int .u8 (c : Int)) w := fun w => by
    rw [idx_str 9 Tryd.underlying9 s .i64 ((s.size : Int) - 1) (s.size - 1) (by omega) (by omega), hc]
  have hc' : ((c : Int) != 10) = false := int_nneq (by omega)
  have hne := str_ne s h0
  have hne2 : s.toList.isEmpty = false := by simpa using hne
  obtain ⟨l, hll⟩ : ∃ l, l = bs s := ⟨_, rfl⟩
  have hlen : l.length = s.size := by rw [hll, bs_length]
  have hlast : l.getD (l.length - 1) 0 = 10 := by rw [hlen, hll]; exact hl
  obtain ⟨first, hf⟩ : ∃ f, f = nl l := ⟨_, rfl⟩
  have hf0 := nl_rest (fr := 0) hlast (by omega)
  rw [List.drop_zero, ← hf] at hf0
  rw [← hll, ← hf]
  have hl256 : ∀ x ∈ l, x < 256 := by rw [hll]; exact bs_lt s
  have HLL := Lib.hid hll; have HLEN := Lib.hid hlen; have HLAST := Lib.hid hlast; have H256 := Lib.hid hl256; have HF := Lib.hid hf
  have hfs : first ≤ 349528 := by have := hf0.2; omega
  clear hu hc hl hll hlen hlast hf hf0 hl256
  go_enter Tryd.func21, Tryd.ntmps21
  go_wp2_with fail
  clear hx hc' hne hne2
  go_loopg [5, 6, 7, 8] s.size (fun gk o wi f i wr => ∃ (p fr k : Nat) (acc : List Nat), w = wr ∧ fr ≤ p ∧ p ≤ s.size ∧ gk = s.size - p ∧ i = .int .i64 (p : Int) ∧ f = .int .i64 (fr : Int) ∧ wi = .int .i64 ((seen first fr : Nat) : Int) ∧ o = .string (strN acc) ∧ s.size - fr < k ∧ acc.length ≤ fr ∧ (fr ≠ 0 → first ≠ 0) ∧ (∀ j, fr ≤ j → j < p → l.getD j 0 ≠ 10) ∧ unw l first k fr acc = unw l first (s.size + 1) 0 [])
  case atStart => exact ⟨0, 0, s.size + 1, [], rfl, by omega, by omega, by omega, rfl, rfl, rfl, rfl, by omega, by simp, fun h => absurd rfl h, fun j h1 h2 => by omega, rfl⟩
  case round =>
    obtain ⟨p, fr, k, acc, rfl, hfp, hp, rfl, rfl, rfl, rfl, rfl, hk, hal, hf1, hno, hun⟩ := hrel
    have HUN := Lib.hid hun; have HNO := Lib.hid hno; have HF1 := Lib.hid hf1
    clear hun hno hf1
    by_cases hlt : p < s.size
    · obtain ⟨g, hg⟩ : ∃ g, g = l.getD p 0 := ⟨_, rfl⟩
      have hxp : ∀ w, (Instr.index 9 (.string s) (.int .i64 (p : Int))).run Tryd.prog w = .ok (.int .u8 (g : Int)) w := fun w => by
        rw [idx_str 9 Tryd.underlying9 s .i64 (p : Int) p rfl hlt, hg, HLL.out]
      have HG := Lib.hid hg
      clear hg
      by_cases hg10 : g = 10
      · have hg' : ((g : Int) != 10) = false := int_nneq (by omega)
        -- the line's width
        obtain ⟨wd, hwd⟩ : ∃ x, x = p - fr := ⟨_, rfl⟩
        have hnl : nl (l.drop fr) = wd := by
          have hlp : p < l.length := by rw [HLEN.out]; exact hlt
          have : ixo (l.drop fr) 10 = some wd := by
            refine ixo_of (by simp; omega) ?_ ?_
            · rw [List.getElem_drop]
              have e : fr + wd = p := by omega
              simp only [e]
              have := HG.out
              rw [List.getD_eq_getElem?_getD, List.getElem?_eq_getElem hlp, Option.getD_some] at this
              rw [← this]; exact hg10
            · intro j hj
              rw [List.getElem_drop]
              have := HNO.out (fr + j) (by omega) (by omega)
              rw [List.getD_eq_getElem?_getD, List.getElem?_eq_getElem (by omega), Option.getD_some] at this
              exact this
          unfold nl
          rw [this]
          rfl
        have ewd : (p : Int) - (fr : Int) = (wd : Int) := by omega
        have hwdp : fr + wd = p := by omega
        have WD := Lib.hid hnl; have HWD := Lib.hid hwd; have HWP := Lib.hid hwdp
        clear hnl hwd hwdp
        have hun_k : 0 < k := by omega
        have hwl : wd ≤ 349528 := by omega
        -- the width that counts
        obtain ⟨sn, hsn⟩ : ∃ x, x = seen first fr := ⟨_, rfl⟩
        rw [← hsn]
        have hsn0 : (fr = 0 → sn = 0 ∧ wd = first) ∧ (fr ≠ 0 → sn = first ∧ first ≠ 0) := by
          refine ⟨fun h => ⟨by rw [hsn, seen, if_pos h], ?_⟩, fun h => ⟨by rw [hsn, seen, if_neg h], HF1.out h⟩⟩
          have := WD.out
          rw [h, List.drop_zero, ← HF.out] at this
          exact this.symm
        have SN := Lib.hid hsn0
        clear hsn0 hsn
        have key : ∀ (z : Nat), True := fun _ => trivial
        clear key
        by_cases hfr0 : fr = 0
        · have hs1 : sn = 0 := (SN.out.1 hfr0).1
          have hs2 : wd = first := (SN.out.1 hfr0).2
          have hs1' : ((sn : Int) == 0) = true := int_eq (by omega)
          have HS2 := Lib.hid hs2; have HFR0 := Lib.hid hfr0; have HS1 := Lib.hid hs1
          clear hs1 hs2 hfr0
          by_cases c0 : wd = 0
          · have c0' : ((wd : Int) == 0) = true := int_eq (by omega)
            have C0 := Lib.hid c0
            clear c0
            go_wp2_with fail
            all_goals go_ret3
            all_goals
              rw [← HUN.out, unw_bad (by rw [HLEN.out]; omega) hun_k (by rw [WD.out]; exact .inl C0.out)]
              exact ⟨rfl, Below.refl _ _⟩
          · have c0' : ((wd : Int) == 0) = false := int_ne (by omega)
            by_cases c1 : 998 < wd
            · go_wp2_with fail
              all_goals go_ret3
              all_goals
                rw [← HUN.out, unw_bad (by rw [HLEN.out]; omega) hun_k (by rw [WD.out]; exact .inr (.inl c1))]
                exact ⟨rfl, Below.refl _ _⟩
            · have hex := extract_strN s fr p
              rw [← HLL.out, ← HWD.out] at hex
              have hsz : (strN acc).size ≤ 400000 := by rw [strN_size]; omega
              have hsz2 : (strN ((l.drop fr).take wd)).size ≤ 400000 := by rw [strN_size, List.length_take]; omega
              go_wp2_with fail
              all_goals go_roundg (s.size - (p + 1))
              case measure => omega
              case rel =>
                obtain ⟨k', rfl⟩ : ∃ k', k = k' + 1 := ⟨k - 1, by omega⟩
                refine ⟨p + 1, p + 1, k', acc ++ (l.drop fr).take wd, rfl, by omega, by omega, rfl, by go_num, by go_num, ?_, ?_, by omega, ?_, fun _ => by rw [← HS2.out]; exact c0, fun j h1 h2 => by omega, ?_⟩
                · rw [seen, if_neg (by omega), ← HS2.out]
                · exact congrArg Value.string (strN_append _ _)
                · rw [List.length_append, List.length_take]; have := HWP.out; omega
                · rw [← HUN.out, unw_step (by rw [HLEN.out]; omega) (by rw [WD.out, HS2.out]; have := HS2.out; omega), WD.out, HWP.out]
        · have hs1 : sn = first := (SN.out.2 hfr0).1
          have hs2 : first ≠ 0 := (SN.out.2 hfr0).2
          subst hs1
          have hs1' : ((sn : Int) == 0) = false := int_ne (by omega)
          by_cases c0 : wd = 0
          · have c0' : ((wd : Int) == 0) = true := int_eq (by omega)
            have C0 := Lib.hid c0
            clear c0
            go_wp2_with fail
            all_goals go_ret3
            all_goals
              rw [← HUN.out, unw_bad (by rw [HLEN.out]; omega) hun_k (by rw [WD.out]; exact .inl C0.out)]
              exact ⟨rfl, Below.refl _ _⟩
          · have c0' : ((wd : Int) == 0) = false := int_ne (by omega)
            by_cases c1 : 998 < wd
            · go_wp2_with fail
              all_goals go_ret3
              all_goals
                rw [← HUN.out, unw_bad (by rw [HLEN.out]; omega) hun_k (by rw [WD.out]; exact .inr (.inl c1))]
                exact ⟨rfl, Below.refl _ _⟩
            · by_cases c2 : sn < wd
              · go_wp2_with fail
                all_goals go_ret3
                all_goals
                  rw [← HUN.out, unw_bad (by rw [HLEN.out]; omega) hun_k (by rw [WD.out]; exact .inr (.inr (.inl c2)))]
                  exact ⟨rfl, Below.refl _ _⟩
              · by_cases c3 : wd < sn ∧ p + 1 < s.size
                · obtain ⟨c4, c5⟩ := c3
                  have c6 : ((p : Int) != (s.size : Int) - 1) = true := int_neq (by omega)
                  go_wp2_with fail
                  all_goals go_ret3
                  all_goals
                    rw [← HUN.out, unw_bad (by rw [HLEN.out]; omega) hun_k (by rw [WD.out, HLEN.out]; have := HWP.out; exact .inr (.inr (.inr ⟨c4, by omega⟩)))]
                    exact ⟨rfl, Below.refl _ _⟩
                · have hex := extract_strN s fr p
                  rw [← HLL.out, ← HWD.out] at hex
                  have hsz : (strN acc).size ≤ 400000 := by rw [strN_size]; omega
                  have hsz2 : (strN ((l.drop fr).take wd)).size ≤ 400000 := by rw [strN_size, List.length_take]; omega
                  have C3 := Lib.hid c3
                  clear c3
                  by_cases c4 : wd < sn
                  · have c6 : ((p : Int) != (s.size : Int) - 1) = false := int_nneq (by have := C3.out; omega)
                    go_wp2_with fail
                    all_goals go_roundg (s.size - (p + 1))
                    case measure => omega
                    case rel =>
                      obtain ⟨k', rfl⟩ : ∃ k', k = k' + 1 := ⟨k - 1, by omega⟩
                      refine ⟨p + 1, p + 1, k', acc ++ (l.drop fr).take wd, rfl, by omega, by omega, rfl, by go_num, by go_num, ?_, ?_, by omega, ?_, fun _ => hs2, fun j h1 h2 => by omega, ?_⟩
                      · rw [seen, if_neg (by omega)]
                      · exact congrArg Value.string (strN_append _ _)
                      · rw [List.length_append, List.length_take]; have := HWP.out; omega
                      · rw [← HUN.out, unw_step (by rw [HLEN.out]; omega) (by rw [WD.out, HLEN.out]; have := HWP.out; have := C3.out; omega), WD.out, HWP.out]
                  · go_wp2_with fail
                    all_goals go_roundg (s.size - (p + 1))
                    case measure => omega
                    case rel =>
                      obtain ⟨k', rfl⟩ : ∃ k', k = k' + 1 := ⟨k - 1, by omega⟩
                      refine ⟨p + 1, p + 1, k', acc ++ (l.drop fr).take wd, rfl, by omega, by omega, rfl, by go_num, by go_num, ?_, ?_, by omega, ?_, fun _ => hs2, fun j h1 h2 => by omega, ?_⟩
                      · rw [seen, if_neg (by omega)]
                      · exact congrArg Value.string (strN_append _ _)
                      · rw [List.length_append, List.length_take]; have := HWP.out; omega
                      · rw [← HUN.out, unw_step (by rw [HLEN.out]; omega) (by rw [WD.out, HLEN.out]; have := HWP.out; have := C3.out; omega), WD.out, HWP.out]
      · have hg' : ((g : Int) != 10) = true := int_neq (by omega)
        go_wp2_with fail
        go_roundg (s.size - (p + 1))
        case measure => omega
        case rel =>
          refine ⟨p + 1, fr, k, acc, rfl, by omega, by omega, rfl, by go_num, rfl, rfl, rfl, hk, hal, HF1.out, ?_, HUN.out⟩
          intro j h1 h2
          rcases (by omega : j < p ∨ j = p) with h | rfl
          · exact HNO.out j h1 h
          · rw [← HG.out]; exact hg10
    · have hpe : p = s.size := by omega
      have hfe : fr = s.size := by
        rcases Nat.lt_or_ge fr s.size with h | h
        · exact absurd (by have := HLAST.out; rw [HLEN.out] at this; exact this) (HNO.out (s.size - 1) (by omega) (by omega))
        · omega
      have hd := unw_done (l := l) (first := first) (k := k) (fr := fr) (acc := acc) (by rw [HLEN.out]; omega) (by omega)
      have HD := Lib.hid hd
      have hsz : (strN acc).size = acc.length := strN_size _
      clear hd hfe hpe
      by_cases hbig : 174764 < acc.length
      · go_wp2_with fail
        go_ret3
        rw [← HUN.out, HD.out, if_pos hbig]
        exact ⟨rfl, Below.refl _ _⟩
      · go_wp2_with fail
        go_ret3
        rw [← HUN.out, HD.out, if_neg hbig]
        exact ⟨rfl, Below.refl _ _⟩

theorem runwrap_any (w : World) (s : ByteArray) (hs : s.size ≤ 349528) : Calls Tryd.prog 21 #[.string s] w (UnwPost w (unwF (bs s))) := by
  by_cases h0 : s.size = 0
  · obtain rfl : s = ⟨#[]⟩ := by
      apply ByteArray.ext
      exact Array.eq_empty_of_size_eq_zero h0
    exact runwrap_empty w
  · by_cases hl : (bs s).getD (s.size - 1) 0 = 10
    · exact runwrap_lines w s hs h0 hl
    · exact runwrap_short w s hs h0 hl

end Go.Proofs.YtochlfmajkkddaaDoor
