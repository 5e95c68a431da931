/- Walks of the reference's Wrap and of the statement Base64Wrap. -/
import Derived.Test.YtochlfmajkkddaaDoorWrap
namespace Go.Proofs.YtochlfmajkkddaaDoor
open Go.RowKit Go.Maps
set_option linter.unusedVariables false

theorem mod_nat (a b : Nat) : ((a : Int) + 1) % (b : Int) = (((a + 1) % b : Nat) : Int) := by push_cast; rfl

set_option maxHeartbeats 1000000 in
theorem rwrap_in (w : World) (s : ByteArray) (wd : Nat) (hw1 : 1 ≤ wd) (hw9 : wd ≤ 998) (hs : s.size ≤ 174764) : Calls Tryd.prog 27 #[.string s, .int .i64 (wd : Int)] w (WrapPost w (wrapF (bs s) (wd : Int))) := by
  have hu : wrapF (bs s) (wd : Int) = if 10 ∈ bs s then ([], 6) else (lines wd (bs s), 0) := by
    unfold wrapF
    rw [if_neg (by omega), if_neg (by rw [bs_length]; omega), Int.toNat_natCast]
  rw [hu]
  clear hu
  obtain ⟨l, hll⟩ : ∃ l, l = bs s := ⟨_, rfl⟩
  have hlen : l.length = s.size := by rw [hll, bs_length]
  rw [← hll]
  obtain ⟨R, hR⟩ : ∃ R, R = if 10 ∈ l then (([], 6) : List Nat × Nat) else (lines wd l, 0) := ⟨_, rfl⟩
  rw [← hR]
  have HLL := Lib.hid hll; have HLEN := Lib.hid hlen; have HRR := Lib.hid hR
  clear hll hlen hR
  go_enter Tryd.func27, Tryd.ntmps27
  go_wp2_with fail
  go_loopg [6] s.size (fun gk i wr => ∃ (p : Nat), w = wr ∧ p ≤ s.size ∧ gk = s.size - p ∧ i = .int .i64 (p : Int) ∧ ∀ j, j < p → l.getD j 0 ≠ 10)
  case atStart => exact ⟨0, rfl, by omega, by omega, rfl, fun j h => by omega⟩
  case round =>
    obtain ⟨p, rfl, hp, rfl, rfl, hno⟩ := hrel
    have HNO := Lib.hid hno
    clear hno
    by_cases hlt : p < s.size
    · obtain ⟨g, hg⟩ : ∃ g, g = l.getD p 0 := ⟨_, rfl⟩
      have hxp : ∀ w, (Instr.index 9 (.string s) (.int .i64 (p : Int))).run Tryd.prog w = .ok (.int .u8 (g : Int)) w := fun w => by
        rw [idx_str 9 Tryd.underlying9 s .i64 (p : Int) p rfl hlt, hg, HLL.out]
      have HG := Lib.hid hg
      clear hg
      by_cases hg10 : g = 10
      · have hg' : ((g : Int) == 10) = true := int_eq (by omega)
        have hmem : 10 ∈ l := by
          have hlp : p < l.length := by rw [HLEN.out]; exact hlt
          have := HG.out
          rw [List.getD_eq_getElem?_getD, List.getElem?_eq_getElem hlp, Option.getD_some] at this
          rw [← hg10, this]
          exact List.getElem_mem hlp
        have HM := Lib.hid hmem
        clear hmem hg10
        go_wp2_with fail
        go_ret2
        rw [HRR.out, if_pos HM.out]
        exact ⟨rfl, Below.refl _ _⟩
      · have hg' : ((g : Int) == 10) = false := int_ne (by omega)
        go_wp2_with fail
        go_roundg (s.size - (p + 1))
        case measure => omega
        case rel =>
          refine ⟨p + 1, rfl, by omega, rfl, by go_num, ?_⟩
          intro j h2
          rcases (by omega : j < p ∨ j = p) with h | rfl
          · exact HNO.out j h
          · rw [← HG.out]; exact hg10
    · have hpe : p = s.size := by omega
      have hnm : Hid (¬ 10 ∈ l) := by
        intro hm
        obtain ⟨j, hj, he⟩ := List.mem_iff_getElem.1 hm
        have := HNO.out j (by rw [HLEN.out] at hj; omega)
        rw [List.getD_eq_getElem?_getD, List.getElem?_eq_getElem hj, Option.getD_some] at this
        exact this he
      clear hpe
      go_wp2_with fail
      go_loopg [7, 8] s.size (fun gk o i wr => ∃ (q : Nat), w = wr ∧ q ≤ s.size ∧ gk = s.size - q ∧ i = .int .i64 (q : Int) ∧ o = .string (strN (wpre wd l q)))
      case atStart => exact ⟨0, rfl, by omega, by omega, rfl, rfl⟩
      case round =>
        obtain ⟨q, rfl, hq, rfl, rfl, rfl⟩ := hrel
        have hpl := wpre_len wd l q
        by_cases hlt2 : q < s.size
        · have hex := extract_strN s q (q + 1)
          rw [← HLL.out, show q + 1 - q = 1 by omega] at hex
          have htk : (l.drop q).take 1 = [l.getD q 0] := by
            have hql : q < l.length := by rw [HLEN.out]; exact hlt2
            rw [List.drop_eq_getElem_cons hql, List.take_succ_cons, List.take_zero, List.getD_eq_getElem?_getD, List.getElem?_eq_getElem hql, Option.getD_some]
          rw [htk] at hex
          have hsz : (strN (wpre wd l q)).size ≤ 400000 := by rw [strN_size]; omega
          have hsz1 : (strN [l.getD q 0]).size = 1 := strN_size _
          have hsz2 : (strN (wpre wd l q) ++ strN [l.getD q 0]).size ≤ 400001 := by rw [strN_append, strN_size, List.length_append]; simp; omega
          obtain ⟨r, hr⟩ : ∃ r, r = (q + 1) % wd := ⟨_, rfl⟩
          have er : ((q : Int) + 1) % (wd : Int) = (r : Int) := by rw [hr]; exact mod_nat q wd
          have er2 : ((q : Int) + 1).tmod (wd : Int) = (r : Int) := by rw [Int.tmod_eq_emod_of_nonneg (by omega)]; exact er
          obtain ⟨gq, hgq⟩ : ∃ x, x = l.getD q 0 := ⟨_, rfl⟩
          rw [← hgq] at hex hsz1 hsz2
          obtain ⟨W, hW⟩ : ∃ W, W = wpre wd l q := ⟨_, rfl⟩
          rw [← hW] at hsz hsz2 ⊢
          have HR := Lib.hid hr; have HGQ := Lib.hid hgq; have HW := Lib.hid hW
          clear hr htk hgq hW hpl
          by_cases hr0 : r = 0
          · have hr' : ((r : Int) == 0) = true := int_eq (by omega)
            have HR0 := Lib.hid hr0
            clear hr0
            go_wp2_with fail
            go_roundg (s.size - (q + 1))
            case measure => omega
            case rel =>
              refine ⟨q + 1, rfl, by omega, rfl, by go_num, ?_⟩
              rw [wpre, if_pos (.inl (by rw [← HR.out]; exact HR0.out)), ← HW.out, ← HGQ.out]
              refine congrArg Value.string ?_
              rw [strN_append]
              exact strN_append _ [10]
          · have hr' : ((r : Int) == 0) = false := int_ne (by omega)
            by_cases hlast : q = s.size - 1
            · have hl' : ((q : Int) == (s.size : Int) - 1) = true := int_eq (by omega)
              have HLA := Lib.hid hlast
              clear hlast
              go_wp2_with fail
              go_roundg (s.size - (q + 1))
              case measure => omega
              case rel =>
                refine ⟨q + 1, rfl, by omega, rfl, by go_num, ?_⟩
                rw [wpre, if_pos (.inr (by rw [HLEN.out]; exact HLA.out)), ← HW.out, ← HGQ.out]
                refine congrArg Value.string ?_
                rw [strN_append]
                exact strN_append _ [10]
            · have hl' : ((q : Int) == (s.size : Int) - 1) = false := int_ne (by omega)
              go_wp2_with fail
              go_roundg (s.size - (q + 1))
              case measure => omega
              case rel =>
                refine ⟨q + 1, rfl, by omega, rfl, by go_num, ?_⟩
                rw [wpre, if_neg (by rw [← HR.out, HLEN.out]; intro h; rcases h with h | h; exact hr0 h; exact hlast h), ← HW.out, ← HGQ.out, List.append_nil]
                exact congrArg Value.string (strN_append _ _)
        · have hqe : q = s.size := by omega
          have HQE := Lib.hid hqe
          clear hqe
          go_wp2_with fail
          go_ret2
          rw [HRR.out, if_neg hnm.out]
          refine ⟨?_, Below.refl _ _⟩
          simp only
          rw [← wpre_all hw1 l, HLEN.out, ← HQE.out]
          rfl

theorem wrap_any (w : World) (s : ByteArray) (width : Int) (hs : s.size ≤ 174764) : Calls Tryd.prog 26 #[.string s, .int .i64 width] w (WrapPost w (wrapF (bs s) width)) := by
  by_cases hw : width < 1 ∨ 998 < width
  · exact wrap_range w s width hw
  · obtain ⟨wd, rfl⟩ := Int.eq_ofNat_of_zero_le (show 0 ≤ width by omega)
    exact wrap_in w s wd (by omega) (by omega) hs
theorem rwrap_any (w : World) (s : ByteArray) (width : Int) (hs : s.size ≤ 174764) : Calls Tryd.prog 27 #[.string s, .int .i64 width] w (WrapPost w (wrapF (bs s) width)) := by
  by_cases hw : width < 1 ∨ 998 < width
  · exact rwrap_range w s width hw
  · obtain ⟨wd, rfl⟩ := Int.eq_ofNat_of_zero_le (show 0 ≤ width by omega)
    exact rwrap_in w s wd (by omega) (by omega) hs

theorem law_wrap_long (s : ByteArray) (w : World) (width : Int) (hl : 600 < s.size) (hm : s.size ≤ maxLen) (ht : Tab w) :
    Calls Tryd.prog 11 #[.string s, .int .i64 width] w fun e w' => e = .returned (.bool true) ∧ Below w.heap.size w w' := by
  unfold maxLen at hm
  have K1 := Lib.hid (known_any w ht)
  have TB := Lib.hid ht
  clear ht
  go_enter Tryd.func11, Tryd.ntmps11
  go_wp2_with fail
  refine K1.out.mono ?_
  rintro e w1 ⟨rfl, hb1⟩
  have K2 := Lib.hid (known_any w1 (TB.out.below hb1 TB.out.size))
  have HB1 := Lib.hid hb1
  clear hb1
  go_wp2_with fail
  refine K2.out.mono ?_
  rintro e w2 ⟨rfl, hb2⟩
  have HB2 : Hid (Below w.heap.size w w2) := HB1.out.trans (hb2.mono HB1.out.size)
  clear hb2
  go_wp2_with fail
  go_ret
  exact ⟨rfl, HB2.out⟩

theorem law_wrap (w : World) (s : ByteArray) (hm : s.size ≤ maxLen) (width : Int) (hwi : (Lit.int .i64 width).wf = true) (ht : Tab w) :
    Calls Tryd.prog 11 #[.string s, .int .i64 width] w fun e w' => e = .returned (.bool true) ∧ Below w.heap.size w w' := by
  by_cases hl : 600 < s.size
  · exact law_wrap_long s w width hl hm ht
  have hl6 : s.size ≤ 600 := by omega
  have K1 := Lib.hid (known_any w ht)
  obtain ⟨xs, er, hu⟩ : ∃ xs er, wrapF (bs s) width = (xs, er) := ⟨_, _, rfl⟩
  have hback : er = 0 → unwF (bs (strN xs)) = (bs s, 0, 0) ∧ xs.length ≤ 1200 := by
    intro h0
    subst h0
    unfold wrapF at hu
    split at hu
    · simp at hu
    · rename_i hw
      split at hu
      · simp at hu
      · split at hu
        · simp at hu
        · rename_i h10
          simp only [Prod.mk.injEq, and_true] at hu
          obtain ⟨wd, rfl⟩ := Int.eq_ofNat_of_zero_le (show 0 ≤ width by omega)
          simp only [Int.toNat_natCast] at hu
          subst hu
          have hbl := bs_length s
          refine ⟨?_, ?_⟩
          · rw [bs_strN _ (lines_lt (by omega) _ (bs s) (Nat.le_refl _) (bs_lt s))]
            exact unwF_lines (by omega) (by omega) (bs s) (fun x hx e => h10 (by rw [← e]; exact hx)) (by omega)
          · have := lines_len (wd := wd) (by omega) _ (bs s) (Nat.le_refl _)
            omega
  have W1 : Hid (∀ w1, Calls Tryd.prog 26 #[.string s, .int .i64 width] w1 (WrapPost w1 (xs, er))) := fun w1 => by rw [← hu]; exact wrap_any w1 s width (by omega)
  have R1 : Hid (∀ w1, Calls Tryd.prog 27 #[.string s, .int .i64 width] w1 (WrapPost w1 (xs, er))) := fun w1 => by rw [← hu]; exact rwrap_any w1 s width (by omega)
  have HBK := Lib.hid hback
  clear ht hm hu hback hwi
  go_enter Tryd.func11, Tryd.ntmps11
  go_wp2_with fail
  refine K1.out.mono ?_
  rintro e w1 ⟨rfl, hb1⟩
  have HB1 := Lib.hid hb1
  clear hb1
  go_wp2_with fail
  refine (W1.out _).mono ?_
  rintro e w2 ⟨rfl, hb2⟩
  have HB2 : Hid (Below w.heap.size w w2) := HB1.out.trans (hb2.mono HB1.out.size)
  clear hb2
  simp only
  go_wp2_with fail
  refine (R1.out _).mono ?_
  rintro e w3 ⟨rfl, hb3⟩
  have HB3 : Hid (Below w.heap.size w w3) := HB2.out.trans (hb3.mono HB2.out.size)
  clear hb3
  simp only
  by_cases he : er = 0
  · have hb := HBK.out he
    subst he
    simp only [Int.natCast_zero]
    have U1 := unwrap_any w3 (strN xs) (by rw [strN_size]; omega)
    rw [hb.1] at U1
    have HU1 := Lib.hid U1
    clear U1 hb
    go_wp2_with fail
    refine HU1.out.mono ?_
    rintro e w4 ⟨rfl, hb4⟩
    have HB4 : Hid (Below w.heap.size w w4) := HB3.out.trans (hb4.mono HB3.out.size)
    clear hb4
    simp only [strN_bs, Int.natCast_zero]
    go_wp2_with fail
    go_ret
    exact ⟨by simp, HB4.out⟩
  · have he' : ((er : Int) != 0) = true := int_neq (by omega)
    clear he
    go_wp2_with fail
    go_ret
    exact ⟨rfl, HB3.out⟩

end Go.Proofs.YtochlfmajkkddaaDoor
