/- Walks of base64.Wrap, of the reference's Wrap, and of the statement Base64Wrap. -/
import Derived.Test.YtochlfmajkkddaaDoorPureW
import Derived.Test.YtochlfmajkkddaaDoorRefU
namespace Go.Proofs.YtochlfmajkkddaaDoor
open Go.RowKit Go.Maps
set_option linter.unusedVariables false

theorem contains_nl (w : World) (s : ByteArray) : Calls Tryd.prog 40 #[.string s, .string ⟨#[10]⟩] w fun e w' => e = .returned (.bool (decide (0 ≤ ixi (bs s) 10))) ∧ w = w' := by
  by_cases h0 : s = ⟨#[10]⟩
  · subst h0
    have hd : decide (0 ≤ ixi (bs ⟨#[10]⟩) 10) = true := by decide
    rw [hd]
    clear hd
    go_enter Tryd.func40, Tryd.ntmps40
    go_wp2
    go_ret
    exact ⟨rfl, rfl⟩
  · have h := fun w => ext_indexByte s 10 (by decide) w
    have h1 : ([10] == s.toList) = false := by
      rw [beq_eq_false_iff_ne]
      intro e
      apply h0
      apply ByteArray.ext
      apply Array.ext'
      have : s.data.toList = s.toList := by rw [ByteArray.toList_eq]
      rw [this, ← e]
    obtain ⟨k, hk⟩ : ∃ k, k = ixi (bs s) 10 := ⟨_, rfl⟩
    rw [← hk]
    have h' : ∀ w, (callFunc 49 #[.string s, .int .u8 10]).run Tryd.prog w = .ok (.value (.int .i64 k)) w := fun w => by rw [hk]; exact h w
    have hx0 : ∀ w, (Instr.index 9 (.string ⟨#[10]⟩) (.int .i64 0)).run Tryd.prog w = .ok (.int .u8 10) w := fun _ => by kernel_rfl
    clear h hk h0
    by_cases hk0 : 0 ≤ k
    · go_enter Tryd.func40, Tryd.ntmps40
      go_wp2
      go_ret
      exact ⟨by simp [hk0], rfl⟩
    · go_enter Tryd.func40, Tryd.ntmps40
      go_wp2
      go_ret
      exact ⟨by simp [hk0], rfl⟩
theorem ixi_mem (l : List Nat) (c : Nat) : 0 ≤ ixi l c ↔ c ∈ l := by
  unfold ixi
  cases h : ixo l c with
  | none =>
    simp
    intro hm
    exact ixo_none h c hm rfl
  | some k =>
    obtain ⟨hk, h1, _⟩ := ixo_some h
    simp
    rw [← h1]
    exact List.getElem_mem hk

def WrapPost (w : World) (r : List Nat × Nat) (e : Ending) (w' : World) : Prop :=
  e = .returned (.tuple #[.string (strN r.1), .int .i64 (r.2 : Int)]) ∧ Below w.heap.size w w'

theorem wrap_range (w : World) (s : ByteArray) (width : Int) (hw : width < 1 ∨ 998 < width) : Calls Tryd.prog 26 #[.string s, .int .i64 width] w (WrapPost w (wrapF (bs s) width)) := by
  have hu : wrapF (bs s) width = ([], 2) := by unfold wrapF; rw [if_pos hw]
  rw [hu]
  clear hu
  by_cases h1 : width < 1
  all_goals
    go_enter Tryd.func26, Tryd.ntmps26
    go_wp2_with fail
    go_ret2
    exact ⟨rfl, Below.refl _ _⟩
theorem rwrap_range (w : World) (s : ByteArray) (width : Int) (hw : width < 1 ∨ 998 < width) : Calls Tryd.prog 27 #[.string s, .int .i64 width] w (WrapPost w (wrapF (bs s) width)) := by
  have hu : wrapF (bs s) width = ([], 2) := by unfold wrapF; rw [if_pos hw]
  rw [hu]
  clear hu
  by_cases h1 : width < 1
  all_goals
    go_enter Tryd.func27, Tryd.ntmps27
    go_wp2_with fail
    go_ret2
    exact ⟨rfl, Below.refl _ _⟩

set_option maxHeartbeats 1000000 in
theorem wrap_in (w : World) (s : ByteArray) (wd : Nat) (hw1 : 1 ≤ wd) (hw9 : wd ≤ 998) (hs : s.size ≤ 174764) : Calls Tryd.prog 26 #[.string s, .int .i64 (wd : Int)] w (WrapPost w (wrapF (bs s) (wd : Int))) := by
  have hm := sizeMax
  have hu : wrapF (bs s) (wd : Int) = if 10 ∈ bs s then ([], 6) else (lines wd (bs s), 0) := by
    unfold wrapF
    rw [if_neg (by omega), if_neg (by rw [bs_length]; omega), Int.toNat_natCast]
  rw [hu]
  clear hu
  by_cases h10 : 10 ∈ bs s
  · rw [if_pos h10]
    have hd : decide (0 ≤ ixi (bs s) 10) = true := by rw [decide_eq_true_eq, ixi_mem]; exact h10
    have C1 : Hid (∀ w, Calls Tryd.prog 40 #[.string s, .string ⟨#[10]⟩] w fun e w' => e = .returned (.bool true) ∧ w = w') := fun w => by rw [← hd]; exact contains_nl w s
    clear hd h10
    go_enter Tryd.func26, Tryd.ntmps26
    go_wp2_with (first | (go_at_call 15; refine (size_any _ _ (by omega) (by omega)).mono ?_; rintro e w' ⟨rfl, rfl⟩; rw [hm]) | (go_at_call 40; refine (C1.out _).mono ?_; rintro e w' ⟨rfl, rfl⟩))
    go_ret2
    exact ⟨rfl, Below.refl _ _⟩
  · rw [if_neg h10]
    have hd : decide (0 ≤ ixi (bs s) 10) = false := by rw [decide_eq_false_iff_not, ixi_mem]; exact h10
    have C1 : Hid (∀ w, Calls Tryd.prog 40 #[.string s, .string ⟨#[10]⟩] w fun e w' => e = .returned (.bool false) ∧ w = w') := fun w => by rw [← hd]; exact contains_nl w s
    obtain ⟨l, hll⟩ : ∃ l, l = bs s := ⟨_, rfl⟩
    have hlen : l.length = s.size := by rw [hll, bs_length]
    have hl256 : ∀ x ∈ l, x < 256 := by rw [hll]; exact bs_lt s
    rw [← hll]
    have b0 : Bd (w.alloc (.cells #[.pointer none, .slice none 0 0] 67)) w.heap.size w.heap.size 0 67 #[.pointer none, .slice none 0 0] (.slice none 0 0) [] := ⟨heap_alloc_new w _, .inl rfl, rfl, World.ownsRowF_nil _ _ _ _⟩
    have BL : Hid (Below w.heap.size w (w.alloc (.cells #[.pointer none, .slice none 0 0] 67))) := (Below.refl _ _).alloc (Nat.le_refl _) _
    have B0 := Lib.hid b0; have HLL := Lib.hid hll; have HLEN := Lib.hid hlen; have H256 := Lib.hid hl256
    clear b0 hll hlen hl256 hd h10
    go_enter Tryd.func26, Tryd.ntmps26
    go_wp2_with (first | (go_at_call 15; refine (size_any _ _ (by omega) (by omega)).mono ?_; rintro e w' ⟨rfl, rfl⟩; rw [hm]) | (go_at_call 40; refine (C1.out _).mono ?_; rintro e w' ⟨rfl, rfl⟩))
    go_loopg [7] s.size (fun gk i wr => ∃ (fr : Nat) (acc : List Nat) (cs : Array Value) (v : Value), fr ≤ s.size + 998 ∧ gk = s.size - fr ∧ i = .int .i64 (fr : Int) ∧ acc.length ≤ 2 * fr ∧ (∀ x ∈ acc, x < 256) ∧ cs.size = 2 ∧ Bd wr w.heap.size w.heap.size 0 67 cs v acc ∧ Below w.heap.size w wr ∧ acc ++ lines wd (l.drop fr) = lines wd l)
    case atStart => exact ⟨0, [], _, _, by omega, by omega, rfl, by simp, by simp, rfl, B0.out, BL.out, by simp⟩
    case round =>
      obtain ⟨fr, acc, cs, v, hfr, rfl, rfl, hal, ha256, hcs, hbd, hbl, hun⟩ := hrel
      have HA := Lib.hid ha256; have HCS := Lib.hid hcs; have HBD := Lib.hid hbd; have HBL := Lib.hid hbl; have HUN := Lib.hid hun
      clear B0 BL ha256 hcs hbd hbl hun
      by_cases hlt : fr < s.size
      · obtain ⟨q, hq⟩ : ∃ q, q = min (fr + wd) s.size := ⟨_, rfl⟩
        have hq1 : fr ≤ q := by omega
        have hq2 : q ≤ s.size := by omega
        have hex := extract_strN s fr q
        rw [← HLL.out] at hex
        have htk : (l.drop fr).take (q - fr) = (l.drop fr).take wd := by
          rcases (by omega : fr + wd ≤ s.size ∨ s.size < fr + wd) with h | h
          · rw [hq, Nat.min_eq_left h, show fr + wd - fr = wd by omega]
          · rw [List.take_of_length_le (by rw [List.length_drop, HLEN.out]; omega), List.take_of_length_le (by rw [List.length_drop, HLEN.out]; omega)]
        rw [htk] at hex
        obtain ⟨S2, hS2⟩ : ∃ S, S = strN ((l.drop fr).take wd) := ⟨_, rfl⟩
        rw [← hS2] at hex
        have hS2s : S2.size ≤ wd := by rw [hS2, strN_size, List.length_take]; omega
        have hS2b : bs S2 = (l.drop fr).take wd := by rw [hS2]; exact bs_strN _ (fun x hx => H256.out x (List.mem_of_mem_drop (List.mem_of_mem_take hx)))
        have hw := writeString_any wr w.heap.size w.heap.size 0 67 cs v acc S2 HBD.out (by decide) HBL.out.size (by rw [HCS.out]; exact liesB) (by omega)
        rw [hS2b] at hw
        have W1 := Lib.hid hw
        have hne : l.drop fr ≠ [] := by intro e; have := congrArg List.length e; rw [List.length_drop, HLEN.out] at this; simp at this; omega
        have LC := Lib.hid (lines_cons hw1 hne)
        have htl : ((l.drop fr).take wd).length ≤ wd := by rw [List.length_take]; omega
        have hacc2 : Hid (∀ x ∈ acc ++ (l.drop fr).take wd ++ [10], x < 256) := fun x hx => by
          rcases List.mem_append.1 hx with h | h
          · rcases List.mem_append.1 h with h | h
            · exact HA.out x h
            · exact H256.out x (List.mem_of_mem_drop (List.mem_of_mem_take h))
          · simp at h; omega
        have htl0 : Hid (((l.drop fr).take wd).length + 1 ≤ 2 * wd) := by
          have : ((l.drop fr).take wd).length + 1 ≤ 2 * wd := by omega
          exact this
        have HQ := Lib.hid hq; have HT := Lib.hid htl
        clear hw hS2 hS2b htk hne htl
        rcases (by omega : fr + wd ≤ s.size ∨ s.size < fr + wd) with hc | hc
        · obtain rfl : q = fr + wd := by omega
          clear hq
          go_wp2_with (first | (go_at_call 36; refine W1.out.mono ?_; rintro e w1 ⟨rfl, cs', v', hbd', hcs', _, _, hfr'⟩; have HBD' := Lib.hid hbd'; have HCS' : Hid (cs'.size = 2) := hcs'.trans HCS.out; have HBL1 : Hid (Below w.heap.size w w1) := HBL.out.trans (hfr'.below HBL.out.size (Nat.le_refl _) (fun j hj => (HBD.out.row.lt j hj).1)); have W2 := Lib.hid (writeByte_any w1 w.heap.size w.heap.size 0 67 cs' v' _ 10 HBD'.out (by decide) HBL1.out.size (by rw [HCS'.out]; exact liesB) (by rw [List.length_append]; have := HT.out; omega)); clear hbd' hcs' hfr') | (go_at_call 41; refine W2.out.mono ?_; rintro e w2 ⟨rfl, cs2, v2, hbd2, hcs2, _, _, hfr2⟩; have HBD2 := Lib.hid hbd2; have HCS2 : Hid (cs2.size = 2) := hcs2.trans HCS'.out; have HBL2 : Hid (Below w.heap.size w w2) := HBL1.out.trans (hfr2.below HBL1.out.size (Nat.le_refl _) (fun j hj => (HBD'.out.row.lt j hj).1)); clear hbd2 hcs2 hfr2))
          go_roundg (s.size - (fr + wd))
          case measure => omega
          case rel =>
            refine ⟨fr + wd, acc ++ (l.drop fr).take wd ++ [10], cs2, v2, by omega, rfl, by go_num, ?_, hacc2.out, HCS2.out, HBD2.out, HBL2.out, ?_⟩
            · rw [List.length_append, List.length_append, List.length_singleton]; have := htl0.out; omega
            · rw [← HUN.out, LC.out, List.drop_drop]; simp
        · obtain rfl : q = s.size := by omega
          clear hq
          go_wp2_with (first | (go_at_call 36; refine W1.out.mono ?_; rintro e w1 ⟨rfl, cs', v', hbd', hcs', _, _, hfr'⟩; have HBD' := Lib.hid hbd'; have HCS' : Hid (cs'.size = 2) := hcs'.trans HCS.out; have HBL1 : Hid (Below w.heap.size w w1) := HBL.out.trans (hfr'.below HBL.out.size (Nat.le_refl _) (fun j hj => (HBD.out.row.lt j hj).1)); have W2 := Lib.hid (writeByte_any w1 w.heap.size w.heap.size 0 67 cs' v' _ 10 HBD'.out (by decide) HBL1.out.size (by rw [HCS'.out]; exact liesB) (by rw [List.length_append]; have := HT.out; omega)); clear hbd' hcs' hfr') | (go_at_call 41; refine W2.out.mono ?_; rintro e w2 ⟨rfl, cs2, v2, hbd2, hcs2, _, _, hfr2⟩; have HBD2 := Lib.hid hbd2; have HCS2 : Hid (cs2.size = 2) := hcs2.trans HCS'.out; have HBL2 : Hid (Below w.heap.size w w2) := HBL1.out.trans (hfr2.below HBL1.out.size (Nat.le_refl _) (fun j hj => (HBD'.out.row.lt j hj).1)); clear hbd2 hcs2 hfr2))
          go_roundg (s.size - (fr + wd))
          case measure => omega
          case rel =>
            refine ⟨fr + wd, acc ++ (l.drop fr).take wd ++ [10], cs2, v2, by omega, rfl, by go_num, ?_, hacc2.out, HCS2.out, HBD2.out, HBL2.out, ?_⟩
            · rw [List.length_append, List.length_append, List.length_singleton]; have := htl0.out; omega
            · rw [← HUN.out, LC.out, List.drop_drop]; simp
      · have S1 := Lib.hid (bstring_any _ _ _ _ _ _ _ _ HBD.out (by decide) HA.out (by omega))
        go_wp2_with (first | (go_at_call 38; refine S1.out.mono ?_; rintro e w1 ⟨rfl, hbd, hfr'⟩; have FR := Lib.hid hfr'; clear hfr' hbd))
        go_ret2
        have hd : l.drop fr = [] := List.drop_of_length_le (by rw [HLEN.out]; omega)
        have := HUN.out
        rw [hd, lines_nil, List.append_nil] at this
        rw [← this]
        exact ⟨rfl, HBL.out.trans (FR.out.below HBL.out.size (Nat.le_refl _) (fun j hj => (HBD.out.row.lt j hj).1))⟩

end Go.Proofs.YtochlfmajkkddaaDoor
