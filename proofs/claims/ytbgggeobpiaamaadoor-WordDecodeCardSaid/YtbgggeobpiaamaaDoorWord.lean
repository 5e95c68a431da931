/- Word. -/
import Derived.Test.YtbgggeobpiaamaaDoorForm
import Derived.Test.YtbgggeobpiaamaaDoorWP
import Derived.Test.YtbgggeobpiaamaaDoorPureR
import Derived.Laws.EntriesVeiled
namespace Go.Proofs.YtbgggeobpiaamaaDoor
open Go.RowKit Go.Maps
set_option linter.unusedVariables false
set_option maxRecDepth 100000

theorem two_block (w : World) (o o2 : Obj) : ((w.alloc o).alloc o2).heap[w.heap.size + 1]? = some o2 := by
  have e : (w.alloc o).heap.size = w.heap.size + 1 := by simp
  rw [← e]; exact heap_alloc_new _ _
theorem kept_cell {B : Nat} {W w1 : World} (hb : Below B W w1) {b i : Nat} {cs : Array Value} {t : TypeId} {fz : Nat × Nat} {v : Value} (h : W.heap[b]? = some (.cells cs t fz)) (hB : b < B) (hi : cs[i]? = some v) : w1.cell? ⟨b, i, none⟩ = some v :=
  (hb.cell (p := ⟨b, i, none⟩) hB).trans ((cell_of_row W b i cs t fz h).trans hi)
theorem below_two {w : World} (o o2 : Obj) : Below w.heap.size w ((w.alloc o).alloc o2) := ((Below.refl _ _).alloc (Nat.le_refl _) o).alloc (by simp) o2
theorem wordR_emp (enc : Int) (h : enc = 0 ∨ enc = 1) {l : List Nat} (hl : l = []) : wordR enc l = ([], 1) := by
  unfold wordR; rw [if_neg (by omega), if_pos hl]
theorem wordR_bad (enc : Int) (h : enc = 0 ∨ enc = 1) {l : List Nat} (hl : l ≠ []) (hp : prt l = false) : wordR enc l = ([], 6) := by
  unfold wordR; rw [if_neg (by omega), if_neg hl, if_pos hp]
theorem wordR_long (enc : Int) (h : enc = 0 ∨ enc = 1) {l : List Nat} (hl : l ≠ []) (hp : prt l = true) (h75 : 75 < (wordF (isQ enc) l).length) : wordR enc l = ([], 5) := by
  unfold wordR; rw [if_neg (by omega), if_neg hl, if_neg (by rw [hp]; decide), if_pos h75]
theorem wordR_ok (enc : Int) (h : enc = 0 ∨ enc = 1) {l : List Nat} (hl : l ≠ []) (hp : prt l = true) (h75 : ¬ 75 < (wordF (isQ enc) l).length) : wordR enc l = (wordF (isQ enc) l, 0) := by
  unfold wordR; rw [if_neg (by omega), if_neg hl, if_neg (by rw [hp]; decide), if_neg h75]
theorem bs_ne {s : ByteArray} (h : s.size ≠ 0) : bs s ≠ [] := fun e => h (by rw [← bs_length, e]; rfl)
def WordPost (enc : Int) (l : List Nat) (w : World) (e : Ending) (w' : World) : Prop := e = .returned (.tuple #[.string (strN (wordR enc l).1), .int .i64 ((wordR enc l).2 : Int)]) ∧ Below w.heap.size w w'
theorem strN_lit (l : List Nat) (s : ByteArray) (h : s.data.toList = l.map UInt8.ofNat) : s = strN l := by
  apply ByteArray.ext; apply Array.toList_inj.1; rw [h]; simp [strN]
theorem strN_app (a b : List Nat) : strN a ++ strN b = strN (a ++ b) := by
  apply ByteArray.ext
  simp [strN, ByteArray.data_append]

set_option maxHeartbeats 1000000 in
theorem wordB_any (s : ByteArray) (w : World) (hs : s.size ≤ 100000) (ht : Tab w) :
    Calls Tryd.prog 12 #[.string s, .int .i64 0] w (WordPost 0 (bs s) w) := by
  have hl := look_form (w.alloc (.map fEs 2)) w.heap.size (heap_alloc_new w _) 0 (.agg aB) 0 rfl
  unfold aB at hl
  have P1 := Lib.hid (isprt_any s ((w.alloc (.map fEs 2)).alloc (.cells aB 46)) (by unfold maxLen; omega))
  have B2 : Hid (Below w.heap.size w ((w.alloc (.map fEs 2)).alloc (.cells aB 46))) := Lib.hid (below_two _ _)
  have H2 : Hid (((w.alloc (.map fEs 2)).alloc (.cells aB 46)).heap[w.heap.size + 1]? = some (.cells aB 46 (0, 0))) := Lib.hid (two_block w _ _)
  have S2 : Hid (((w.alloc (.map fEs 2)).alloc (.cells aB 46)).heap.size = w.heap.size + 2) := Lib.hid (by simp)
  have TB := Lib.hid ht
  clear ht
  by_cases h0 : s.size = 0
  · obtain rfl := str_emp h0
    clear P1 B2 H2 S2
    go_enter Tryd.func12, Tryd.ntmps12
    go_wp2_with (first | (go_at_call 27; refine (forms_any _).mono ?_; rintro e w' ⟨rfl, rfl⟩))
    go_ret2
    exact ⟨by rw [wordR_emp _ (by omega) (bs_emp rfl)]; rfl, below_two _ _⟩
  · have n0 := str_ne h0
    have NE := Lib.hid (bs_ne h0)
    go_enter Tryd.func12, Tryd.ntmps12
    go_wp2_with (first | (go_at_call 27; refine (forms_any _).mono ?_; rintro e w' ⟨rfl, rfl⟩))
    refine P1.out.mono ?_
    rintro e w1 ⟨rfl, hb1⟩
    rw [S2.out] at hb1
    have BW : Hid (Below w.heap.size w w1) := Lib.hid (B2.out.trans (hb1.mono (by omega)))
    have c0 : w1.cell? ⟨w.heap.size + 1, 0, none⟩ = some (.string ⟨#[66]⟩) := kept_cell hb1 H2.out (by omega) rfl
    have c1 : w1.cell? ⟨w.heap.size + 1, 1, none⟩ = some (.func (.func 43) #[] #[]) := kept_cell hb1 H2.out (by omega) rfl
    have z1 : w.heap.size + 2 ≤ w1.heap.size := by have := hb1.size; rw [S2.out] at this; exact this
    clear hb1 P1 H2 S2 B2 hl
    obtain ⟨b, hb⟩ : ∃ b, b = prt (bs s) := ⟨_, rfl⟩
    rw [← hb]
    have HP := Lib.hid hb
    clear hb
    cases b
    · go_wp2_with fail
      go_ret2
      exact ⟨by rw [wordR_bad _ (by omega) NE.out HP.out.symm]; rfl, BW.out⟩
    · have W2 := Lib.hid (form1_any s w1 (by omega) (TB.out.below BW.out TB.out.size))
      go_wp2_with fail
      refine W2.out.mono ?_
      rintro e w2 ⟨rfl, hb2⟩
      have c0' : w2.cell? ⟨w.heap.size + 1, 0, none⟩ = some (.string ⟨#[66]⟩) := (hb2.cell (p := ⟨w.heap.size + 1, 0, none⟩) (by show w.heap.size + 1 < _; omega)).trans c0
      have BW2 : Hid (Below w.heap.size w w2) := Lib.hid (BW.out.trans (hb2.mono BW.out.size))
      have z2 : w.heap.size + 1 < w2.heap.size := by have := hb2.size; omega
      clear c0 c1 hb2 W2 BW z1
      obtain ⟨d, hd⟩ : ∃ d, d = encF (bs s) := ⟨_, rfl⟩
      rw [← hd]
      have hf : wordF (isQ 0) (bs s) = pre8 ++ [66] ++ [63] ++ d ++ [63, 61] := by rw [hd]; rfl
      have HF := Lib.hid hf
      have hdl : d.length ≤ 1000000 := by rw [hd]; rw [encF_len _ (bs_lt s), bs_length]; omega
      clear hd hf
      obtain ⟨t, ht⟩ : ∃ t, t = strN d := ⟨_, rfl⟩
      have hts : t.size = d.length := by rw [ht, strN_size]
      have HT := Lib.hid ht
      rw [← ht]
      clear ht
      by_cases h75 : 75 < d.length + 12
      · go_wp2_with fail
        go_ret2
        exact ⟨by rw [wordR_long _ (by omega) NE.out HP.out.symm (by rw [HF.out]; simp [pre8]; omega)]; rfl, BW2.out⟩
      · go_wp2_with fail
        go_ret2
        exact ⟨by rw [wordR_ok _ (by omega) NE.out HP.out.symm (by rw [HF.out]; simp [pre8]; omega), HF.out, ← strN_app, ← strN_app, ← strN_app, ← strN_app, ← HT.out]; rfl, BW2.out⟩

set_option maxHeartbeats 1000000 in
theorem wordQ_any (s : ByteArray) (w : World) (hs : s.size ≤ 100000) (ht : Tab w) :
    Calls Tryd.prog 12 #[.string s, .int .i64 1] w (WordPost 1 (bs s) w) := by
  have hl := look_form (w.alloc (.map fEs 2)) w.heap.size (heap_alloc_new w _) 1 (.agg aQ) 1 rfl
  unfold aQ at hl
  have P1 := Lib.hid (isprt_any s ((w.alloc (.map fEs 2)).alloc (.cells aQ 46)) (by unfold maxLen; omega))
  have B2 : Hid (Below w.heap.size w ((w.alloc (.map fEs 2)).alloc (.cells aQ 46))) := Lib.hid (below_two _ _)
  have H2 : Hid (((w.alloc (.map fEs 2)).alloc (.cells aQ 46)).heap[w.heap.size + 1]? = some (.cells aQ 46 (0, 0))) := Lib.hid (two_block w _ _)
  have S2 : Hid (((w.alloc (.map fEs 2)).alloc (.cells aQ 46)).heap.size = w.heap.size + 2) := Lib.hid (by simp)
  have TB := Lib.hid ht
  clear ht
  by_cases h0 : s.size = 0
  · obtain rfl := str_emp h0
    clear P1 B2 H2 S2
    go_enter Tryd.func12, Tryd.ntmps12
    go_wp2_with (first | (go_at_call 27; refine (forms_any _).mono ?_; rintro e w' ⟨rfl, rfl⟩))
    go_ret2
    exact ⟨by rw [wordR_emp _ (by omega) (bs_emp rfl)]; rfl, below_two _ _⟩
  · have n0 := str_ne h0
    have NE := Lib.hid (bs_ne h0)
    go_enter Tryd.func12, Tryd.ntmps12
    go_wp2_with (first | (go_at_call 27; refine (forms_any _).mono ?_; rintro e w' ⟨rfl, rfl⟩))
    refine P1.out.mono ?_
    rintro e w1 ⟨rfl, hb1⟩
    rw [S2.out] at hb1
    have BW : Hid (Below w.heap.size w w1) := Lib.hid (B2.out.trans (hb1.mono (by omega)))
    have c0 : w1.cell? ⟨w.heap.size + 1, 0, none⟩ = some (.string ⟨#[81]⟩) := kept_cell hb1 H2.out (by omega) rfl
    have c1 : w1.cell? ⟨w.heap.size + 1, 1, none⟩ = some (.func (.func 47) #[] #[]) := kept_cell hb1 H2.out (by omega) rfl
    have z1 : w.heap.size + 2 ≤ w1.heap.size := by have := hb1.size; rw [S2.out] at this; exact this
    clear hb1 P1 H2 S2 B2 hl
    obtain ⟨b, hb⟩ : ∃ b, b = prt (bs s) := ⟨_, rfl⟩
    rw [← hb]
    have HP := Lib.hid hb
    clear hb
    cases b
    · go_wp2_with fail
      go_ret2
      exact ⟨by rw [wordR_bad _ (by omega) NE.out HP.out.symm]; rfl, BW.out⟩
    · have W2 := Lib.hid (writeQ_any s w1 (by omega))
      go_wp2_with fail
      refine W2.out.mono ?_
      rintro e w2 ⟨rfl, hb2⟩
      have c0' : w2.cell? ⟨w.heap.size + 1, 0, none⟩ = some (.string ⟨#[81]⟩) := (hb2.cell (p := ⟨w.heap.size + 1, 0, none⟩) (by show w.heap.size + 1 < _; omega)).trans c0
      have BW2 : Hid (Below w.heap.size w w2) := Lib.hid (BW.out.trans (hb2.mono BW.out.size))
      have z2 : w.heap.size + 1 < w2.heap.size := by have := hb2.size; omega
      clear c0 c1 hb2 W2 BW z1
      obtain ⟨d, hd⟩ : ∃ d, d = wQ (bs s) := ⟨_, rfl⟩
      rw [← hd]
      have hf : wordF (isQ 1) (bs s) = pre8 ++ [81] ++ [63] ++ d ++ [63, 61] := by rw [hd]; rfl
      have HF := Lib.hid hf
      have hdl : d.length ≤ 1000000 := by rw [hd]; have := wQ_len (bs s); rw [bs_length] at this; omega
      clear hd hf
      obtain ⟨t, ht⟩ : ∃ t, t = strN d := ⟨_, rfl⟩
      have hts : t.size = d.length := by rw [ht, strN_size]
      have HT := Lib.hid ht
      rw [← ht]
      clear ht
      by_cases h75 : 75 < d.length + 12
      · go_wp2_with fail
        go_ret2
        exact ⟨by rw [wordR_long _ (by omega) NE.out HP.out.symm (by rw [HF.out]; simp [pre8]; omega)]; rfl, BW2.out⟩
      · go_wp2_with fail
        go_ret2
        exact ⟨by rw [wordR_ok _ (by omega) NE.out HP.out.symm (by rw [HF.out]; simp [pre8]; omega), HF.out, ← strN_app, ← strN_app, ← strN_app, ← strN_app, ← HT.out]; rfl, BW2.out⟩

set_option maxHeartbeats 1000000 in
theorem wordN_any (s : ByteArray) (enc : Int) (w : World) (h0 : enc ≠ 0) (h1 : enc ≠ 1) :
    Calls Tryd.prog 12 #[.string s, .int .i64 enc] w (WordPost enc (bs s) w) := by
  have hl := look_none (w.alloc (.map fEs 2)) w.heap.size (heap_alloc_new w _) enc h0 h1
  have HR : Hid (wordR enc (bs s) = ([], 2)) := Lib.hid (by unfold wordR; rw [if_pos ⟨h0, h1⟩])
  clear h0 h1
  go_enter Tryd.func12, Tryd.ntmps12
  go_wp2_with (first | (go_at_call 27; refine (forms_any _).mono ?_; rintro e w' ⟨rfl, rfl⟩))
  go_ret2
  exact ⟨by rw [HR.out]; rfl, below_two _ _⟩
theorem word_any (s : ByteArray) (enc : Int) (w : World) (hs : s.size ≤ 100000) (ht : Tab w) :
    Calls Tryd.prog 12 #[.string s, .int .i64 enc] w (WordPost enc (bs s) w) := by
  by_cases h0 : enc = 0
  · subst h0; exact wordB_any s w hs ht
  · by_cases h1 : enc = 1
    · subst h1; exact wordQ_any s w hs ht
    · exact wordN_any s enc w h0 h1
end Go.Proofs.YtbgggeobpiaamaaDoor
