/- Walk of the statement TransferPrefix. -/
import Derived.Test.YtndjcaljkpkgfaaCmds
namespace Go.Proofs.Ytndjcaljkpkgfaa
open Go.RowKit Go.Maps
set_option linter.unusedVariables false

theorem pre_step (l : List Nat) (text : ByteArray) (xs : List Nat) (d : Bool) (vb : Int) (f q : Nat) (m : List Nat) (hx : xs = (bs text).take xs.length) (hn : xs.length ≤ text.size) (hd : d = true → xs.length = text.size) (hf : f ≤ q) (hq : q ≤ text.size) :
    (hearF l text.size xs d vb f m (text.extract f q)).1 = (bs text).take (hearF l text.size xs d vb f m (text.extract f q)).1.length ∧ ((hearF l text.size xs d vb f m (text.extract f q)).2.1 = true → (hearF l text.size xs d vb f m (text.extract f q)).1.length = text.size) ∧ xs.length ≤ (hearF l text.size xs d vb f m (text.extract f q)).1.length := by
  unfold hearF
  split
  · exact ⟨hx, hd, Nat.le_refl _⟩
  split
  · exact ⟨hx, hd, Nat.le_refl _⟩
  split
  · exact ⟨hx, hd, Nat.le_refl _⟩
  split
  · split
    · exact ⟨hx, hd, Nat.le_refl _⟩
    · exact ⟨hx, fun _ => (by show xs.length = _; omega), Nat.le_refl _⟩
  split
  · exact ⟨hx, hd, Nat.le_refl _⟩
  split
  · exact ⟨hx, hd, Nat.le_refl _⟩
  · rename_i h0 _ _ _ hfe hlg
    have e : f = xs.length := by simp at hfe; omega
    have hl : (bs (text.extract f q)).length = q - f := by rw [bs_extract, List.length_drop, List.length_take, bs_length]; omega
    refine ⟨?_, fun h => absurd h (by simpa using h0), by simp⟩
    simp only [List.length_append, hl]
    rw [show xs.length + (q - f) = q by omega, bs_extract, e]
    conv => lhs; lhs; rw [hx]
    rw [show (bs text).take xs.length = ((bs text).take q).take xs.length by rw [List.take_take, Nat.min_eq_left (by omega)], List.take_append_drop]

theorem law_prefix_long (w : World) (id : List Nat) (text : ByteArray) (a : Option Addr) (n cap : Nat) (ht : text.size ≤ maxLen) (hn : n ≤ maxLen) (hl : 300 < text.size ∨ 30 < n) :
    Calls Try.prog 3 #[.agg (idA id), .string text, .slice a n cap] w fun e w' => e = .returned (.bool true) ∧ Below w.heap.size w w' := by
  unfold maxLen at ht hn
  have b0 : Below w.heap.size w (w.alloc (.cells (idA id) 23)) := (Below.refl _ _).alloc (Nat.le_refl _) _
  have K1 := Lib.hid (known_any (w.alloc (.cells (idA id) 23)))
  have B0 := Lib.hid b0
  clear b0
  by_cases h3 : 300 < text.size
  all_goals
    go_enter Try.func3, Try.ntmps3
    go_wp2_with fail
    refine K1.out.mono ?_
    rintro e w1 ⟨rfl, hb1⟩
    have B1 : Hid (Below w.heap.size w w1) := Lib.hid (B0.out.trans (hb1.mono B0.out.size))
    clear hb1
    go_wp2_with fail
    refine (known_any w1).mono ?_
    rintro e w2 ⟨rfl, hb2⟩
    have B2 : Hid (Below w.heap.size w w2) := Lib.hid (B1.out.trans (hb2.mono B1.out.size))
    clear hb2
    go_wp2_with fail
    go_ret
    exact ⟨rfl, B2.out⟩

/-- What holds at the head of a round. -/
def PreR (w : World) (b : Nat) (id : List Nat) (text : ByteArray) (n k : Nat) (last i : Value) (wr : World) : Prop :=
  ∃ (j : Nat) (xs : List Nat) (d : Bool) (v : Value), j ≤ n ∧ k = n - j ∧ i = .int .i64 (j : Int) ∧ last = .int .i64 (xs.length : Int) ∧ Rc wr w.heap.size b id text.size xs d v ∧ xs = (bs text).take xs.length ∧ xs.length ≤ text.size ∧ (d = true → xs.length = text.size) ∧ Below w.heap.size w wr

set_option maxHeartbeats 2000000 in
theorem law_prefix (w : World) {id : List Nat} (hid : IdOk id) (text : ByteArray) (ht : text.size ≤ maxLen) (a : Option Addr) (cap : Nat) (L : List Cm) (hn : L.length ≤ maxLen) (hr : RdC w a L) :
    Calls Try.prog 3 #[.agg (idA id), .string text, .slice a L.length cap] w fun e w' => e = .returned (.bool true) ∧ Below w.heap.size w w' := by
  by_cases hl : 300 < text.size ∨ 30 < L.length
  · exact law_prefix_long w id text a L.length cap ht hn hl
  obtain ⟨n, hnn⟩ : ∃ n, n = L.length := ⟨_, rfl⟩
  have hn30 : n ≤ 30 := by omega
  have ht300 : text.size ≤ 300 := by omega
  rw [← hnn]
  have b0 : Below w.heap.size w (w.alloc (.cells (idA id) 23)) := (Below.refl _ _).alloc (Nat.le_refl _) _
  have K1 := Lib.hid (known_any (w.alloc (.cells (idA id) 23)))
  have B0 := Lib.hid b0
  have I0 : Hid ((w.alloc (.cells (idA id) 23)).heap[w.heap.size]? = some (.cells (idA id) 23 (0, 0))) := Lib.hid (heap_alloc_new w _)
  have RS := Lib.hid hr; have HN := Lib.hid hnn
  clear b0 hl hr hnn ht hn
  go_enter Try.func3, Try.ntmps3
  go_wp2_with fail
  refine K1.out.mono ?_
  rintro e w1 ⟨rfl, hb1⟩
  have B1 : Hid (Below w.heap.size w w1) := Lib.hid (B0.out.trans (hb1.mono B0.out.size))
  have I1 : Hid (w1.heap[w.heap.size]? = some (.cells (idA id) 23 (0, 0))) := Lib.hid ((hb1.block _ (lt_of_block I0.out)).trans I0.out)
  clear hb1 K1 I0 B0
  go_wp2_with ((with_reducible refine wpList_load 23 rfl _ rfl ?_); refine ⟨_, _, rfl, load_id _ w.heap.size 0 _ _ _ hid.len I1.out (id_self id), ?_⟩)
  refine (newrcv_any w1 hid (text.size : Int) (by omega) (by omega)).mono ?_
  rintro e w2 ⟨rfl, hw2⟩
  have B2 : Hid (Below w.heap.size w w2) := Lib.hid (by
    have := B1.out.size
    rw [hw2]; exact (B1.out.alloc this _).alloc (by simp; omega) _)
  have R2 : Hid (Rc w2 w.heap.size (w1.heap.size + 1) id text.size [] false (.slice none 0 0)) := Lib.hid (by rw [hw2]; exact rc_new2 w1 _ hid.len _ _)
  obtain ⟨b, hb⟩ : ∃ b, b = w1.heap.size + 1 := ⟨_, rfl⟩
  have hlb : w.heap.size ≤ b := by have := B1.out.size; omega
  rw [← hb] at R2
  rw [← hb]
  clear hw2 hb I1 B1
  go_wp2_with fail
  go_loopg [9, 10] n (fun k last i wr => PreR w b id text n k last i wr)
  case atStart => exact ⟨0, [], false, _, by omega, by omega, rfl, rfl, R2.out, rfl, by simp, (fun h => by cases h), B2.out⟩
  case round =>
    obtain ⟨j, xs, d, v, hj, rfl, rfl, rfl, hR, hpre, hle, hdn, hbel⟩ := hrel
    clear R2 B2
    obtain ⟨xl, hxl⟩ : ∃ xl, xl = xs.length := ⟨_, rfl⟩
    rw [← hxl]
    have HR := Lib.hid hR; have PRE := Lib.hid hpre; have HDN := Lib.hid hdn; have BE := Lib.hid hbel; have XL := Lib.hid hxl; have HLE := Lib.hid hle
    have sr := hbel.size
    have lex : xl ≤ 300 := by omega
    clear hR hpre hdn hbel hxl hle
    by_cases hlt : j < n
    · have hjl : j < L.length := by rw [← HN.out]; exact hlt
      obtain ⟨b0, off, rfl, hb0, hcell⟩ := RS.out.at_ (by omega)
      have hok := RS.out.each L[j] (List.getElem_mem hjl)
      have hcj : ∀ k u, L[j].cells[k]? = some u → wr.cell? ⟨b0, off + j * 35 + k, none⟩ = some u := fun k u hu => (BE.out.cell (by exact hb0)).trans (hcell j hjl k u hu)
      clear hcell
      generalize L[j] = c at *
      obtain ⟨vb, f, m, t⟩ := c
      have hm := hok.id
      have ht47 := hok.t
      have hfr := hok.fr
      have LD := Lib.hid (load_rcm wr b0 (off + j * 35) hm.len hcj)
      simp only at hm ht47 hfr
      clear hcj hok
      obtain ⟨f0, f1⟩ := hfr
      have c33 := (rcm_at hm.len vb f t).2.1
      have c34 := (rcm_at hm.len vb f t).2.2
      have ST := Lib.hid (store_at (P := Try.prog) wr _ rfl 31 (([.int .i64 0] : List Value) ++ z32 ++ ([.int .i64 0, .string ⟨#[]⟩] : List Value)).toArray (rcmC vb f m t) (size31' hm.len) (by rw [rcm_size hm.len]; rfl) (one_rcm _ _ _ _))
      by_cases hneg : f < 0
      · have r33 := rcm_set33 hm.len vb f 0 t
        by_cases hmin : t.size < text.size
        · have hmin0 : (t.size : Int) < (text.size : Int) := by omega
          have r34 := rcm_set34 hm.len vb 0 t (text.extract 0 t.size)
          have d33 := (rcm_at hm.len vb 0 t).2.1
          have d34 := (rcm_at hm.len vb 0 t).2.2
          have LD2 := Lib.hid (load_rcm (wr.alloc (.cells (rcmC vb 0 m (text.extract 0 t.size)) 31)) wr.heap.size 0 (vb := vb) (f := 0) (t := text.extract 0 t.size) hm.len (fun j u hu => by rw [Nat.zero_add]; exact (cellB (heap_alloc_new wr _) j).trans hu))
          go_wp2_with (first
            | ((with_reducible refine wpList_load 31 rfl _ rfl ?_); refine ⟨_, _, rfl, LD.out, ?_⟩)
            | ((with_reducible refine wpList_load 31 rfl _ rfl ?_); refine ⟨_, _, rfl, LD2.out, ?_⟩)
            | ((with_reducible refine wpList_store 31 rfl _ _ rfl ?_); refine ⟨_, _, _, rfl, rfl, ST.out, ?_⟩))
          clear LD LD2 ST r34 d33 d34 c33 c34
          have hgq : 0 ≤ t.size := by omega
          have hqn : t.size ≤ text.size := by omega
          obtain ⟨tt, htt⟩ : ∃ tt, tt = text.extract 0 t.size := ⟨_, rfl⟩
          have B4 : Hid (Below wr.heap.size wr (wr.alloc (.cells (rcmC vb 0 m (text.extract 0 t.size)) 31))) := Lib.hid ((Below.refl _ _).alloc (Nat.le_refl _) _)
          have hps := pre_step id text xs d vb 0 (t.size) m PRE.out HLE.out HDN.out hgq hqn
          simp only [Int.natCast_zero] at hps
          have htt300 : tt.size ≤ 300 := by rw [htt, ByteArray.size_extract]; omega
          have HS := Lib.hid hps
          clear hps
          rw [← htt] at B4 HS
          rw [← htt]
          clear htt
          generalize hw4 : wr.alloc (.cells (rcmC vb 0 m tt) 31) = w4 at *
          clear hw4
          refine (own_any w4 vb 0 hm.len tt).mono ?_
          rintro e w5 ⟨rfl, hb5⟩
          have B5 : Hid (Below wr.heap.size wr w5) := Lib.hid (B4.out.trans (hb5.mono B4.out.size))
          clear hb5 B4
          go_wp2_with fail
          have R5 := Lib.hid (HR.out.below B5.out)
          refine (hear_any w5 R5.out hid (by omega) (by rw [← XL.out]; have := HLE.out; have := XL.out; omega) (Nat.le_trans sr B5.out.size) vb 0 hm tt (by unfold maxLen; omega)).mono ?_
          rintro e w6 ⟨rfl, v6, hr6, hv6, hf6⟩
          obtain ⟨ys, dd, code, hh⟩ : ∃ ys dd code, hearF id text.size xs d vb 0 m tt = (ys, dd, code) := ⟨_, _, _, rfl⟩
          rw [hh] at hr6 HS
          rw [hh]
          simp only at hr6 HS
          have B6 : Hid (Below w.heap.size w w6) := Lib.hid (hf6.law R5.out (BE.out.trans (B5.out.mono sr)) hlb)
          have R6 := Lib.hid hr6
          obtain ⟨yl, hyl⟩ : ∃ yl, yl = ys.length := ⟨_, rfl⟩
          have FR := Lib.hid (from_any w6 hr6)
          rw [← hyl] at FR
          have hge : xl ≤ yl := by have := HS.out.2.2; have := XL.out; omega
          have hyn : yl ≤ text.size := by rw [hyl, HS.out.1, List.length_take, bs_length]; omega
          have YL := Lib.hid hyl
          clear hr6 hv6 hf6 hh hyl R5 B5 HR BE
          go_wp2_with (go_at_call 12; refine FR.out.mono ?_; rintro e w7 ⟨rfl, hw7⟩; subst hw7)
          go_roundg (n - (j + 1))
          case measure => omega
          case rel => exact ⟨j + 1, ys, dd, v6, by omega, rfl, by go_num, by rw [YL.out], R6.out, HS.out.1, by rw [← YL.out]; exact hyn, HS.out.2.1, B6.out⟩
        · have hmin0 : (text.size : Int) ≤ (t.size : Int) := by omega
          have r34 := rcm_set34 hm.len vb 0 t (text)
          have d33 := (rcm_at hm.len vb 0 t).2.1
          have d34 := (rcm_at hm.len vb 0 t).2.2
          have LD2 := Lib.hid (load_rcm (wr.alloc (.cells (rcmC vb 0 m (text)) 31)) wr.heap.size 0 (vb := vb) (f := 0) (t := text) hm.len (fun j u hu => by rw [Nat.zero_add]; exact (cellB (heap_alloc_new wr _) j).trans hu))
          go_wp2_with (first
            | ((with_reducible refine wpList_load 31 rfl _ rfl ?_); refine ⟨_, _, rfl, LD.out, ?_⟩)
            | ((with_reducible refine wpList_load 31 rfl _ rfl ?_); refine ⟨_, _, rfl, LD2.out, ?_⟩)
            | ((with_reducible refine wpList_store 31 rfl _ _ rfl ?_); refine ⟨_, _, _, rfl, rfl, ST.out, ?_⟩))
          clear LD LD2 ST r34 d33 d34 c33 c34
          have hgq : 0 ≤ text.size := by omega
          have hqn : text.size ≤ text.size := by omega
          obtain ⟨tt, htt⟩ : ∃ tt, tt = text := ⟨_, rfl⟩
          have B4 : Hid (Below wr.heap.size wr (wr.alloc (.cells (rcmC vb 0 m (text)) 31))) := Lib.hid ((Below.refl _ _).alloc (Nat.le_refl _) _)
          have hps := pre_step id text xs d vb 0 (text.size) m PRE.out HLE.out HDN.out hgq hqn
          simp only [Int.natCast_zero] at hps
          rw [ByteArray.extract_zero_size] at hps
          have htt300 : tt.size ≤ 300 := by rw [htt]; omega
          have HS := Lib.hid hps
          clear hps
          have HTX := Lib.hid htt
          have hrr : hearF id text.size xs d vb 0 m text = hearF id text.size xs d vb 0 m tt := by rw [htt]
          rw [hrr] at HS
          have hww : wr.alloc (.cells (rcmC vb 0 m text) 31) = wr.alloc (.cells (rcmC vb 0 m tt) 31) := by rw [htt]
          have hag : Value.agg (rcmC vb 0 m text) = Value.agg (rcmC vb 0 m tt) := by rw [htt]
          rw [hww] at B4
          rw [hww, hag]
          clear htt hrr hww hag
          generalize hw4 : wr.alloc (.cells (rcmC vb 0 m tt) 31) = w4 at *
          clear hw4
          refine (own_any w4 vb 0 hm.len tt).mono ?_
          rintro e w5 ⟨rfl, hb5⟩
          have B5 : Hid (Below wr.heap.size wr w5) := Lib.hid (B4.out.trans (hb5.mono B4.out.size))
          clear hb5 B4
          go_wp2_with fail
          have R5 := Lib.hid (HR.out.below B5.out)
          refine (hear_any w5 R5.out hid (by omega) (by rw [← XL.out]; have := HLE.out; have := XL.out; omega) (Nat.le_trans sr B5.out.size) vb 0 hm tt (by unfold maxLen; omega)).mono ?_
          rintro e w6 ⟨rfl, v6, hr6, hv6, hf6⟩
          obtain ⟨ys, dd, code, hh⟩ : ∃ ys dd code, hearF id text.size xs d vb 0 m tt = (ys, dd, code) := ⟨_, _, _, rfl⟩
          rw [hh] at hr6 HS
          rw [hh]
          simp only at hr6 HS
          have B6 : Hid (Below w.heap.size w w6) := Lib.hid (hf6.law R5.out (BE.out.trans (B5.out.mono sr)) hlb)
          have R6 := Lib.hid hr6
          obtain ⟨yl, hyl⟩ : ∃ yl, yl = ys.length := ⟨_, rfl⟩
          have FR := Lib.hid (from_any w6 hr6)
          rw [← hyl] at FR
          have hge : xl ≤ yl := by have := HS.out.2.2; have := XL.out; omega
          have hyn : yl ≤ text.size := by rw [hyl, HS.out.1, List.length_take, bs_length]; omega
          have YL := Lib.hid hyl
          clear hr6 hv6 hf6 hh hyl R5 B5 HR BE
          go_wp2_with (go_at_call 12; refine FR.out.mono ?_; rintro e w7 ⟨rfl, hw7⟩; subst hw7)
          go_roundg (n - (j + 1))
          case measure => omega
          case rel => exact ⟨j + 1, ys, dd, v6, by omega, rfl, by go_num, by rw [YL.out], R6.out, HS.out.1, by rw [← YL.out]; exact hyn, HS.out.2.1, B6.out⟩
      by_cases hbig : (text.size : Int) < f
      · have r33 := rcm_set33 hm.len vb f 0 t
        by_cases hmin : t.size < text.size
        · have hmin0 : (t.size : Int) < (text.size : Int) := by omega
          have r34 := rcm_set34 hm.len vb 0 t (text.extract 0 t.size)
          have d33 := (rcm_at hm.len vb 0 t).2.1
          have d34 := (rcm_at hm.len vb 0 t).2.2
          have LD2 := Lib.hid (load_rcm (wr.alloc (.cells (rcmC vb 0 m (text.extract 0 t.size)) 31)) wr.heap.size 0 (vb := vb) (f := 0) (t := text.extract 0 t.size) hm.len (fun j u hu => by rw [Nat.zero_add]; exact (cellB (heap_alloc_new wr _) j).trans hu))
          go_wp2_with (first
            | ((with_reducible refine wpList_load 31 rfl _ rfl ?_); refine ⟨_, _, rfl, LD.out, ?_⟩)
            | ((with_reducible refine wpList_load 31 rfl _ rfl ?_); refine ⟨_, _, rfl, LD2.out, ?_⟩)
            | ((with_reducible refine wpList_store 31 rfl _ _ rfl ?_); refine ⟨_, _, _, rfl, rfl, ST.out, ?_⟩))
          clear LD LD2 ST r34 d33 d34 c33 c34
          have hgq : 0 ≤ t.size := by omega
          have hqn : t.size ≤ text.size := by omega
          obtain ⟨tt, htt⟩ : ∃ tt, tt = text.extract 0 t.size := ⟨_, rfl⟩
          have B4 : Hid (Below wr.heap.size wr (wr.alloc (.cells (rcmC vb 0 m (text.extract 0 t.size)) 31))) := Lib.hid ((Below.refl _ _).alloc (Nat.le_refl _) _)
          have hps := pre_step id text xs d vb 0 (t.size) m PRE.out HLE.out HDN.out hgq hqn
          simp only [Int.natCast_zero] at hps
          have htt300 : tt.size ≤ 300 := by rw [htt, ByteArray.size_extract]; omega
          have HS := Lib.hid hps
          clear hps
          rw [← htt] at B4 HS
          rw [← htt]
          clear htt
          generalize hw4 : wr.alloc (.cells (rcmC vb 0 m tt) 31) = w4 at *
          clear hw4
          refine (own_any w4 vb 0 hm.len tt).mono ?_
          rintro e w5 ⟨rfl, hb5⟩
          have B5 : Hid (Below wr.heap.size wr w5) := Lib.hid (B4.out.trans (hb5.mono B4.out.size))
          clear hb5 B4
          go_wp2_with fail
          have R5 := Lib.hid (HR.out.below B5.out)
          refine (hear_any w5 R5.out hid (by omega) (by rw [← XL.out]; have := HLE.out; have := XL.out; omega) (Nat.le_trans sr B5.out.size) vb 0 hm tt (by unfold maxLen; omega)).mono ?_
          rintro e w6 ⟨rfl, v6, hr6, hv6, hf6⟩
          obtain ⟨ys, dd, code, hh⟩ : ∃ ys dd code, hearF id text.size xs d vb 0 m tt = (ys, dd, code) := ⟨_, _, _, rfl⟩
          rw [hh] at hr6 HS
          rw [hh]
          simp only at hr6 HS
          have B6 : Hid (Below w.heap.size w w6) := Lib.hid (hf6.law R5.out (BE.out.trans (B5.out.mono sr)) hlb)
          have R6 := Lib.hid hr6
          obtain ⟨yl, hyl⟩ : ∃ yl, yl = ys.length := ⟨_, rfl⟩
          have FR := Lib.hid (from_any w6 hr6)
          rw [← hyl] at FR
          have hge : xl ≤ yl := by have := HS.out.2.2; have := XL.out; omega
          have hyn : yl ≤ text.size := by rw [hyl, HS.out.1, List.length_take, bs_length]; omega
          have YL := Lib.hid hyl
          clear hr6 hv6 hf6 hh hyl R5 B5 HR BE
          go_wp2_with (go_at_call 12; refine FR.out.mono ?_; rintro e w7 ⟨rfl, hw7⟩; subst hw7)
          go_roundg (n - (j + 1))
          case measure => omega
          case rel => exact ⟨j + 1, ys, dd, v6, by omega, rfl, by go_num, by rw [YL.out], R6.out, HS.out.1, by rw [← YL.out]; exact hyn, HS.out.2.1, B6.out⟩
        · have hmin0 : (text.size : Int) ≤ (t.size : Int) := by omega
          have r34 := rcm_set34 hm.len vb 0 t (text)
          have d33 := (rcm_at hm.len vb 0 t).2.1
          have d34 := (rcm_at hm.len vb 0 t).2.2
          have LD2 := Lib.hid (load_rcm (wr.alloc (.cells (rcmC vb 0 m (text)) 31)) wr.heap.size 0 (vb := vb) (f := 0) (t := text) hm.len (fun j u hu => by rw [Nat.zero_add]; exact (cellB (heap_alloc_new wr _) j).trans hu))
          go_wp2_with (first
            | ((with_reducible refine wpList_load 31 rfl _ rfl ?_); refine ⟨_, _, rfl, LD.out, ?_⟩)
            | ((with_reducible refine wpList_load 31 rfl _ rfl ?_); refine ⟨_, _, rfl, LD2.out, ?_⟩)
            | ((with_reducible refine wpList_store 31 rfl _ _ rfl ?_); refine ⟨_, _, _, rfl, rfl, ST.out, ?_⟩))
          clear LD LD2 ST r34 d33 d34 c33 c34
          have hgq : 0 ≤ text.size := by omega
          have hqn : text.size ≤ text.size := by omega
          obtain ⟨tt, htt⟩ : ∃ tt, tt = text := ⟨_, rfl⟩
          have B4 : Hid (Below wr.heap.size wr (wr.alloc (.cells (rcmC vb 0 m (text)) 31))) := Lib.hid ((Below.refl _ _).alloc (Nat.le_refl _) _)
          have hps := pre_step id text xs d vb 0 (text.size) m PRE.out HLE.out HDN.out hgq hqn
          simp only [Int.natCast_zero] at hps
          rw [ByteArray.extract_zero_size] at hps
          have htt300 : tt.size ≤ 300 := by rw [htt]; omega
          have HS := Lib.hid hps
          clear hps
          have HTX := Lib.hid htt
          have hrr : hearF id text.size xs d vb 0 m text = hearF id text.size xs d vb 0 m tt := by rw [htt]
          rw [hrr] at HS
          have hww : wr.alloc (.cells (rcmC vb 0 m text) 31) = wr.alloc (.cells (rcmC vb 0 m tt) 31) := by rw [htt]
          have hag : Value.agg (rcmC vb 0 m text) = Value.agg (rcmC vb 0 m tt) := by rw [htt]
          rw [hww] at B4
          rw [hww, hag]
          clear htt hrr hww hag
          generalize hw4 : wr.alloc (.cells (rcmC vb 0 m tt) 31) = w4 at *
          clear hw4
          refine (own_any w4 vb 0 hm.len tt).mono ?_
          rintro e w5 ⟨rfl, hb5⟩
          have B5 : Hid (Below wr.heap.size wr w5) := Lib.hid (B4.out.trans (hb5.mono B4.out.size))
          clear hb5 B4
          go_wp2_with fail
          have R5 := Lib.hid (HR.out.below B5.out)
          refine (hear_any w5 R5.out hid (by omega) (by rw [← XL.out]; have := HLE.out; have := XL.out; omega) (Nat.le_trans sr B5.out.size) vb 0 hm tt (by unfold maxLen; omega)).mono ?_
          rintro e w6 ⟨rfl, v6, hr6, hv6, hf6⟩
          obtain ⟨ys, dd, code, hh⟩ : ∃ ys dd code, hearF id text.size xs d vb 0 m tt = (ys, dd, code) := ⟨_, _, _, rfl⟩
          rw [hh] at hr6 HS
          rw [hh]
          simp only at hr6 HS
          have B6 : Hid (Below w.heap.size w w6) := Lib.hid (hf6.law R5.out (BE.out.trans (B5.out.mono sr)) hlb)
          have R6 := Lib.hid hr6
          obtain ⟨yl, hyl⟩ : ∃ yl, yl = ys.length := ⟨_, rfl⟩
          have FR := Lib.hid (from_any w6 hr6)
          rw [← hyl] at FR
          have hge : xl ≤ yl := by have := HS.out.2.2; have := XL.out; omega
          have hyn : yl ≤ text.size := by rw [hyl, HS.out.1, List.length_take, bs_length]; omega
          have YL := Lib.hid hyl
          clear hr6 hv6 hf6 hh hyl R5 B5 HR BE
          go_wp2_with (go_at_call 12; refine FR.out.mono ?_; rintro e w7 ⟨rfl, hw7⟩; subst hw7)
          go_roundg (n - (j + 1))
          case measure => omega
          case rel => exact ⟨j + 1, ys, dd, v6, by omega, rfl, by go_num, by rw [YL.out], R6.out, HS.out.1, by rw [← YL.out]; exact hyn, HS.out.2.1, B6.out⟩
      obtain ⟨g, rfl⟩ : ∃ g : Nat, f = (g : Int) := ⟨f.toNat, by omega⟩
      by_cases hmin : g + t.size < text.size
      · have hmin0 : (g : Int) + (t.size : Int) < (text.size : Int) := by omega
        have r34 := rcm_set34 hm.len vb g t (text.extract g (g + t.size))
        have d33 := (rcm_at hm.len vb g t).2.1
        have d34 := (rcm_at hm.len vb g t).2.2
        have LD2 := Lib.hid (load_rcm (wr.alloc (.cells (rcmC vb g m (text.extract g (g + t.size))) 31)) wr.heap.size 0 (vb := vb) (f := g) (t := text.extract g (g + t.size)) hm.len (fun j u hu => by rw [Nat.zero_add]; exact (cellB (heap_alloc_new wr _) j).trans hu))
        go_wp2_with (first
          | ((with_reducible refine wpList_load 31 rfl _ rfl ?_); refine ⟨_, _, rfl, LD.out, ?_⟩)
          | ((with_reducible refine wpList_load 31 rfl _ rfl ?_); refine ⟨_, _, rfl, LD2.out, ?_⟩)
          | ((with_reducible refine wpList_store 31 rfl _ _ rfl ?_); refine ⟨_, _, _, rfl, rfl, ST.out, ?_⟩))
        clear LD LD2 ST r34 d33 d34 c33 c34
        have hgq : g ≤ g + t.size := by omega
        have hqn : g + t.size ≤ text.size := by omega
        obtain ⟨tt, htt⟩ : ∃ tt, tt = text.extract g (g + t.size) := ⟨_, rfl⟩
        have B4 : Hid (Below wr.heap.size wr (wr.alloc (.cells (rcmC vb g m (text.extract g (g + t.size))) 31))) := Lib.hid ((Below.refl _ _).alloc (Nat.le_refl _) _)
        have hps := pre_step id text xs d vb g (g + t.size) m PRE.out HLE.out HDN.out hgq hqn
        have htt300 : tt.size ≤ 300 := by rw [htt, ByteArray.size_extract]; omega
        have HS := Lib.hid hps
        clear hps
        rw [← htt] at B4 HS
        rw [← htt]
        clear htt
        generalize hw4 : wr.alloc (.cells (rcmC vb g m tt) 31) = w4 at *
        clear hw4
        refine (own_any w4 vb g hm.len tt).mono ?_
        rintro e w5 ⟨rfl, hb5⟩
        have B5 : Hid (Below wr.heap.size wr w5) := Lib.hid (B4.out.trans (hb5.mono B4.out.size))
        clear hb5 B4
        go_wp2_with fail
        have R5 := Lib.hid (HR.out.below B5.out)
        refine (hear_any w5 R5.out hid (by omega) (by rw [← XL.out]; have := HLE.out; have := XL.out; omega) (Nat.le_trans sr B5.out.size) vb g hm tt (by unfold maxLen; omega)).mono ?_
        rintro e w6 ⟨rfl, v6, hr6, hv6, hf6⟩
        obtain ⟨ys, dd, code, hh⟩ : ∃ ys dd code, hearF id text.size xs d vb g m tt = (ys, dd, code) := ⟨_, _, _, rfl⟩
        rw [hh] at hr6 HS
        rw [hh]
        simp only at hr6 HS
        have B6 : Hid (Below w.heap.size w w6) := Lib.hid (hf6.law R5.out (BE.out.trans (B5.out.mono sr)) hlb)
        have R6 := Lib.hid hr6
        obtain ⟨yl, hyl⟩ : ∃ yl, yl = ys.length := ⟨_, rfl⟩
        have FR := Lib.hid (from_any w6 hr6)
        rw [← hyl] at FR
        have hge : xl ≤ yl := by have := HS.out.2.2; have := XL.out; omega
        have hyn : yl ≤ text.size := by rw [hyl, HS.out.1, List.length_take, bs_length]; omega
        have YL := Lib.hid hyl
        clear hr6 hv6 hf6 hh hyl R5 B5 HR BE
        go_wp2_with (go_at_call 12; refine FR.out.mono ?_; rintro e w7 ⟨rfl, hw7⟩; subst hw7)
        go_roundg (n - (j + 1))
        case measure => omega
        case rel => exact ⟨j + 1, ys, dd, v6, by omega, rfl, by go_num, by rw [YL.out], R6.out, HS.out.1, by rw [← YL.out]; exact hyn, HS.out.2.1, B6.out⟩
      · have hmin0 : (text.size : Int) ≤ (g : Int) + (t.size : Int) := by omega
        have r34 := rcm_set34 hm.len vb g t (text.extract g text.size)
        have d33 := (rcm_at hm.len vb g t).2.1
        have d34 := (rcm_at hm.len vb g t).2.2
        have LD2 := Lib.hid (load_rcm (wr.alloc (.cells (rcmC vb g m (text.extract g text.size)) 31)) wr.heap.size 0 (vb := vb) (f := g) (t := text.extract g text.size) hm.len (fun j u hu => by rw [Nat.zero_add]; exact (cellB (heap_alloc_new wr _) j).trans hu))
        go_wp2_with (first
          | ((with_reducible refine wpList_load 31 rfl _ rfl ?_); refine ⟨_, _, rfl, LD.out, ?_⟩)
          | ((with_reducible refine wpList_load 31 rfl _ rfl ?_); refine ⟨_, _, rfl, LD2.out, ?_⟩)
          | ((with_reducible refine wpList_store 31 rfl _ _ rfl ?_); refine ⟨_, _, _, rfl, rfl, ST.out, ?_⟩))
        clear LD LD2 ST r34 d33 d34 c33 c34
        have hgq : g ≤ text.size := by omega
        have hqn : text.size ≤ text.size := by omega
        obtain ⟨tt, htt⟩ : ∃ tt, tt = text.extract g text.size := ⟨_, rfl⟩
        have B4 : Hid (Below wr.heap.size wr (wr.alloc (.cells (rcmC vb g m (text.extract g text.size)) 31))) := Lib.hid ((Below.refl _ _).alloc (Nat.le_refl _) _)
        have hps := pre_step id text xs d vb g (text.size) m PRE.out HLE.out HDN.out hgq hqn
        have htt300 : tt.size ≤ 300 := by rw [htt, ByteArray.size_extract]; omega
        have HS := Lib.hid hps
        clear hps
        rw [← htt] at B4 HS
        rw [← htt]
        clear htt
        generalize hw4 : wr.alloc (.cells (rcmC vb g m tt) 31) = w4 at *
        clear hw4
        refine (own_any w4 vb g hm.len tt).mono ?_
        rintro e w5 ⟨rfl, hb5⟩
        have B5 : Hid (Below wr.heap.size wr w5) := Lib.hid (B4.out.trans (hb5.mono B4.out.size))
        clear hb5 B4
        go_wp2_with fail
        have R5 := Lib.hid (HR.out.below B5.out)
        refine (hear_any w5 R5.out hid (by omega) (by rw [← XL.out]; have := HLE.out; have := XL.out; omega) (Nat.le_trans sr B5.out.size) vb g hm tt (by unfold maxLen; omega)).mono ?_
        rintro e w6 ⟨rfl, v6, hr6, hv6, hf6⟩
        obtain ⟨ys, dd, code, hh⟩ : ∃ ys dd code, hearF id text.size xs d vb g m tt = (ys, dd, code) := ⟨_, _, _, rfl⟩
        rw [hh] at hr6 HS
        rw [hh]
        simp only at hr6 HS
        have B6 : Hid (Below w.heap.size w w6) := Lib.hid (hf6.law R5.out (BE.out.trans (B5.out.mono sr)) hlb)
        have R6 := Lib.hid hr6
        obtain ⟨yl, hyl⟩ : ∃ yl, yl = ys.length := ⟨_, rfl⟩
        have FR := Lib.hid (from_any w6 hr6)
        rw [← hyl] at FR
        have hge : xl ≤ yl := by have := HS.out.2.2; have := XL.out; omega
        have hyn : yl ≤ text.size := by rw [hyl, HS.out.1, List.length_take, bs_length]; omega
        have YL := Lib.hid hyl
        clear hr6 hv6 hf6 hh hyl R5 B5 HR BE
        go_wp2_with (go_at_call 12; refine FR.out.mono ?_; rintro e w7 ⟨rfl, hw7⟩; subst hw7)
        go_roundg (n - (j + 1))
        case measure => omega
        case rel => exact ⟨j + 1, ys, dd, v6, by omega, rfl, by go_num, by rw [YL.out], R6.out, HS.out.1, by rw [← YL.out]; exact hyn, HS.out.2.1, B6.out⟩
    · have hjn : j = n := by omega
      subst hjn
      have LTX : Hid (∀ x ∈ xs, x < 256) := Lib.hid (fun x hx => bs_lt text x (by rw [PRE.out] at hx; exact List.mem_of_mem_take hx))
      cases d with
      | false =>
        have C1 := Lib.hid (text_no wr HR.out hid.len)
        go_wp2_with (go_at_call 13; refine C1.out.mono ?_; rintro e w7 ⟨rfl, hw7⟩; subst hw7)
        go_ret
        exact ⟨by simp, BE.out⟩
      | true =>
        have hfull := HDN.out rfl
        have hst : strN xs = text := by rw [PRE.out, hfull, List.take_of_length_le (by rw [bs_length]; exact Nat.le_refl _), strN_bs]
        have C1 := text_yes wr HR.out hid.len LTX.out (by rw [hfull]; omega)
        rw [hst] at C1
        have HC := Lib.hid C1
        clear C1 hst hfull
        go_wp2_with (go_at_call 13; refine HC.out.mono ?_; rintro e w7 ⟨rfl, hr7, hf7⟩; have B7 : Hid (Below w.heap.size w w7) := Lib.hid (hf7.law HR.out BE.out hlb); clear hr7 hf7)
        go_ret
        exact ⟨by simp, B7.out⟩

end Go.Proofs.Ytndjcaljkpkgfaa
