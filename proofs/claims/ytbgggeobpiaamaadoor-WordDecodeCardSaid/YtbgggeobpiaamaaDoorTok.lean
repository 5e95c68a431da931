/- tokens: the iterator. -/
import Derived.RangeFuncNested
import Derived.RangeFuncBound
import Derived.RangeFuncCalls
import Derived.RangeFuncLeaves
import Derived.RangeFuncBox
import Derived.Shelf.Abstract
import Derived.Shelf.RegionOpen
import Derived.WalkKit
import Derived.OwnWalkIn
import Derived.TacticsInMore
import Derived.LoopNIn
import Derived.LoopIn
import Derived.Maps.AppendAt
import Derived.Test.YtbgggeobpiaamaaDoorTP
import Derived.Test.YtbgggeobpiaamaaDoorUtf
namespace Go.Proofs.YtbgggeobpiaamaaDoor
open Go.RowKit Go.Shelf
attribute [local go_sem] Oper.semAt_some
set_option linter.unusedVariables false
set_option maxRecDepth 100000

/-- The block B lies as it lay. -/
def KeepB (B : Nat) (A C : World) : Prop := C.heap[B]? = A.heap[B]?
theorem KeepB.cell {B : Nat} {A C : World} (h : KeepB B A C) : C.cell? ⟨B, 0, none⟩ = A.cell? ⟨B, 0, none⟩ := by
  unfold World.cell?; simp only; rw [show C.heap[B]? = A.heap[B]? from h]
def tkV (n : Nat) (x : Tk n) : Array Value := #[.agg #[.int .i64 (x.1.1 : Int), .int .i64 (x.1.2 : Int)]]

theorem tkStep_in {l : List Nat} {st : Nat × List (Nat × Nat)} {i : Nat} (h : i < l.length) (hb : blank (l.getD i 0) = false) : tkStep l st i = st := by unfold tkStep; rw [if_pos ⟨h, hb⟩]
theorem tkStep_end {l : List Nat} {st : Nat × List (Nat × Nat)} {i : Nat} (h : ¬ (i < l.length ∧ blank (l.getD i 0) = false)) (hs : st.1 < i) : tkStep l st i = (i + 1, st.2 ++ [(st.1, i)]) := by unfold tkStep; rw [if_neg h, if_pos hs]
theorem tkStep_gap {l : List Nat} {st : Nat × List (Nat × Nat)} {i : Nat} (h : ¬ (i < l.length ∧ blank (l.getD i 0) = false)) (hs : ¬ st.1 < i) : tkStep l st i = (i + 1, st.2) := by unfold tkStep; rw [if_neg h, if_neg hs]

set_option maxHeartbeats 2000000 in
theorem tok1_in (F : Fence) (n : Nat) (h63 : F.fn 63) (hro : F.round = none) (hn : 1 ≤ n) (l Bs : Nat) (s : ByteArray) (hs : s.size ≤ 1000000) (J Jx : List (Tk s.size) → World → Prop)
    (hY : ∀ pre x W, J pre W → pre.length < s.size + 1 → YieldAt F (n - 1) Tryd.prog l (tkV s.size x) W fun e W' =>
      (e = .returned (.bool true) ∧ J (pre ++ [x]) W' ∧ KeepB Bs W W') ∨ (e = .returned (.bool false) ∧ Jx (pre ++ [x]) W'))
    (W : World) (hBs : W.cell? ⟨Bs, 0, none⟩ = some (.string s)) (h0 : J [] W) :
    CallsIn F n Tryd.prog 63 #[.func (.yield l) #[] #[], .pointer (some ⟨Bs, 0, none⟩)] W fun e W' => (∃ v, e = .returned v) ∧
      ((∃ ys : List (Tk s.size), ys.map (·.1) = toks (bs s) ∧ J ys W') ∨ (∃ pre : List (Tk s.size), True ∧ Jx pre W')) := by
  refine callsIn_of_wp Tryd.func63 rfl h63 ?_ hro
  simp only [Tryd.ntmps63, List.size_toArray, List.length_cons, List.length_nil, Nat.reduceAdd, Nat.reduceSub, Array.replicate_succ, Array.replicate_zero, List.push_toArray, List.append_toArray, List.nil_append, List.cons_append]
  gi_wp2
  gi_loopw [3, 4] (fun f i wr => ∃ (k fr : Nat) (pre : List (Tk s.size)), k ≤ s.size + 1 ∧ i = .int .i64 (k : Int) ∧ f = .int .i64 (fr : Int) ∧ Hid (fr = (tkSt (bs s) k).1) ∧ Hid (pre.map (·.1) = (tkSt (bs s) k).2) ∧ wr.cell? ⟨Bs, 0, none⟩ = some (.string s) ∧ J pre wr)
    (fun f i wr => s.size + 1 - (intOf i).toNat)
  case atStart =>
    exact ⟨0, 0, [], by omega, rfl, rfl, rfl, rfl, hBs, h0⟩
  case round =>
    obtain ⟨k, fr, pre, hk, rfl, rfl, hfr, hpre, hc, hJ⟩ := hrel
    have inv := tkSt_inv (bs s) k (by rw [bs_length]; exact hk)
    have hfk : fr ≤ k := by rw [hfr.out]; exact inv.1
    have hpl : (tkSt (bs s) k).2.length ≤ k := inv.2.1
    clear inv
    by_cases h1 : k < s.size
    · obtain ⟨c, hcc⟩ : ∃ c, c = (bs s).getD k 0 := ⟨_, rfl⟩
      have hc2 : c < 256 := by rw [hcc]; exact bs_lt' s k
      have xk : ∀ w, (Instr.index 9 (.string s) (.int .i64 (k : Int))).run Tryd.prog w = .ok (.int .u8 (c : Int)) w := fun w => by rw [idx_str 9 Tryd.underlying9 s .i64 k k rfl h1, hcc]
      have HC := Lib.hid hcc
      clear hcc
      by_cases h32 : c = 32
      · have q1 : ((c : Int) != 32) = false := int_nneq (by omega)
        have NB : Hid (¬ (k < (bs s).length ∧ blank ((bs s).getD k 0) = false)) := Lib.hid (fun h => by rw [← HC.out, h32] at h; exact absurd h.2 (by decide))
        clear h32
        by_cases hlt : fr < k
        · obtain ⟨fn, tmps, assign, body, hy, hR⟩ := hY pre ⟨(fr, k), hlt, by omega⟩ wr hJ (by have := congrArg List.length hpre.out; rw [List.length_map] at this; omega)
          unfold tkV at hy
          dsimp only at hy
          gi_wp2
          refine hR.mono ?_
          rintro e W3 (⟨rfl, hJ3, hk3⟩ | ⟨rfl, hJx3⟩)
          · have hc3 : W3.cell? ⟨Bs, 0, none⟩ = some (.string s) := hk3.cell.trans hc
            gi_wp2
            go_roundw
            case rel => exact ⟨k + 1, (k + 1), (pre ++ [⟨(fr, k), hlt, by omega⟩]), by omega, by go_num, by go_num, Lib.hid (by rw [tkSt_succ, tkStep_end (NB.out) (by rw [← hfr.out]; exact hlt)]), Lib.hid (by rw [tkSt_succ, tkStep_end (NB.out) (by rw [← hfr.out]; exact hlt)]; rw [List.map_append, hpre.out, ← hfr.out]; rfl), hc3, hJ3⟩
            case measure => simp [intOf]; omega
          · gi_wp2
            refine bodyPost_ret (results_none rfl _ _ _) rfl ?_
            exact ⟨⟨_, rfl⟩, .inr ⟨_, trivial, hJx3⟩⟩
        · have hlt' : ¬ ((fr : Int) < (k : Int)) := by omega
          gi_wp2
          refine ⟨fun _ h => (by cases h), ?_⟩
          gi_wp2
          go_roundw
          case rel => exact ⟨k + 1, (k + 1), pre, by omega, by go_num, by go_num, Lib.hid (by rw [tkSt_succ, tkStep_gap (NB.out) (by rw [← hfr.out]; exact hlt)]), Lib.hid (by rw [tkSt_succ, tkStep_gap (NB.out) (by rw [← hfr.out]; exact hlt)]; exact hpre.out), hc, hJ⟩
          case measure => simp [intOf]; omega
      · have q1 : ((c : Int) != 32) = true := int_neq (by omega)
        by_cases h9 : c = 9
        · have q2 : ((c : Int) != 9) = false := int_nneq (by omega)
          have NB : Hid (¬ (k < (bs s).length ∧ blank ((bs s).getD k 0) = false)) := Lib.hid (fun h => by rw [← HC.out, h9] at h; exact absurd h.2 (by decide))
          clear h9 h32
          by_cases hlt : fr < k
          · obtain ⟨fn, tmps, assign, body, hy, hR⟩ := hY pre ⟨(fr, k), hlt, by omega⟩ wr hJ (by have := congrArg List.length hpre.out; rw [List.length_map] at this; omega)
            unfold tkV at hy
            dsimp only at hy
            gi_wp2
            refine hR.mono ?_
            rintro e W3 (⟨rfl, hJ3, hk3⟩ | ⟨rfl, hJx3⟩)
            · have hc3 : W3.cell? ⟨Bs, 0, none⟩ = some (.string s) := hk3.cell.trans hc
              gi_wp2
              go_roundw
              case rel => exact ⟨k + 1, (k + 1), (pre ++ [⟨(fr, k), hlt, by omega⟩]), by omega, by go_num, by go_num, Lib.hid (by rw [tkSt_succ, tkStep_end (NB.out) (by rw [← hfr.out]; exact hlt)]), Lib.hid (by rw [tkSt_succ, tkStep_end (NB.out) (by rw [← hfr.out]; exact hlt)]; rw [List.map_append, hpre.out, ← hfr.out]; rfl), hc3, hJ3⟩
              case measure => simp [intOf]; omega
            · gi_wp2
              refine bodyPost_ret (results_none rfl _ _ _) rfl ?_
              exact ⟨⟨_, rfl⟩, .inr ⟨_, trivial, hJx3⟩⟩
          · have hlt' : ¬ ((fr : Int) < (k : Int)) := by omega
            gi_wp2
            refine ⟨fun _ h => (by cases h), ?_⟩
            gi_wp2
            go_roundw
            case rel => exact ⟨k + 1, (k + 1), pre, by omega, by go_num, by go_num, Lib.hid (by rw [tkSt_succ, tkStep_gap (NB.out) (by rw [← hfr.out]; exact hlt)]), Lib.hid (by rw [tkSt_succ, tkStep_gap (NB.out) (by rw [← hfr.out]; exact hlt)]; exact hpre.out), hc, hJ⟩
            case measure => simp [intOf]; omega
        · have q2 : ((c : Int) != 9) = true := int_neq (by omega)
          have NB : Hid (blank ((bs s).getD k 0) = false) := Lib.hid (by rw [← HC.out]; unfold blank; rw [decide_eq_false h32, decide_eq_false h9]; rfl)
          gi_wp2
          go_roundw
          case rel => exact ⟨k + 1, fr, pre, by omega, by go_num, by go_num, Lib.hid (by rw [tkSt_succ, tkStep_in (by rw [bs_length]; exact h1) NB.out]; exact hfr.out), Lib.hid (by rw [tkSt_succ, tkStep_in (by rw [bs_length]; exact h1) NB.out]; exact hpre.out), hc, hJ⟩
          case measure => simp [intOf]; omega
    · by_cases h2 : k = s.size
      · have NB : Hid (¬ (k < (bs s).length ∧ blank ((bs s).getD k 0) = false)) := Lib.hid (fun h => by have := h.1; rw [bs_length] at this; exact h1 this)
        have h1' : ¬ ((k : Int) < (s.size : Int)) := by omega
        have h3 : (k : Int) ≤ (s.size : Int) := by omega
        have HK := Lib.hid h2
        clear h2
        by_cases hlt : fr < k
        · obtain ⟨fn, tmps, assign, body, hy, hR⟩ := hY pre ⟨(fr, k), hlt, by omega⟩ wr hJ (by have := congrArg List.length hpre.out; rw [List.length_map] at this; omega)
          unfold tkV at hy
          dsimp only at hy
          gi_wp2
          refine hR.mono ?_
          rintro e W3 (⟨rfl, hJ3, hk3⟩ | ⟨rfl, hJx3⟩)
          · have hc3 : W3.cell? ⟨Bs, 0, none⟩ = some (.string s) := hk3.cell.trans hc
            gi_wp2
            go_roundw
            case rel => exact ⟨k + 1, (k + 1), (pre ++ [⟨(fr, k), hlt, by omega⟩]), by omega, by go_num, by go_num, Lib.hid (by rw [tkSt_succ, tkStep_end (NB.out) (by rw [← hfr.out]; exact hlt)]), Lib.hid (by rw [tkSt_succ, tkStep_end (NB.out) (by rw [← hfr.out]; exact hlt)]; rw [List.map_append, hpre.out, ← hfr.out]; rfl), hc3, hJ3⟩
            case measure => simp [intOf]; omega
          · gi_wp2
            refine bodyPost_ret (results_none rfl _ _ _) rfl ?_
            exact ⟨⟨_, rfl⟩, .inr ⟨_, trivial, hJx3⟩⟩
        · have hlt' : ¬ ((fr : Int) < (k : Int)) := by omega
          gi_wp2
          refine ⟨fun _ h => (by cases h), ?_⟩
          gi_wp2
          go_roundw
          case rel => exact ⟨k + 1, (k + 1), pre, by omega, by go_num, by go_num, Lib.hid (by rw [tkSt_succ, tkStep_gap (NB.out) (by rw [← hfr.out]; exact hlt)]), Lib.hid (by rw [tkSt_succ, tkStep_gap (NB.out) (by rw [← hfr.out]; exact hlt)]; exact hpre.out), hc, hJ⟩
          case measure => simp [intOf]; omega
      · have h3 : ¬ ((k : Int) ≤ (s.size : Int)) := by omega
        obtain rfl : k = s.size + 1 := by omega
        gi_wp2
        go_end0
        exact ⟨⟨_, rfl⟩, .inl ⟨pre, by rw [hpre.out]; unfold toks; rw [bs_length], hJ⟩⟩

/-- tokens boxes the text; its value captures the box. -/
theorem tok_in (F : Fence) (n : Nat) (h37 : F.fn 37) (hro : F.round = none) (s : ByteArray) (w : World) :
    CallsIn F n Tryd.prog 37 #[.string s] w fun e w' => e = .returned (.func (.func 63) #[] #[.pointer (some ⟨w.heap.size, 0, none⟩)]) ∧ w' = w.alloc (.cells #[.string s] 9) := by
  refine callsIn_of_wp Tryd.func37 rfl h37 ?_ hro
  simp only [Tryd.ntmps37, List.size_toArray, List.length_cons, List.length_nil, Nat.reduceAdd, Nat.reduceSub, Array.replicate_succ, Array.replicate_zero, List.push_toArray, List.append_toArray, List.nil_append, List.cons_append]
  gi_wp2
  go_ret
  exact ⟨rfl, rfl⟩

theorem tok_stops (F : Fence) (n : Nat) (h63 : F.fn 63) (hro : F.round = none) (hn : 1 ≤ n) (Bs : Nat) (s : ByteArray) (hs : s.size ≤ 1000000) (w : World) (hB : Bs < w.heap.size) (hc : w.cell? ⟨Bs, 0, none⟩ = some (.string s)) :
    SeqStopsK F n Tryd.prog 63 #[.pointer (some ⟨Bs, 0, none⟩)] (tkV s.size) (KeepB Bs) (fun ys => ys.map (·.1) = toks (bs s)) (fun _ => True) (s.size + 1) w := fun l J Jx W hW _ _ hY h0 =>
  tok1_in F n h63 hro hn l Bs s hs J Jx hY W ((hW.cell (p := ⟨Bs, 0, none⟩) hB).trans hc) h0
end Go.Proofs.YtbgggeobpiaamaaDoor
