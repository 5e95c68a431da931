/- Hear as a function; own, the reference's Hear. -/
import Derived.Test.YtolhjijnbobphaaGreatDoorHearB
namespace Go.Proofs.YtolhjijnbobphaaGreatDoor
open Go.RowKit Go.Maps
set_option linter.unusedVariables false
set_option maxRecDepth 100000

/-- What Hear does: the bytes, whether complete, the error. -/
def hearF (l : List Nat) (n : Nat) (xs : List Nat) (d : Bool) (vb f : Int) (m : List Nat) (t : ByteArray) : List Nat × Bool × Int :=
  if d = true then (xs, d, 10) else if vb ≠ 7 ∧ vb ≠ 8 then (xs, d, 11) else if m ≠ l then (xs, d, 8)
  else if vb = 8 then (if xs.length < n then (xs, d, 4) else (xs, true, 0))
  else if f ≠ (xs.length : Int) then (xs, d, 30) else if n < xs.length + t.size then (xs, d, 5) else (xs ++ bs t, d, 0)
theorem hearF_le {l : List Nat} {n : Nat} {xs : List Nat} {d : Bool} {vb f : Int} {m : List Nat} {t : ByteArray} (hx : xs.length ≤ n) : (hearF l n xs d vb f m t).1.length ≤ n := by
  unfold hearF
  split
  · exact hx
  split
  · exact hx
  split
  · exact hx
  split
  · split <;> exact hx
  split
  · exact hx
  split
  · exact hx
  · simp only [List.length_append, bs_length]; omega
theorem hearF_lt {l : List Nat} {n : Nat} {xs : List Nat} {d : Bool} {vb f : Int} {m : List Nat} {t : ByteArray} (hx : ∀ x ∈ xs, x < 256) : ∀ x ∈ (hearF l n xs d vb f m t).1, x < 256 := by
  unfold hearF
  split
  · exact hx
  split
  · exact hx
  split
  · exact hx
  split
  · split <;> exact hx
  split
  · exact hx
  split
  · exact hx
  · intro x h
    rcases List.mem_append.1 h with h | h
    · exact hx x h
    · exact bs_lt t x h

theorem hear_any (w : World) {B b n : Nat} {l xs : List Nat} {d : Bool} {v : Value} (h : Rc w B b l n xs d v) (hl : IdOk l) (hn : n ≤ 65536) (hx : xs.length ≤ n) (hBw : B ≤ w.heap.size) (vb f : Int) {m : List Nat} (hm : IdOk m) (t : ByteArray) (ht : t.size ≤ maxLen) :
    Calls Tryz.prog 11 #[.pointer (some ⟨b, 0, none⟩), .agg (cmdC vb f m t)] w fun e w' => e = .returned (.int .i64 (hearF l n xs d vb f m t).2.2) ∧ RcPost w B b l n (hearF l n xs d vb f m t).1 (hearF l n xs d vb f m t).2.1 v w' := by
  unfold hearF
  cases d with
  | true => rw [if_pos rfl]; exact hear_done w h hl.len vb f m t
  | false =>
    rw [if_neg (by decide)]
    by_cases h78 : vb ≠ 7 ∧ vb ≠ 8
    · rw [if_pos h78]; exact hear_kind w h hl.len vb f hm.len t h78.1 h78.2
    rw [if_neg h78]
    by_cases hid : m ≠ l
    · rw [if_pos hid]; exact hear_id w h hl vb f hm t (by omega) hid
    rw [if_neg hid]
    obtain rfl : m = l := by simpa using hid
    by_cases h8 : vb = 8
    · subst h8
      rw [if_pos rfl]
      by_cases hs : xs.length < n
      · rw [if_pos hs]; exact hear_end w h hl f t 4 (fun w1 b1 => done_short w1 (h.below b1) hl.len hn 8 f m t hs)
      · rw [if_neg hs]; exact hear_end w h hl f t 0 (fun w1 b1 => done_ok w1 (h.below b1) hl.len hn 8 f m t (by omega))
    rw [if_neg h8]
    obtain rfl : vb = 7 := by omega
    by_cases hf : f ≠ (xs.length : Int)
    · rw [if_pos hf]; exact hear_data w h hl f t 30 (fun w1 b1 => data_seq w1 (h.below b1) hl.len 7 f t hf)
    rw [if_neg hf]
    obtain rfl : f = (xs.length : Int) := by simpa using hf
    by_cases hlg : n < xs.length + t.size
    · rw [if_pos hlg]; exact hear_data w h hl _ t 5 (fun w1 b1 => data_long w1 (h.below b1) hl.len hn hl.len 7 t hx (by omega) ht)
    · rw [if_neg hlg]; exact hear_data w h hl _ t 0 (fun w1 b1 => data_ok w1 (h.below b1) hl.len hn hl.len 7 t hx (by omega) (Nat.le_trans hBw b1.size))

theorem size34' {v f : Int} {l : List Nat} {t : ByteArray} (h : l.length = 32) : (Tryz.prog.info? 31).map (·.size) = some (cmdC v f l t).size := by rw [cmd_size h]; exact size34
theorem one_cmd (v f : Int) (l : List Nat) (t : ByteArray) : (cmdC v f l t).all (·.oneCell') = true := by
  rw [Array.all_eq_true']
  intro x hx
  simp [cmdC] at hx
  rcases hx with rfl | rfl | ⟨y, _, rfl⟩ | rfl | rfl | rfl | rfl <;> rfl
def zc34 : Array Value := (([.int .i64 0, .string ⟨#[]⟩] : List Value) ++ z32 ++ ([.int .i64 0, .int .i64 0, .int .i64 0, .int .i64 0, .string ⟨#[]⟩] : List Value)).toArray

theorem store_at {P : Program} (w1 : World) (N : Nat) (hN : w1.heap.size = N) (t : TypeId) (c c' : Array Value) (hi : (P.info? t).map (·.size) = some c'.size) (ho : c.size = c'.size) (h1 : c'.all (·.oneCell') = true) :
    (storeVar t ⟨N, 0, none⟩ (.agg c')).run P (w1.alloc (.cells c t)) = .ok () (w1.alloc (.cells c' t)) := by subst hN; exact run_storeVar_new w1 t c c' hi ho h1

set_option maxHeartbeats 400000 in
theorem own_any (w : World) (vb f : Int) {m : List Nat} (hm : m.length = 32) (t : ByteArray) :
    Calls Tryz.prog 12 #[.agg (rcmC vb f m t)] w fun e w' => e = .returned (.agg (cmdC vb f m t)) ∧ Below w.heap.size w w' := by
  have c0 := (rcm_at hm vb f t).1
  have c33 := (rcm_at hm vb f t).2.1
  have c34 := (rcm_at hm vb f t).2.2
  go_enter Tryz.func12, Tryz.ntmps12
  go_wp2_with (first
    | ((with_reducible refine wpList_load 23 rfl _ rfl ?_); refine ⟨_, _, rfl, load_id _ w.heap.size 1 _ _ _ hm (alloc_block (heap_alloc_new w _)) (rcm_id vb f t), ?_⟩)
    | ((with_reducible refine wpList_build4 31 rfl _ _ _ _ rfl ?_); refine ⟨_, _, _, _, _, rfl, rfl, rfl, rfl, build_cmd _ hm vb f t, ?_⟩)
    | ((with_reducible refine wpList_store 31 rfl _ _ rfl ?_); refine ⟨_, _, _, rfl, rfl, store_at (w.alloc (.cells (rcmC vb f m t) 25)) _ (by simp) 31 _ _ (size34' hm) (by rw [cmd_size hm]; rfl) (one_cmd _ _ _ _), ?_⟩))
  refine bodyPost_ret (v := .agg (cmdC vb f m t)) (results_cell_row Tryz.results12 _ _ (w.heap.size + 1) 31 _ _ _ rfl (by have := heap_alloc_new (w.alloc (.cells (rcmC vb f m t) 25)) (.cells (cmdC vb f m t) 31); simpa using this) Tryz.underlying31 rfl (size34' hm)) rfl ⟨rfl, ?_⟩
  exact ((Below.refl _ _).alloc (Nat.le_refl _) _).alloc (by simp) _

end Go.Proofs.YtolhjijnbobphaaGreatDoor
