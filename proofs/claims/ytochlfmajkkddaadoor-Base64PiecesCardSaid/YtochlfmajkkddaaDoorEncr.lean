/- The Encoder of package base64. -/
import Derived.Test.YtochlfmajkkddaaDoorCat
import Derived.Test.YtochlfmajkkddaaDoorBldS
namespace Go.Proofs.YtochlfmajkkddaaDoor
open Go.RowKit Go.Maps
set_option linter.unusedVariables false

/-- An encoder in block b: how many bytes, the two bytes of the rest, closed or not. -/
def En (w : World) (b n r0 r1 : Nat) (cl : Bool) : Prop := w.heap[b]? = some (.cells #[.int .i64 n, U r0, U r1, .bool cl] 43 (0, 0))
theorem En.c0 {w : World} {b n r0 r1 : Nat} {cl : Bool} (h : En w b n r0 r1 cl) : w.cell? ⟨b, 0, none⟩ = some (.int .i64 n) := by rw [cellB h]; rfl
theorem En.c1 {w : World} {b n r0 r1 : Nat} {cl : Bool} (h : En w b n r0 r1 cl) : w.cell? ⟨b, 1, none⟩ = some (.int .u8 r0) := by rw [cellB h]; rfl
theorem En.c2 {w : World} {b n r0 r1 : Nat} {cl : Bool} (h : En w b n r0 r1 cl) : w.cell? ⟨b, 2, none⟩ = some (.int .u8 r1) := by rw [cellB h]; rfl
theorem En.c3 {w : World} {b n r0 r1 : Nat} {cl : Bool} (h : En w b n r0 r1 cl) : w.cell? ⟨b, 3, none⟩ = some (.bool cl) := by rw [cellB h]; rfl
theorem En.below {w w' : World} {b n r0 r1 : Nat} {cl : Bool} (h : En w b n r0 r1 cl) (hb : Below w.heap.size w w') : En w' b n r0 r1 cl := (hb.block b (lt_of_block h)).trans h

theorem elen_any (w : World) (b n r0 r1 : Nat) (cl : Bool) (h : En w b n r0 r1 cl) : Calls Tryd.prog 24 #[.pointer (some ⟨b, 0, none⟩)] w fun e w' => e = .returned (.int .i64 (n : Int)) ∧ w = w' := by
  have h0 := h.c0
  clear h
  go_enter Tryd.func24, Tryd.ntmps24
  go_wp2_with fail
  go_ret
  exact ⟨rfl, rfl⟩
theorem elen_nil (w : World) : Calls Tryd.prog 24 #[.pointer none] w fun e w' => e = .returned (.int .i64 0) ∧ w = w' := by
  go_enter Tryd.func24, Tryd.ntmps24
  go_wp2_with fail
  go_ret
  exact ⟨rfl, rfl⟩
theorem new_any (w : World) : Calls Tryd.prog 25 #[] w fun e w' => e = .returned (.pointer (some ⟨w.heap.size, 0, none⟩)) ∧ w' = w.alloc (.cells #[.int .i64 0, .int .u8 0, .int .u8 0, .bool false] 43) := by
  go_enter Tryd.func25, Tryd.ntmps25
  go_wp2_with fail
  go_ret
  exact ⟨rfl, rfl⟩
theorem ewrite_nil (w : World) (x : Value) : Calls Tryd.prog 22 #[.pointer none, x] w fun e w' => e = .returned (.tuple #[.string (strN []), .int .i64 1]) ∧ w = w' := by
  go_enter Tryd.func22, Tryd.ntmps22
  go_wp2_with fail
  go_ret2
  exact ⟨rfl, rfl⟩
theorem eclose_nil (w : World) : Calls Tryd.prog 23 #[.pointer none] w fun e w' => e = .returned (.tuple #[.string (strN []), .int .i64 1]) ∧ w = w' := by
  go_enter Tryd.func23, Tryd.ntmps23
  go_wp2_with fail
  go_ret2
  exact ⟨rfl, rfl⟩
theorem ewrite_closed (w : World) (b n r0 r1 : Nat) (x : Value) (h : En w b n r0 r1 true) : Calls Tryd.prog 22 #[.pointer (some ⟨b, 0, none⟩), x] w fun e w' => e = .returned (.tuple #[.string (strN []), .int .i64 10]) ∧ w = w' := by
  have h3 := h.c3
  clear h
  go_enter Tryd.func22, Tryd.ntmps22
  go_wp2_with fail
  go_ret2
  exact ⟨rfl, rfl⟩
theorem eclose_closed (w : World) (b n r0 r1 : Nat) (h : En w b n r0 r1 true) : Calls Tryd.prog 23 #[.pointer (some ⟨b, 0, none⟩)] w fun e w' => e = .returned (.tuple #[.string (strN []), .int .i64 10]) ∧ w = w' := by
  have h3 := h.c3
  clear h
  go_enter Tryd.func23, Tryd.ntmps23
  go_wp2_with fail
  go_ret2
  exact ⟨rfl, rfl⟩
theorem ewrite_long (w : World) (b n r0 r1 : Nat) (a : Option Addr) (m cap : Nat) (h : En w b n r0 r1 false) (hn : n ≤ 131072) (hm : 131072 < n + m) (hmm : m ≤ maxLen) : Calls Tryd.prog 22 #[.pointer (some ⟨b, 0, none⟩), .slice a m cap] w fun e w' => e = .returned (.tuple #[.string (strN []), .int .i64 5]) ∧ w = w' := by
  have h3 := h.c3
  have h0 := h.c0
  unfold maxLen at hmm
  clear h
  go_enter Tryd.func22, Tryd.ntmps22
  go_wp2_with fail
  go_ret2
  exact ⟨rfl, rfl⟩

/-- The bytes that do not make up a group of three. -/
def restOf (n r0 r1 : Nat) : List Nat := [r0, r1].take (n % 3)
theorem rest_len (n r0 r1 : Nat) : (restOf n r0 r1).length = n % 3 := by
  unfold restOf
  rw [List.length_take]
  simp
  omega
theorem En.rd {w : World} {b n r0 r1 : Nat} {cl : Bool} (h : En w b n r0 r1 cl) (h0 : r0 < 256) (h1 : r1 < 256) : Rd w (some ⟨b, 1, none⟩) (restOf n r0 r1) := by
  refine ⟨fun x hx => ?_, fun _ => ⟨b, 1, rfl, lt_of_block h, fun i hi => ?_⟩⟩
  · have := List.mem_of_mem_take hx
    simp at this
    omega
  · have hl := rest_len n r0 r1
    have : i = 0 ∨ i = 1 := by omega
    have e : ∀ h2 : i < [r0, r1].length, (restOf n r0 r1)[i] = [r0, r1][i] := fun _ => List.getElem_take
    rcases this with rfl | rfl
    · rw [e (by simp)]; exact h.c1
    · rw [e (by simp)]; exact h.c2

theorem En.close {w : World} {b n r0 r1 : Nat} {cl : Bool} (h : En w b n r0 r1 cl) : En (w.setCell ⟨b, 3, none⟩ (.bool true)) b n r0 r1 true := setB h 3 (.bool true)

set_option maxHeartbeats 400000 in
theorem eclose_any (w : World) (b n r0 r1 : Nat) (h : En w b n r0 r1 false) (h0 : r0 < 256) (h1 : r1 < 256) (hn : n ≤ 131072) (ht : Tab w) (hb0 : b ≠ 0) :
    Calls Tryd.prog 23 #[.pointer (some ⟨b, 0, none⟩)] w fun e w' => e = .returned (.tuple #[.string (strN (encF (restOf n r0 r1))), .int .i64 0]) ∧ En w' b n r0 r1 true ∧ (∀ k, k < w.heap.size → k ≠ b → w'.heap[k]? = w.heap[k]?) ∧ Below b w w' := by
  have h3 := h.c3
  have hc := h.c0
  have f3 := freeB h 3
  have e1 := h.close
  have lt := lt_of_block h
  have t1 : Tab (w.setCell ⟨b, 3, none⟩ (.bool true)).drew := ⟨by have := ht.size; simpa [World.setCell] using this, fun g hg => by
    have h5 : ((w.setCell ⟨b, 3, none⟩ (.bool true)).drew).heap[0]? = w.heap[0]? := otherB w b 3 _ _ (fun e => hb0 e.symm)
    exact (World.cell?_of_block (a := ⟨0, g, none⟩) h5).trans (ht.cell g hg)⟩
  obtain ⟨m, hm⟩ : ∃ m, m = n % 3 := ⟨_, rfl⟩
  have hrl : (restOf n r0 r1).length = m := by rw [rest_len, hm]
  have em : (n : Int) % 3 = (m : Int) := by omega
  have C1 := encode_any (w.setCell ⟨b, 3, none⟩ (.bool true)).drew (some ⟨b, 1, none⟩) 2 (restOf n r0 r1) (by rw [hrl]; omega) (En.rd (w := (w.setCell ⟨b, 3, none⟩ (.bool true)).drew) e1 h0 h1) t1
  rw [hrl] at C1
  have HC := Lib.hid C1; have E1 := Lib.hid e1
  have hs : (w.setCell ⟨b, 3, none⟩ (.bool true)).heap.size = w.heap.size := by simp [World.setCell]
  have m0 : (0 : Int) ≤ (m : Int) := by omega
  have m1 : (m : Int) ≤ 2 := by omega
  have HS := Lib.hid hs
  have hc1 : (w.setCell ⟨b, 3, none⟩ (.bool true)).cell? ⟨b, 0, none⟩ = some (.int .i64 (n : Int)) := e1.c0
  have ew : IntKind.i64.wrap ((n : Int) % 3) = (m : Int) := by rw [em]; exact IntWalk.i64_in _ (by omega)
  have etm : (n : Int).tmod 3 = (m : Int) := by rw [Int.tmod_eq_emod_of_nonneg (by omega)]; exact em
  clear C1 e1 hs t1 hm hrl h
  go_enter Tryd.func23, Tryd.ntmps23
  go_wp2_with fail
  go_region_held3 (fun w' => w'.cell? ⟨b, 0, none⟩ = some (.int .i64 (n : Int))) (first | go_keep | exact E1.out.drew.c0 | exact ((En.below (w := (w.setCell ⟨b, 3, none⟩ (.bool true)).drew) E1.out HB.out).c0)) (first | (go_at_call 28; refine HC.out.mono ?_; rintro e w2 ⟨rfl, hb⟩; have HB := Lib.hid hb; clear hb))
  all_goals go_wp2_with fail
  all_goals go_ret2
  all_goals
    refine ⟨rfl, En.below (w := (w.setCell ⟨b, 3, none⟩ (.bool true)).drew) E1.out HB.out, fun k hk h1 => ?_, ?_⟩
    · exact (HB.out.block k (by show k < (w.setCell ⟨b, 3, none⟩ (.bool true)).heap.size; rw [HS.out]; exact hk)).trans (otherB w b 3 k _ h1)
    · exact ((Below.refl _ _).setCell (Nat.le_refl _) _).drew.trans (HB.out.mono (by show b ≤ (w.setCell ⟨b, 3, none⟩ (.bool true)).heap.size; rw [HS.out]; omega))

end Go.Proofs.YtochlfmajkkddaaDoor
