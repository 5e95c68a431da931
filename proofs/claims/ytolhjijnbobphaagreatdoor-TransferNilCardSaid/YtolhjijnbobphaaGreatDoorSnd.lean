/- The sender. -/
import Derived.Test.YtolhjijnbobphaaGreatDoorRefH
namespace Go.Proofs.YtolhjijnbobphaaGreatDoor
open Go.RowKit Go.Maps
set_option linter.unusedVariables false
set_option maxRecDepth 100000

/-- A sender in block b. -/
def Sn (w : World) (b : Nat) (l : List Nat) (t : ByteArray) (c s : Nat) (d : Bool) : Prop := w.heap[b]? = some (.cells (sndC l t c s d) 48 (0, 0))
section
variable {w : World} {b : Nat} {l : List Nat} {t : ByteArray} {c s : Nat} {d : Bool} (h : Sn w b l t c s d) (hl : l.length = 32)
include h
theorem Sn.below {w' : World} (hb : Below w.heap.size w w') : Sn w' b l t c s d := (hb.block b (lt_of_block h)).trans h
theorem Sn.lt : b < w.heap.size := lt_of_block h
include hl
theorem Sn.at32 : w.cell? ⟨b, 32, none⟩ = some (.string t) := (cellB h 32).trans (snd_at hl _ _ _ _).1
theorem Sn.at33 : w.cell? ⟨b, 33, none⟩ = some (.int .i64 (c : Int)) := (cellB h 33).trans (snd_at hl _ _ _ _).2.1
theorem Sn.at34 : w.cell? ⟨b, 34, none⟩ = some (.int .i64 (s : Int)) := (cellB h 34).trans (snd_at hl _ _ _ _).2.2.1
theorem Sn.at35 : w.cell? ⟨b, 35, none⟩ = some (.bool d) := (cellB h 35).trans (snd_at hl _ _ _ _).2.2.2
end
theorem Sn.free {w : World} {b : Nat} {l : List Nat} {t : ByteArray} {c s : Nat} {d : Bool} (h : Sn w b l t c s d) (j : Nat) : w.frozen? ⟨b, j, none⟩ = false := freeB h j

set_option maxHeartbeats 400000 in
theorem newsnd_any (w : World) {l : List Nat} (h : IdOk l) (t : ByteArray) (c s : Int) (ht : t.size ≤ 65536) (c0 : 1 ≤ c) (c1 : c ≤ 4096) (s0 : 0 ≤ s) (s1 : s ≤ t.size) :
    Calls Tryz.prog 18 #[.agg (idA l), .string t, .int .i64 c, .int .i64 s] w fun e w' => e = .returned (.tuple #[.pointer (some ⟨w.heap.size + 1, 0, none⟩), .int .i64 0]) ∧
      w' = (w.alloc (.cells (idA l) 23)).alloc (.cells (sndC l t c s false) 48) := by
  go_enter Tryz.func18, Tryz.ntmps18
  go_wp2_with (first
    | ((with_reducible refine wpList_load 23 rfl _ rfl ?_); refine ⟨_, _, rfl, load_id _ w.heap.size 0 _ _ _ h.len (heap_alloc_last w _) (id_self l), ?_⟩)
    | ((with_reducible refine wpList_build4 48 rfl _ _ _ _ rfl ?_); refine ⟨_, _, _, _, _, rfl, rfl, rfl, rfl, build_snd _ h.len t c s, ?_⟩))
  go_ret2
  exact ⟨rfl, rfl⟩
set_option maxHeartbeats 400000 in
theorem newsnd_no (w : World) (l : List Nat) (t : ByteArray) (c s : Int) (ht : t.size ≤ 65536) (hno : c < 1 ∨ 4096 < c ∨ s < 0 ∨ (t.size : Int) < s) :
    Calls Tryz.prog 18 #[.agg (idA l), .string t, .int .i64 c, .int .i64 s] w fun e w' => e = .returned (.tuple #[.pointer none, .int .i64 2]) ∧ w' = w.alloc (.cells (idA l) 23) := by
  by_cases c0 : c < 1
  · go_enter Tryz.func18, Tryz.ntmps18
    go_wp2_with fail
    go_ret2
    exact ⟨rfl, rfl⟩
  by_cases c1 : 4096 < c
  · go_enter Tryz.func18, Tryz.ntmps18
    go_wp2_with fail
    go_ret2
    exact ⟨rfl, rfl⟩
  by_cases s0 : s < 0
  · clear hno
    go_enter Tryz.func18, Tryz.ntmps18
    go_wp2_with fail
    go_ret2
    exact ⟨rfl, rfl⟩
  · have s1 : (t.size : Int) < s := by omega
    clear hno
    go_enter Tryz.func18, Tryz.ntmps18
    go_wp2_with fail
    go_ret2
    exact ⟨rfl, rfl⟩
theorem sent_any (w : World) {b : Nat} {l : List Nat} {t : ByteArray} {c s : Nat} {d : Bool} (h : Sn w b l t c s d) (hl : l.length = 32) : Calls Tryz.prog 9 #[.pointer (some ⟨b, 0, none⟩)] w fun e w' => e = .returned (.int .i64 (s : Int)) ∧ w = w' := by
  have h34 := h.at34 hl
  clear h
  go_enter Tryz.func9, Tryz.ntmps9
  go_wp2_with fail
  go_ret
  exact ⟨rfl, rfl⟩
theorem ended_any (w : World) {b : Nat} {l : List Nat} {t : ByteArray} {c s : Nat} {d : Bool} (h : Sn w b l t c s d) (hl : l.length = 32) : Calls Tryz.prog 10 #[.pointer (some ⟨b, 0, none⟩)] w fun e w' => e = .returned (.bool d) ∧ w = w' := by
  have h35 := h.at35 hl
  clear h
  go_enter Tryz.func10, Tryz.ntmps10
  go_wp2_with fail
  go_ret
  exact ⟨rfl, rfl⟩

end Go.Proofs.YtolhjijnbobphaaGreatDoor
