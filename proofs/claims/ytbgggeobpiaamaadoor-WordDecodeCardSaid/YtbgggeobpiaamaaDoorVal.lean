/- Walk of base64.values: the map from letters to their values. -/
import Derived.Test.YtbgggeobpiaamaaDoorEncC
import Derived.Deep.MidRow
import Derived.Maps.OwnOps
import Derived.Maps.OwnSet
namespace Go.Proofs.YtbgggeobpiaamaaDoor
open Go.RowKit Go.Maps
set_option linter.unusedVariables false
set_option maxRecDepth 100000

def alphCells : List Value := alph.map U
theorem alphCells_at (k : Nat) (h : k < 64) : alphCells[k]? = some (U (al k)) := by
  have hl : k < alph.length := by simp [alph]; omega
  simp [alphCells, al, List.getD, List.getElem?_eq_getElem hl]
theorem tab_range {w : World} (h : Tab w) : w.rangeAt 3 0 alphCells := by
  intro j v hv
  have hj : j < 64 := by
    have := (List.getElem?_eq_some_iff.1 hv).1
    simpa [alphCells, alph] using this
  rw [alphCells_at j hj] at hv
  cases hv
  rw [Nat.zero_add]
  exact h.cell j hj
theorem idx_alph (k : Nat) (h : k < 64) (w : World) : (Instr.index 122 (.agg alphCells.toArray) (.int .i64 k)).run Tryd.prog w = .ok (.int .u8 (al k)) w := by
  have hi : (0 : Int) ≤ (k : Int) ∧ (k : Int) < 64 := by omega
  simp [Instr.index, run_underlying Tryd.underlying122, asIntOf, hi, go_sem]
  rw [if_pos h, alphCells_at k h]
  rfl

theorem law5 : Keyed Tryd.prog 5 := int_keyed Tryd.underlying5
theorem zero3 (w : World) : (zeroValue 3).run Tryd.prog w = .ok (.int .i64 0) w := by kernel_rfl
theorem mkmap (w : World) : (Instr.makeMap 97 (some (.int .i64 64))).run Tryd.prog w = .ok (.map (some w.heap.size)) (w.alloc (.map #[] 0)) := by
  kernel_rfl

/-- The map behind k rounds. -/
def vMap (k : Nat) : DataW Unit := (List.range k).foldl (fun D i => D.put (.int .u8 (al i)) (.lit (.int .i64 i))) (.map [])
theorem vMap_succ (k : Nat) : vMap (k + 1) = (vMap k).put (.int .u8 (al k)) (.lit (.int .i64 k)) := by simp [vMap, List.range_succ]

theorem vMap_has : ∀ c : Nat, c < 256 → Maps.has (vMap 64) (.int .u8 c) = (vOf c).isSome := by decide +kernel
theorem vMap_at0 : ∀ c : Nat, c < 256 → (match (vMap 64).atKey (.int .u8 c) (.lit (.int .i64 0)) with | .lit (.int .i64 x) => decide (x = ((vOf c).getD 0 : Nat)) | _ => false) = true := by decide +kernel
theorem vMap_at (c : Nat) (h : c < 256) (x : Int) (hx : (vMap 64).atKey (.int .u8 c) (.lit (.int .i64 0)) = .lit (.int .i64 x)) : x = ((vOf c).getD 0 : Nat) := by
  have := vMap_at0 c h
  rw [hx] at this
  simpa using this
set_option maxHeartbeats 400000 in
theorem values_any (w : World) (ht : Tab w) :
    Calls Tryd.prog 74 #[] w fun e w' => e = .returned (.map (some w.heap.size)) ∧ w'.ownsMap Tryd.prog 5 (plainElem (H := Unit) Tryd.prog 3) w.heap.size 64 (vMap 64) ∧ Below w.heap.size w w' := by
  have hmm := mkmap
  have hr := tab_range ht
  have RA : Hid ((w.alloc (.map #[] 0)).rangeAt 3 0 alphCells) := tab_range (ht.below ((Below.refl _ _).alloc (Nat.le_refl _) _) ht.size)
  have hi : (Tryd.prog.info? 122).map (·.size) = some alphCells.length := by kernel_rfl
  obtain ⟨cs, hcs⟩ : ∃ cs, cs = alphCells := ⟨_, rfl⟩
  rw [← hcs] at RA hi
  have HCS := Lib.hid hcs; have HI := Lib.hid hi
  clear hr ht hcs hi
  go_enter Tryd.func74, Tryd.ntmps74
  go_wp2_with (with_reducible refine wpList_load_mid rfl 122 _ rfl 3 0 rfl cs _ RA.out Tryd.underlying122 rfl HI.out ?_)
  go_loopg [6] 64 (fun k i wr => ∃ j, j ≤ 64 ∧ k = 64 - j ∧ i = .int .i64 (j : Int) ∧ wr.ownsMap Tryd.prog 5 (plainElem (H := Unit) Tryd.prog 3) w.heap.size j (vMap j) ∧ Below w.heap.size w wr)
  case atStart => exact ⟨0, by omega, by omega, rfl, World.ownsMap_made _ _ _ _, (Below.refl _ _).alloc (Nat.le_refl _) _⟩
  case round =>
    obtain ⟨j, hj, rfl, rfl, hown, hb⟩ := hrel
    by_cases hlt : j < 64
    · have hx : ∀ w, (Instr.index 122 (.agg cs.toArray) (.int .i64 (j : Int))).run Tryd.prog w = .ok (.int .u8 (al j)) w := fun w => by rw [HCS.out]; exact idx_alph j hlt w
      have hal := al_lt j
      have hkey : keyOf Tryd.prog 5 (.int .u8 (al j)) = some (.int .u8 (al j)) := keyOf_int_mk Tryd.underlying5 (WalkArith.wf_u8 (by omega))
      go_wp2_with (at_mapUpdate; refine wpList_mapUpdate_own _ rfl _ _ _ 97 rfl 5 3 law5 Tryd.underlying97 _ w.heap.size j _ rfl hown (by unfold maxLen; omega) _ _ _ rfl rfl hkey _ [] (plainElem_int Tryd.underlying3 (WalkArith.wf_i64 (by omega))) ?_; intro w1 hown1 hgrow1)
      go_roundg (64 - (j + 1))
      case measure => omega
      case rel => exact ⟨j + 1, by omega, rfl, by go_num, by rw [vMap_succ]; exact hown1, hb.grown hgrow1 hb.size (fun j hj => by cases hj; exact Nat.le_refl _)⟩
    · obtain rfl : j = 64 := by omega
      go_wp2_with fail
      go_ret
      exact ⟨rfl, hown, hb⟩

end Go.Proofs.YtbgggeobpiaamaaDoor
