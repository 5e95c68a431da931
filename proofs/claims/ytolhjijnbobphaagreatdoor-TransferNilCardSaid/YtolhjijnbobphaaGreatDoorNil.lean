/- The methods of package transfer at nil. -/
import Derived.Test.YtolhjijnbobphaaGreatDoorCmds
namespace Go.Proofs.YtolhjijnbobphaaGreatDoor
open Go.RowKit Go.Maps
set_option linter.unusedVariables false
set_option maxRecDepth 100000
theorem say_nil (w : World) : Calls Tryz.prog 5 #[.pointer none] w fun e w' => e = .returned (.tuple #[.agg cmdZ, .bool false]) ∧ Below w.heap.size w w' := by
  go_enter Tryz.func5, Tryz.ntmps5
  go_wp2_with (first
    | ((with_reducible refine wpList_build0 31 rfl rfl ?_); refine ⟨_, build_cmd0' _, ?_⟩)
    | ((with_reducible refine wpList_store 31 rfl _ _ rfl ?_); refine ⟨_, _, _, rfl, rfl, store_at w _ rfl 31 _ cmdZ size34z (by rw [cmdZ_size]; rfl) one_cmdZ, ?_⟩))
  exact bodyPost_ret (v := .tuple #[.agg cmdZ, .bool false]) (results_cell_tmp Tryz.results5 _ _ w.heap.size _ _ _ _ _ rfl rfl (heap_alloc_new w _) Tryz.underlying31 rfl size34z) rfl ⟨rfl, (Below.refl _ _).alloc (Nat.le_refl _) _⟩
theorem sent_nil (w : World) : Calls Tryz.prog 9 #[.pointer none] w fun e w' => e = .returned (.int .i64 0) ∧ w = w' := by
  go_enter Tryz.func9, Tryz.ntmps9
  go_wp2_with fail
  go_ret
  exact ⟨rfl, rfl⟩
theorem ended_nil (w : World) : Calls Tryz.prog 10 #[.pointer none] w fun e w' => e = .returned (.bool false) ∧ w = w' := by
  go_enter Tryz.func10, Tryz.ntmps10
  go_wp2_with fail
  go_ret
  exact ⟨rfl, rfl⟩
theorem rtext_nil (w : World) : Calls Tryz.prog 6 #[.pointer none] w fun e w' => e = .returned (.tuple #[.string ⟨#[]⟩, .int .i64 1]) ∧ w = w' := by
  go_enter Tryz.func6, Tryz.ntmps6
  go_wp2_with fail
  go_ret2
  exact ⟨rfl, rfl⟩
theorem reset_nil (w : World) : Calls Tryz.prog 7 #[.pointer none] w fun e w' => e = .returned (.tuple #[]) ∧ w = w' := by
  go_enter Tryz.func7, Tryz.ntmps7
  go_wp2_with fail
  go_end0
  exact ⟨rfl, rfl⟩
theorem from_nil (w : World) : Calls Tryz.prog 13 #[.pointer none] w fun e w' => e = .returned (.int .i64 0) ∧ w = w' := by
  go_enter Tryz.func13, Tryz.ntmps13
  go_wp2_with fail
  go_ret
  exact ⟨rfl, rfl⟩
theorem complete_nil (w : World) : Calls Tryz.prog 14 #[.pointer none] w fun e w' => e = .returned (.bool false) ∧ w = w' := by
  go_enter Tryz.func14, Tryz.ntmps14
  go_wp2_with fail
  go_ret
  exact ⟨rfl, rfl⟩
theorem clone_nil (w : World) : Calls Tryz.prog 16 #[.pointer none] w fun e w' => e = .returned (.pointer none) ∧ w = w' := by
  go_enter Tryz.func16, Tryz.ntmps16
  go_wp2_with fail
  go_ret
  exact ⟨rfl, rfl⟩
theorem equal_nn (w : World) : Calls Tryz.prog 17 #[.pointer none, .pointer none] w fun e w' => e = .returned (.bool true) ∧ w = w' := by
  go_enter Tryz.func17, Tryz.ntmps17
  go_wp2_with fail
  go_ret
  exact ⟨rfl, rfl⟩
theorem equal_np (w : World) (b : Nat) : Calls Tryz.prog 17 #[.pointer none, .pointer (some ⟨b, 0, none⟩)] w fun e w' => e = .returned (.bool false) ∧ w = w' := by
  go_enter Tryz.func17, Tryz.ntmps17
  go_wp2_with fail
  go_ret
  exact ⟨rfl, rfl⟩
theorem equal_pn (w : World) (b : Nat) : Calls Tryz.prog 17 #[.pointer (some ⟨b, 0, none⟩), .pointer none] w fun e w' => e = .returned (.bool false) ∧ w = w' := by
  go_enter Tryz.func17, Tryz.ntmps17
  go_wp2_with fail
  go_ret
  exact ⟨rfl, rfl⟩
theorem accept_nil (w : World) : Calls Tryz.prog 15 #[.pointer none] w fun e w' => e = .returned (.int .i64 1) ∧ Below w.heap.size w w' := by
  have T := Lib.hid (fun w => rtext_nil w)
  go_enter Tryz.func15, Tryz.ntmps15
  go_wp2_with (go_at_call 6; refine (T.out _).mono ?_; rintro e w' ⟨rfl, rfl⟩)
  go_ret
  exact ⟨rfl, Below.refl _ _⟩
theorem hear_nil (w : World) {vb f : Int} {m : List Nat} (hm : m.length = 32) (t : ByteArray) : Calls Tryz.prog 11 #[.pointer none, .agg (cmdC vb f m t)] w fun e w' => e = .returned (.int .i64 1) ∧ Below w.heap.size w w' := by
  go_enter Tryz.func11, Tryz.ntmps11
  go_wp2_with fail
  go_ret
  exact ⟨rfl, by first | exact Below.refl _ _ | exact (Below.refl _ _).alloc (Nat.le_refl _) _⟩
end Go.Proofs.YtolhjijnbobphaaGreatDoor
