/- Walk of Decode$1 (a byte is appended) and of regroup's closures. -/
import Derived.Test.YtbgggeobpiaamaaDoorProg
import Derived.Test.YtbgggeobpiaamaaDoorKit
import Derived.Test.YtbgggeobpiaamaaDoorEncA
import Derived.BigQuiet
import Derived.Deep.QuietTactic
import Derived.Deep.RegionLaw
import Derived.KernelRfl
namespace Go.Proofs.YtbgggeobpiaamaaDoor
open Go.RowKit
set_option linter.unusedVariables false

/-- Decode$1: a group of eight bits is appended as a byte. -/
theorem dec1 (w : World) (Bt g base : Nat) (v : Value) (xs : List Nat)
    (hT : w.heap[Bt]? = some (.cells #[v] 43 (0, 0))) (hown : w.ownsRow base 5 1 v xs.length (xs.map U)) (hbase : base ≤ w.heap.size) (hBt : base ≤ Bt)
    (hn : xs.length ≤ 1000000) (hg : g < 256) :
    Calls Tryd.prog 73 #[.int .i64 g, .pointer (some ⟨Bt, 0, none⟩)] w fun e w' => e = .returned (.tuple #[]) ∧
      (∃ v', w'.heap[Bt]? = some (.cells #[v'] 43 (0, 0)) ∧ w'.ownsRow base 5 1 v' (xs.length + 1) ((xs ++ [g]).map U)) ∧ Frame1 base Bt v w w' := by
  obtain ⟨i0, hi0, hz0, hz1, hz2⟩ := info_parts info5
  have hc := cell_of_one hT
  have hf := free_of_one hT
  have lt := lt_of_block hT
  have g0 : (0 : Int) ≤ (g : Int) := Int.natCast_nonneg _
  have g1 : (g : Int) < 256 := by omega
  have hne : v.ownBlock ≠ some Bt := own_ne hown hT (by decide)
  have hTA : (w.alloc (.cells #[.int .u8 g] 5)).heap[Bt]? = some (.cells #[v] 43 (0, 0)) := alloc_block hT
  have HT := Lib.hid hT
  have HTA := Lib.hid hTA
  have HNE := Lib.hid hne
  clear hT hTA hne
  go_enter Tryd.func73, Tryd.ntmps73
  go_wp2_with ((at_builtin; refine wpList_append_lies _ rfl _ _ _ rfl base 5 i0 _ 1 1 Tryd.underlying43 hi0 hz0 hz1 hz2 rfl (by omega) v xs.length (xs.map U) rfl (hown.alloc _) ⟨w.heap.size, 0, none⟩ 1 1 [.int .u8 g] rfl rfl (World.news_of_block (cs := #[.int .u8 g]) (t := 5) (fr := (0, 0)) (heap_alloc_new w _)) (by simp [Value.oneCell']) (by omega) (by unfold maxLen; omega) (by omega) (by simp; omega) (w.heap.size + 1) (by simp) ?_; intro gg cap w1 hown1 hgrow hat hlt; have hc1 := own_kept_block hgrow HTA.out HNE.out; have hc2 := cell_of_one hc1; have hc3 := free_of_one hc1; have HC1 := Lib.hid hc1; clear hc1))
  all_goals go_end0
  all_goals (refine ⟨rfl, ?_⟩; rw [List.map_append]; exact app_close hown1 hgrow (((Below.refl _ _).alloc (Nat.le_refl _) _)) HC1.out (by decide) hBt hbase hown)

end Go.Proofs.YtbgggeobpiaamaaDoor
