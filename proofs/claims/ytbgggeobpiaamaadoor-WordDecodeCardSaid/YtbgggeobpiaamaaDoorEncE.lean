/- Walk of base64.Encode and of the statements' 'known'. -/
import Derived.Test.YtbgggeobpiaamaaDoorEncD
import Derived.Test.YtbgggeobpiaamaaDoorDecB
import Derived.Lib.SlBytesConst
namespace Go.Proofs.YtbgggeobpiaamaaDoor
open Go.RowKit Go.Maps
set_option linter.unusedVariables false
set_option maxRecDepth 100000

theorem encodeE_long (w : World) (a : Option Addr) (n cap : Nat) (hn : 131072 < n) (hm : n ≤ maxLen) :
    Calls Tryd.prog 44 #[.slice a n cap] w fun e w' => e = .returned (.tuple #[.string (strN []), .int .i64 5]) ∧ w = w' := by
  unfold maxLen at hm
  go_enter Tryd.func44, Tryd.ntmps44
  go_wp2_with fail
  go_ret2
  exact ⟨rfl, rfl⟩

theorem encodeE_any (w : World) (a : Option Addr) (cap : Nat) (l : List Nat) (hl : l.length ≤ 131072) (hrd : Rd w a l) (ht : Tab w) :
    Calls Tryd.prog 44 #[.slice a l.length cap] w fun e w' => e = .returned (.tuple #[.string (strN (encF l)), .int .i64 0]) ∧ Below w.heap.size w w' := by
  have C1 := Lib.hid (encode_any w a cap l (by omega) hrd ht)
  obtain ⟨n, hn⟩ : ∃ n, n = l.length := ⟨_, rfl⟩
  rw [← hn] at C1 hl ⊢
  clear hrd ht hn
  go_enter Tryd.func44, Tryd.ntmps44
  go_wp2_with (go_at_call 69; refine C1.out.mono ?_; rintro e w1 ⟨rfl, hb1⟩)
  go_ret2
  exact ⟨rfl, hb1⟩

theorem rd_new {w : World} {l : List Nat} {fz : Nat × Nat} (hl : ∀ x ∈ l, x < 256) : Rd (w.alloc (.cells (l.map U).toArray 5 fz)) (some ⟨w.heap.size, 0, none⟩) l := by
  refine ⟨hl, fun _ => ⟨w.heap.size, 0, rfl, by simp, fun i hi => ?_⟩⟩
  rw [Nat.zero_add, cell_of_row _ w.heap.size i (l.map U).toArray 5 fz (heap_alloc_new w _)]
  simp [List.getElem?_eq_getElem hi]

end Go.Proofs.YtbgggeobpiaamaaDoor
