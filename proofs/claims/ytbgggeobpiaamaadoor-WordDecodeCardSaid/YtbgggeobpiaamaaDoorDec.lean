/- Walks of base64.data and base64.Decode. -/
import Derived.Test.YtbgggeobpiaamaaDoorRgD
import Derived.Test.YtbgggeobpiaamaaDoorEncB
import Derived.Test.YtbgggeobpiaamaaDoorEncC
import Derived.Test.YtbgggeobpiaamaaDoorVal
namespace Go.Proofs.YtbgggeobpiaamaaDoor
open Go.RowKit Go.Maps
set_option linter.unusedVariables false
set_option maxRecDepth 100000

/-- 's[i]' as a number. -/
theorem idx_str {P : Program} (t : TypeId) (ht : P.underlying t = some .string) (s : ByteArray) (k : IntKind) (i : Int) (j : Nat) (hi : i = j) (hj : j < s.size) (w : World) :
    (Instr.index t (.string s) (.int k i)).run P w = .ok (.int .u8 (((bs s).getD j 0 : Nat) : Int)) w := by
  subst hi
  rw [run_index_string w t s _ _ ht, dif_pos ⟨by omega, by omega⟩, bs_getD s j hj]
  rfl
theorem int_eq {a b : Int} (h : a = b) : (a == b) = true := by rw [h]; exact beq_self_eq_true b
theorem int_ne {a b : Int} (h : ¬ a = b) : (a == b) = false := beq_eq_false_iff_ne.2 h
theorem int_neq {a b : Int} (h : ¬ a = b) : (a != b) = true := bne_iff_ne.2 h
theorem int_nneq {a b : Int} (h : a = b) : (a != b) = false := by rw [h]; simp

theorem data_any (s : ByteArray) (w : World) (hs : s.size ≤ maxLen) :
    Calls Tryd.prog 71 #[.string s] w fun e w' => e = .returned (.int .i64 (dataF (bs s) : Nat)) ∧ w = w' := by
  unfold maxLen at hs
  by_cases h0 : s.size = 0
  · have hf : dataF (bs s) = 0 := by unfold dataF; rw [if_pos (by rw [bs_length]; exact .inl h0), bs_length, h0]
    rw [hf]
    have h0' : ((s.size : Int) == 0) = true := int_eq (by omega)
    clear hf
    go_enter Tryd.func71, Tryd.ntmps71
    go_wp2_with fail
    go_ret
    exact ⟨rfl, rfl⟩
  · have h0' : ((s.size : Int) == 0) = false := int_ne (by omega)
    by_cases h4 : s.size % 4 = 0
    · have h4' : ((s.size : Int) % 4 != 0) = false := int_nneq (by omega)
      obtain ⟨c1, hc1⟩ : ∃ c1, c1 = (bs s).getD (s.size - 1) 0 := ⟨_, rfl⟩
      obtain ⟨c2, hc2⟩ : ∃ c2, c2 = (bs s).getD (s.size - 2) 0 := ⟨_, rfl⟩
      have hx : ∀ w, (Instr.index 9 (.string s) (.int .i64 ((s.size : Int) - 1))).run Tryd.prog w = .ok (.int .u8 (c1 : Int)) w := fun w => by
        rw [idx_str 9 Tryd.underlying9 s .i64 ((s.size : Int) - 1) (s.size - 1) (by omega) (by omega), hc1]
      have hx2 : ∀ w, (Instr.index 9 (.string s) (.int .i64 ((s.size : Int) - 2))).run Tryd.prog w = .ok (.int .u8 (c2 : Int)) w := fun w => by
        rw [idx_str 9 Tryd.underlying9 s .i64 ((s.size : Int) - 2) (s.size - 2) (by omega) (by omega), hc2]
      by_cases hl : c1 = 61
      · have hl' : ((c1 : Int) != 61) = false := int_nneq (by omega)
        by_cases hm : c2 = 61
        · have hf : dataF (bs s) = s.size - 2 := by unfold dataF; rw [if_neg (by rw [bs_length, ← hc1]; omega), if_pos (by rw [bs_length, ← hc2]; exact hm), bs_length]
          rw [hf]
          have hm' : ((c2 : Int) == 61) = true := int_eq (by omega)
          clear hf hc1 hc2 hl hm
          go_enter Tryd.func71, Tryd.ntmps71
          go_wp2_with fail
          go_ret
          refine ⟨?_, rfl⟩
          simp; omega
        · have hf : dataF (bs s) = s.size - 1 := by unfold dataF; rw [if_neg (by rw [bs_length, ← hc1]; omega), if_neg (by rw [bs_length, ← hc2]; exact hm), bs_length]
          rw [hf]
          have hm' : ((c2 : Int) == 61) = false := int_ne (by omega)
          clear hf hc1 hc2 hl hm
          go_enter Tryd.func71, Tryd.ntmps71
          go_wp2_with fail
          go_ret
          refine ⟨?_, rfl⟩
          simp; omega
      · have hf : dataF (bs s) = s.size := by unfold dataF; rw [if_pos (by rw [bs_length, ← hc1]; exact .inr (.inr hl)), bs_length]
        rw [hf]
        have hl' : ((c1 : Int) != 61) = true := int_neq (by omega)
        clear hf hc1 hc2 hl
        go_enter Tryd.func71, Tryd.ntmps71
        go_wp2_with fail
        go_ret
        exact ⟨rfl, rfl⟩
    · have h4' : ((s.size : Int) % 4 != 0) = true := int_neq (by omega)
      have hf : dataF (bs s) = s.size := by unfold dataF; rw [if_pos (by rw [bs_length]; exact .inr (.inl h4)), bs_length]
      rw [hf]
      clear hf
      go_enter Tryd.func71, Tryd.ntmps71
      go_wp2_with fail
      go_ret
      exact ⟨rfl, rfl⟩

end Go.Proofs.YtbgggeobpiaamaaDoor
