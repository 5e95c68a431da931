/- Walk of base64.Encode and of the statements' 'known'. -/
import Derived.Test.YtochlfmajkkddaaDoorEncD
import Derived.Test.YtochlfmajkkddaaDoorDecB
import Derived.Lib.SlBytesConst
namespace Go.Proofs.YtochlfmajkkddaaDoor
open Go.RowKit Go.Maps
set_option linter.unusedVariables false

theorem encodeE_long (w : World) (a : Option Addr) (n cap : Nat) (hn : 131072 < n) (hm : n ≤ maxLen) :
    Calls Tryd.prog 13 #[.slice a n cap] w fun e w' => e = .returned (.tuple #[.string (strN []), .int .i64 5]) ∧ w = w' := by
  unfold maxLen at hm
  go_enter Tryd.func13, Tryd.ntmps13
  go_wp2_with fail
  go_ret2
  exact ⟨rfl, rfl⟩

theorem encodeE_any (w : World) (a : Option Addr) (cap : Nat) (l : List Nat) (hl : l.length ≤ 131072) (hrd : Rd w a l) (ht : Tab w) :
    Calls Tryd.prog 13 #[.slice a l.length cap] w fun e w' => e = .returned (.tuple #[.string (strN (encF l)), .int .i64 0]) ∧ Below w.heap.size w w' := by
  have C1 := Lib.hid (encode_any w a cap l (by omega) hrd ht)
  obtain ⟨n, hn⟩ : ∃ n, n = l.length := ⟨_, rfl⟩
  rw [← hn] at C1 hl ⊢
  clear hrd ht hn
  go_enter Tryd.func13, Tryd.ntmps13
  go_wp2_with (go_at_call 28; refine C1.out.mono ?_; rintro e w1 ⟨rfl, hb1⟩)
  go_ret2
  exact ⟨rfl, hb1⟩

theorem rd_new {w : World} {l : List Nat} {fz : Nat × Nat} (hl : ∀ x ∈ l, x < 256) : Rd (w.alloc (.cells (l.map U).toArray 5 fz)) (some ⟨w.heap.size, 0, none⟩) l := by
  refine ⟨hl, fun _ => ⟨w.heap.size, 0, rfl, by simp, fun i hi => ?_⟩⟩
  rw [Nat.zero_add, cell_of_row _ w.heap.size i (l.map U).toArray 5 fz (heap_alloc_new w _)]
  simp [List.getElem?_eq_getElem hi]

theorem known_dec : decF (bs ⟨#[90, 103, 61, 61]⟩) = ([102], 0, 0) := by decide +kernel
theorem known_enc : strN (encF [102, 111]) = ⟨#[90, 109, 56, 61]⟩ := by decide +kernel

set_option maxHeartbeats 400000 in
theorem known_any (w : World) (ht : Tab w) :
    Calls Tryd.prog 12 #[] w fun e w' => e = .returned (.bool true) ∧ Below w.heap.size w w' := by
  have hb0 : Below w.heap.size w (w.alloc (.cells #[.int .u8 102, .int .u8 111] 5 (2, 3))) := (Below.refl _ _).alloc (Nat.le_refl _) _
  have C1 := encodeE_any (w.alloc (.cells #[.int .u8 102, .int .u8 111] 5 (2, 3))) (some ⟨w.heap.size, 0, none⟩) 2 [102, 111] (by decide) (rd_new (l := [102, 111]) (by decide)) (ht.below hb0 ht.size)
  rw [known_enc] at C1
  have kc := fun (w : World) (C : Array Value) (n c : Nat) => Lib.run_convert_bytes_const (P := Tryd.prog) w 22 5 C n c Tryd.underlying22 Tryd.underlying5
  have HC := Lib.hid C1; have TB := Lib.hid ht; have HB0 := Lib.hid hb0
  clear C1 ht hb0
  go_enter Tryd.func12, Tryd.ntmps12
  go_wp2_with (first | (go_at_call 13; refine HC.out.mono ?_; rintro e w1 ⟨rfl, hb1⟩; have HB1 : Hid (Below w.heap.size w w1) := HB0.out.trans (hb1.mono (by simp)); have C2 := decode_short ⟨#[90, 103, 61, 61]⟩ w1 (by decide) (TB.out.below HB1.out TB.out.size); rw [known_dec] at C2; have HC2 := Lib.hid C2; clear C2 hb1))
  refine HC2.out.mono ?_
  rintro e w2 ⟨v, rfl, hown, hb2⟩
  have hcv := own_conv (P := Tryd.prog) 22 9 Tryd.underlying22 Tryd.underlying5 Tryd.underlying9 hown
  have e1 : strN (([102], 0, 0) : List Nat × Nat × Nat).1 = ⟨#[102]⟩ := by decide
  rw [e1] at hcv
  have HB2 : Hid (Below w.heap.size w w2) := HB1.out.trans (hb2.mono HB1.out.size)
  clear hown hb2 e1 kc
  simp only [Int.natCast_zero]
  go_wp2_with fail
  go_ret
  exact ⟨rfl, HB2.out⟩

end Go.Proofs.YtochlfmajkkddaaDoor
