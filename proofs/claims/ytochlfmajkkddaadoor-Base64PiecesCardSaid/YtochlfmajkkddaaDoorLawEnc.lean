/- Walk of the statement Base64Encode. -/
import Derived.Test.YtochlfmajkkddaaDoorRefE
import Derived.Test.YtochlfmajkkddaaDoorEncE
namespace Go.Proofs.YtochlfmajkkddaaDoor
open Go.RowKit Go.Maps
set_option linter.unusedVariables false

theorem Rd.below {w w' : World} {a : Option Addr} {l : List Nat} (h : Rd w a l) (hb : Below w.heap.size w w') : Rd w' a l := by
  refine ⟨h.lt, fun h0 => ?_⟩
  obtain ⟨b, off, rfl, hbw, hc⟩ := h.at_ h0
  exact ⟨b, off, rfl, Nat.lt_of_lt_of_le hbw hb.size, fun i hi => (hb.cell (by exact hbw)).trans (hc i hi)⟩

theorem law_encode_long (w : World) (a : Option Addr) (len cap : Nat) (n : Int) (hl : 600 < len) (hm : len ≤ maxLen) (ht : Tab w) :
    Calls Tryd.prog 3 #[.slice a len cap, .int .i64 n] w fun e w' => e = .returned (.bool true) ∧ Below w.heap.size w w' := by
  unfold maxLen at hm
  have K1 := Lib.hid (known_any w ht)
  have TB := Lib.hid ht
  clear ht
  go_enter Tryd.func3, Tryd.ntmps3
  go_wp2_with fail
  refine K1.out.mono ?_
  rintro e w1 ⟨rfl, hb1⟩
  have K2 := Lib.hid (known_any w1 (TB.out.below hb1 TB.out.size))
  have HB1 := Lib.hid hb1
  clear hb1
  go_wp2_with fail
  refine K2.out.mono ?_
  rintro e w2 ⟨rfl, hb2⟩
  have HB2 : Hid (Below w.heap.size w w2) := HB1.out.trans (hb2.mono HB1.out.size)
  clear hb2
  go_wp2_with fail
  go_ret
  exact ⟨rfl, HB2.out⟩

theorem law_encode_short (w : World) (a : Option Addr) (cap : Nat) (l : List Nat) (n : Int) (h0 : -9223372036854775808 ≤ n) (h1 : n ≤ 9223372036854775807) (hl : l.length ≤ 600) (hr : Rd w a l) (ht : Tab w) :
    Calls Tryd.prog 3 #[.slice a l.length cap, .int .i64 n] w fun e w' => e = .returned (.bool true) ∧ Below w.heap.size w w' := by
  have K1 := Lib.hid (known_any w ht)
  have TB := Lib.hid ht; have RD := Lib.hid hr
  have esz : sizeF (l.length : Int) = ((encF l).length : Nat) := by rw [encF_len l hr.lt, sizeF_in (by omega)]; omega
  have hss : (strN (encF l)).size = (encF l).length := strN_size _
  obtain ⟨m, hm⟩ : ∃ m, m = l.length := ⟨_, rfl⟩
  obtain ⟨k, hk⟩ : ∃ k, k = (encF l).length := ⟨_, rfl⟩
  rw [← hm, ← hk] at esz
  rw [← hk] at hss
  rw [← hm]
  have hm6 : m ≤ 600 := by omega
  have HM := Lib.hid hm; have ES := Lib.hid esz; have SS := Lib.hid hss
  clear ht hr hl hm hk esz
  go_enter Tryd.func3, Tryd.ntmps3
  go_wp2_with fail
  refine K1.out.mono ?_
  rintro e w1 ⟨rfl, hb1⟩
  have C1 := encodeE_any w1 a cap l (by rw [← HM.out]; omega) (RD.out.below hb1) (TB.out.below hb1 TB.out.size)
  rw [← HM.out] at C1
  have HC1 := Lib.hid C1; have HB1 := Lib.hid hb1
  clear hb1 C1
  go_wp2_with fail
  refine HC1.out.mono ?_
  rintro e w2 ⟨rfl, hb2⟩
  have hb2' : Below w.heap.size w w2 := HB1.out.trans (hb2.mono HB1.out.size)
  have C2 := rencode_any w2 a cap l (by rw [← HM.out]; omega) (RD.out.below hb2')
  rw [← HM.out] at C2
  have HC2 := Lib.hid C2; have HB2 := Lib.hid hb2'
  clear hb2 C2 hb2'
  go_wp2_with fail
  refine HC2.out.mono ?_
  rintro e w3 ⟨rfl, rfl⟩
  go_wp2_with (first | (go_at_call 15; refine (size_any _ _ (by omega) (by omega)).mono ?_; rintro e w' ⟨rfl, rfl⟩; first | rw [ES.out] | skip) | (go_at_call 16; refine (rsize_any _ _ (by omega) (by omega)).mono ?_; rintro e w' ⟨rfl, rfl⟩))
  go_ret
  exact ⟨rfl, HB2.out⟩

theorem law_encode (w : World) (a : Option Addr) (cap : Nat) (l : List Nat) (hm : l.length ≤ maxLen) (hr : Rd w a l) (n : Int) (hn : (Lit.int .i64 n).wf = true) (ht : Tab w) :
    Calls Tryd.prog 3 #[.slice a l.length cap, .int .i64 n] w fun e w' => e = .returned (.bool true) ∧ Below w.heap.size w w' := by
  by_cases hl : l.length ≤ 600
  · have hb : -9223372036854775808 ≤ n ∧ n ≤ 9223372036854775807 := by
      simpa [Lit.wf, IntKind.min, IntKind.max, IntKind.signed, IntKind.bits] using hn
    exact law_encode_short w a cap l n hb.1 hb.2 hl hr ht
  · exact law_encode_long w a l.length cap n (by omega) hm ht

end Go.Proofs.YtochlfmajkkddaaDoor
