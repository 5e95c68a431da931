/- Walk of the statement Base64Unwrap. -/
import Derived.Test.YtochlfmajkkddaaDoorRefU
namespace Go.Proofs.YtochlfmajkkddaaDoor
open Go.RowKit Go.Maps
set_option linter.unusedVariables false

theorem law_unwrap_long (s : ByteArray) (w : World) (hl : 600 < s.size) (hm : s.size ≤ maxLen) (ht : Tab w) :
    Calls Tryd.prog 8 #[.string s] w fun e w' => e = .returned (.bool true) ∧ Below w.heap.size w w' := by
  unfold maxLen at hm
  have K1 := Lib.hid (known_any w ht)
  have TB := Lib.hid ht
  clear ht
  go_enter Tryd.func8, Tryd.ntmps8
  go_wp2_with fail
  refine K1.out.mono ?_
  rintro e w1 ⟨rfl, hb1⟩
  have K2 := Lib.hid (known_any w1 (TB.out.below hb1 TB.out.size))
  have HB1 := Lib.hid hb1
  clear hb1
  go_wp2_with fail
  refine K2.out.mono ?_
  rintro e w2 ⟨rfl, hb2⟩
  have HB2 : Hid (Below w.heap.size w w2) := HB1.out.trans (hb2.mono HB1.out.size)
  clear hb2
  go_wp2_with fail
  go_ret
  exact ⟨rfl, HB2.out⟩

theorem law_unwrap (w : World) (s : ByteArray) (hm : s.size ≤ maxLen) (ht : Tab w) :
    Calls Tryd.prog 8 #[.string s] w fun e w' => e = .returned (.bool true) ∧ Below w.heap.size w w' := by
  by_cases hl : 600 < s.size
  · exact law_unwrap_long s w hl hm ht
  have hl6 : s.size ≤ 600 := by omega
  have K1 := Lib.hid (known_any w ht)
  have TB := Lib.hid ht
  obtain ⟨xs, at_, er, hu⟩ : ∃ xs at_ er, unwF (bs s) = (xs, at_, er) := ⟨_, _, _, rfl⟩
  have U1 : Hid (∀ w1, Calls Tryd.prog 20 #[.string s] w1 (UnwPost w1 (xs, at_, er))) := fun w1 => by rw [← hu]; exact unwrap_any w1 s (by omega)
  have R1 : Hid (∀ w1, Calls Tryd.prog 21 #[.string s] w1 (UnwPost w1 (xs, at_, er))) := fun w1 => by rw [← hu]; exact runwrap_any w1 s (by omega)
  clear ht hm hu
  go_enter Tryd.func8, Tryd.ntmps8
  go_wp2_with fail
  refine K1.out.mono ?_
  rintro e w1 ⟨rfl, hb1⟩
  have HB1 := Lib.hid hb1
  clear hb1
  go_wp2_with fail
  refine (U1.out _).mono ?_
  rintro e w2 ⟨rfl, hb2⟩
  have HB2 : Hid (Below w.heap.size w w2) := HB1.out.trans (hb2.mono HB1.out.size)
  clear hb2
  simp only
  go_wp2_with fail
  refine (R1.out _).mono ?_
  rintro e w3 ⟨rfl, hb3⟩
  have HB3 : Hid (Below w.heap.size w w3) := HB2.out.trans (hb3.mono HB2.out.size)
  clear hb3
  simp only
  go_wp2_with fail
  go_ret
  exact ⟨by simp, HB3.out⟩

end Go.Proofs.YtochlfmajkkddaaDoor
