/- Walk of the statement Base64Decode. -/
import Derived.Test.YtochlfmajkkddaaDoorRefD
import Derived.Test.YtochlfmajkkddaaDoorLawRt
namespace Go.Proofs.YtochlfmajkkddaaDoor
open Go.RowKit Go.Maps
set_option linter.unusedVariables false

theorem law_decode_long (s : ByteArray) (w : World) (hl : 600 < s.size) (hm : s.size ≤ maxLen) (ht : Tab w) :
    Calls Tryd.prog 6 #[.string s] w fun e w' => e = .returned (.bool true) ∧ Below w.heap.size w w' := by
  unfold maxLen at hm
  have K1 := Lib.hid (known_any w ht)
  have TB := Lib.hid ht
  clear ht
  go_enter Tryd.func6, Tryd.ntmps6
  go_wp2_with fail
  refine K1.out.mono ?_
  rintro e w1 ⟨rfl, hb1⟩
  have K2 := Lib.hid (known_any w1 (TB.out.below hb1 TB.out.size))
  have HB1 := Lib.hid hb1
  clear hb1
  go_wp2_with fail
  refine K2.out.mono ?_
  rintro e w2 ⟨rfl, hb2⟩
  have HB2 : Hid (Below w.heap.size w w2) := HB1.out.trans (hb2.mono HB1.out.size)
  clear hb2
  go_wp2_with fail
  go_ret
  exact ⟨rfl, HB2.out⟩

theorem own_below {w w' : World} {base : Nat} {v : Value} {n : Nat} {xs : List Value} (h : w.ownsRow base 5 1 v n xs) (hb : Below w.heap.size w w') : w'.ownsRow base 5 1 v n xs := by
  refine ⟨h.1, ?_⟩
  rcases h.2 with h | ⟨g, cap, cur, hv, hg, hh, r⟩
  · exact .inl h
  · exact .inr ⟨g, cap, cur, hv, hg, (hb.block _ (lt_of_block hh)).trans hh, r⟩

theorem law_decode (w : World) (s : ByteArray) (hm : s.size ≤ maxLen) (ht : Tab w) :
    Calls Tryd.prog 6 #[.string s] w fun e w' => e = .returned (.bool true) ∧ Below w.heap.size w w' := by
  by_cases hl : 600 < s.size
  · exact law_decode_long s w hl hm ht
  have hl6 : s.size ≤ 600 := by omega
  have K1 := Lib.hid (known_any w ht)
  have TB := Lib.hid ht
  obtain ⟨xs, at_, er, hdec⟩ : ∃ xs at_ er, decF (bs s) = (xs, at_, er) := ⟨_, _, _, rfl⟩
  have D1 : Hid (∀ w1, Tab w1 → Calls Tryd.prog 17 #[.string s] w1 (DecPost w1 (xs, at_, er))) := fun w1 h1 => by rw [← hdec]; exact decode_short s w1 (by omega) h1
  have R1 : Hid (∀ w1, Calls Tryd.prog 18 #[.string s] w1 (DecPost w1 (xs, at_, er))) := fun w1 => by rw [← hdec]; exact rdecode_short s w1 (by omega)
  have V1 : Hid (∀ w1, Tab w1 → Calls Tryd.prog 19 #[.string s] w1 (validPost w1 er)) := fun w1 h1 => by
    have := valid_any s w1 (by omega) h1
    rw [hdec] at this
    exact this
  clear ht hm hdec
  go_enter Tryd.func6, Tryd.ntmps6
  go_wp2_with fail
  refine K1.out.mono ?_
  rintro e w1 ⟨rfl, hb1⟩
  have C1 := Lib.hid (D1.out w1 (TB.out.below hb1 TB.out.size))
  have HB1 := Lib.hid hb1
  clear hb1
  go_wp2_with fail
  refine C1.out.mono ?_
  rintro e w2 ⟨v, rfl, hown, hb2⟩
  have hb2' : Below w.heap.size w w2 := HB1.out.trans (hb2.mono HB1.out.size)
  have C2 := Lib.hid (R1.out w2)
  have HB2 := Lib.hid hb2'; have OW := Lib.hid hown
  obtain ⟨a', cap', rfl⟩ := own_shape hown
  clear hb2 hb2' hown
  simp only
  go_wp2_with fail
  refine C2.out.mono ?_
  rintro e w3 ⟨v3, rfl, hown3, hb3⟩
  have hb3' : Below w.heap.size w w3 := HB2.out.trans (hb3.mono HB2.out.size)
  have hcv := own_conv (P := Tryd.prog) 22 9 Tryd.underlying22 Tryd.underlying5 Tryd.underlying9 hown3
  have hcw := own_conv (P := Tryd.prog) 22 9 Tryd.underlying22 Tryd.underlying5 Tryd.underlying9 (own_below OW.out hb3)
  obtain ⟨a3, cap3, rfl⟩ := own_shape hown3
  have C3 := Lib.hid (V1.out w3 (TB.out.below hb3' TB.out.size))
  have HB3 := Lib.hid hb3'
  clear hb3 hb3' hown3
  simp only at hcv hcw ⊢
  by_cases he : er = 0
  · have he' : ((er : Int) == 0) = true := int_eq (by omega)
    have hed : decide (er = 0) = true := by simpa using he
    have HE := Lib.hid hed
    clear he hed
    go_wp2_with fail
    refine C3.out.mono ?_
    rintro e w4 ⟨rfl, hb4⟩
    have HB4 : Hid (Below w.heap.size w w4) := HB3.out.trans (hb4.mono HB3.out.size)
    clear hb4 hcv hcw
    rw [HE.out]
    go_wp2_with fail
    go_ret
    exact ⟨by simp, HB4.out⟩
  · have he' : ((er : Int) == 0) = false := int_ne (by omega)
    have hed : decide (er = 0) = false := by simpa using he
    have HE := Lib.hid hed
    clear he hed
    go_wp2_with fail
    refine C3.out.mono ?_
    rintro e w4 ⟨rfl, hb4⟩
    have HB4 : Hid (Below w.heap.size w w4) := HB3.out.trans (hb4.mono HB3.out.size)
    clear hb4 hcv hcw
    rw [HE.out]
    go_wp2_with fail
    go_ret
    exact ⟨by simp, HB4.out⟩

end Go.Proofs.YtochlfmajkkddaaDoor
