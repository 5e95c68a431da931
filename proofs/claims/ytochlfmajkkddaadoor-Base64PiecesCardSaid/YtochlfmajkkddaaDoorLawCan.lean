/- Walk of the statement Base64Canonical. -/
import Derived.Test.YtochlfmajkkddaaDoorPureL
import Derived.Test.YtochlfmajkkddaaDoorEncE
import Derived.Test.YtochlfmajkkddaaDoorLawEnc
namespace Go.Proofs.YtochlfmajkkddaaDoor
open Go.RowKit Go.Maps
set_option linter.unusedVariables false

theorem rd_own {w : World} {base n cap : Nat} {a : Option Addr} {xs : List Nat} (h : w.ownsRow base 5 1 (.slice a n cap) n (xs.map U)) (hx : ∀ x ∈ xs, x < 256) : Rd w a xs := by
  have hl : xs.length = n := by simpa using h.1
  refine ⟨hx, fun h0 => ?_⟩
  rcases h.2 with ⟨_, hn⟩ | ⟨g, cap', cur, hv, _, hg, _⟩
  · omega
  · simp only [Value.slice.injEq] at hv
    obtain ⟨rfl, _, rfl⟩ := hv
    refine ⟨g, 0, rfl, lt_of_block hg, fun i hi => ?_⟩
    rw [Nat.zero_add, h.cellAt i (by omega), List.getElem?_map, List.getElem?_eq_getElem hi]
    rfl

theorem law_canonical_long (s : ByteArray) (w : World) (hl : 4000 < s.size) (hm : s.size ≤ maxLen) (ht : Tab w) :
    Calls Tryd.prog 4 #[.string s] w fun e w' => e = .returned (.bool true) ∧ Below w.heap.size w w' := by
  unfold maxLen at hm
  have K1 := Lib.hid (known_any w ht)
  have TB := Lib.hid ht
  clear ht
  go_enter Tryd.func4, Tryd.ntmps4
  go_wp2_with fail
  refine K1.out.mono ?_
  rintro e w1 ⟨rfl, hb1⟩
  have K2 := Lib.hid (known_any w1 (TB.out.below hb1 TB.out.size))
  have HB1 := Lib.hid hb1
  clear hb1
  go_wp2_with fail
  refine K2.out.mono ?_
  rintro e w2 ⟨rfl, hb2⟩
  have HB2 : Hid (Below w.heap.size w w2) := HB1.out.trans (hb2.mono HB1.out.size)
  clear hb2
  go_wp2_with fail
  go_ret
  exact ⟨rfl, HB2.out⟩

theorem law_canonical (w : World) (s : ByteArray) (hm : s.size ≤ maxLen) (ht : Tab w) :
    Calls Tryd.prog 4 #[.string s] w fun e w' => e = .returned (.bool true) ∧ Below w.heap.size w w' := by
  by_cases hl : 4000 < s.size
  · exact law_canonical_long s w hl hm ht
  have hl4 : s.size ≤ 4000 := by omega
  have K1 := Lib.hid (known_any w ht)
  have TB := Lib.hid ht
  obtain ⟨xs, at_, er, hdec⟩ : ∃ xs at_ er, decF (bs s) = (xs, at_, er) := ⟨_, _, _, rfl⟩
  have hnil := dec_err_nil (bs s)
  have henc := enc_dec (bs s)
  have hxl : xs.length ≤ 131072 := by
    have h1 : (decF (bs s)).2.2 = 0 → (encF (decF (bs s)).1).length = (bs s).length := fun h => by rw [(henc h).1]
    by_cases h0 : er = 0
    · have h2 := h1 (by rw [hdec]; exact h0)
      have h3 := encF_len (decF (bs s)).1 (henc (by rw [hdec]; exact h0)).2
      rw [bs_length] at h2
      rw [hdec] at h2 h3
      simp only at h2 h3
      omega
    · have := hnil (by rw [hdec]; exact h0)
      rw [hdec] at this
      simp only at this
      rw [this]; simp
  rw [hdec] at hnil henc
  simp only at hnil henc
  have D1 : Hid (∀ w1, Tab w1 → Calls Tryd.prog 17 #[.string s] w1 (DecPost w1 (xs, at_, er))) := fun w1 h1 => by rw [← hdec]; exact decode_short s w1 (by omega) h1
  have HN := Lib.hid hnil; have HE := Lib.hid henc
  clear ht hm hdec hnil henc
  go_enter Tryd.func4, Tryd.ntmps4
  go_wp2_with fail
  refine K1.out.mono ?_
  rintro e w1 ⟨rfl, hb1⟩
  have C1 := Lib.hid (D1.out w1 (TB.out.below hb1 TB.out.size))
  have HB1 := Lib.hid hb1
  clear hb1
  go_wp2_with fail
  refine C1.out.mono ?_
  rintro e w2 ⟨v, rfl, hown, hb2⟩
  obtain ⟨a', cap', rfl⟩ := own_shape hown
  have hb2' : Below w.heap.size w w2 := HB1.out.trans (hb2.mono HB1.out.size)
  have HB2 := Lib.hid hb2'; have OW := Lib.hid hown
  clear hb2 hb2' hown
  simp only
  by_cases he : er = 0
  · subst he
    have hx := HE.out rfl
    have C2 := encodeE_any w2 a' cap' xs hxl (rd_own OW.out hx.2) (TB.out.below HB2.out TB.out.size)
    rw [hx.1, strN_bs] at C2
    have HC2 := Lib.hid C2
    clear C2 hx
    simp only [Int.natCast_zero]
    go_wp2_with fail
    refine HC2.out.mono ?_
    rintro e w3 ⟨rfl, hb3⟩
    have HB3 : Hid (Below w.heap.size w w3) := HB2.out.trans (hb3.mono HB2.out.size)
    clear hb3
    go_wp2_with fail
    go_ret
    exact ⟨rfl, HB3.out⟩
  · have he' : ((er : Int) != 0) = true := int_neq (by omega)
    have hx0 : xs = [] := HN.out he
    subst hx0
    clear he
    go_wp2_with fail
    go_ret
    exact ⟨rfl, HB2.out⟩

end Go.Proofs.YtochlfmajkkddaaDoor
