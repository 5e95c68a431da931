/- Walk of base64.Valid and of the statement Base64RoundTrip. -/
import Derived.Test.YtochlfmajkkddaaDoorLawCan
namespace Go.Proofs.YtochlfmajkkddaaDoor
open Go.RowKit Go.Maps
set_option linter.unusedVariables false

/-- 'string(b)' of a slice that came in. -/
theorem rd_conv {P : Program} {w : World} {a : Option Addr} {l : List Nat} (cap : Nat) (src e dst : TypeId) (hs : P.underlying src = some (.slice e)) (he : P.underlying e = some (.int .u8)) (hd : P.underlying dst = some .string) (h : Rd w a l) :
    (convert src dst (.slice a l.length cap)).run P w = .ok (.string (strN l)) w := by
  by_cases h0 : 0 < l.length
  · obtain ⟨b, off, rfl, _, hc⟩ := h.at_ h0
    exact conv_cells w src e dst hs he hd b off cap l hc
  · obtain rfl : l = [] := List.eq_nil_of_length_eq_zero (by omega)
    cases a with
    | none => exact run_convert_bytes_nil w src e hs he 0 cap dst hd
    | some x =>
      rw [run_convert_bytes_string w src dst e _ _ cap hs he hd, run_bytesToString w x _ cap [] (by simp [loadCells, loadCellsFrom])]
      rfl

def validPost (w : World) (er : Nat) (e : Ending) (w' : World) : Prop := e = .returned (.bool (decide (er = 0))) ∧ Below w.heap.size w w'
theorem valid_any (s : ByteArray) (w : World) (hl : s.size ≤ 174764) (ht : Tab w) :
    Calls Tryd.prog 19 #[.string s] w (validPost w (decF (bs s)).2.2) := by
  have C1 := Lib.hid (decode_short s w hl ht)
  clear ht hl
  obtain ⟨xs, at_, er, hdec⟩ : ∃ xs at_ er, decF (bs s) = (xs, at_, er) := ⟨_, _, _, rfl⟩
  rw [hdec] at C1 ⊢
  clear hdec
  by_cases he : er = 0
  · subst he
    go_enter Tryd.func19, Tryd.ntmps19
    go_wp2_with fail
    refine C1.out.mono ?_
    rintro e w2 ⟨v, rfl, hown, hb2⟩
    obtain ⟨a', cap', rfl⟩ := own_shape hown
    clear hown
    simp only [Int.natCast_zero]
    go_wp2_with fail
    go_ret
    exact ⟨rfl, hb2⟩
  · have he' : ((er : Int) == 0) = false := int_ne (by omega)
    go_enter Tryd.func19, Tryd.ntmps19
    go_wp2_with fail
    refine C1.out.mono ?_
    rintro e w2 ⟨v, rfl, hown, hb2⟩
    obtain ⟨a', cap', rfl⟩ := own_shape hown
    clear hown
    simp only
    go_wp2_with fail
    go_ret
    exact ⟨by simp [he], hb2⟩

theorem law_roundtrip_long (w : World) (a : Option Addr) (len cap : Nat) (hl : 4000 < len) (hm : len ≤ maxLen) (ht : Tab w) :
    Calls Tryd.prog 7 #[.slice a len cap] w fun e w' => e = .returned (.bool true) ∧ Below w.heap.size w w' := by
  unfold maxLen at hm
  have K1 := Lib.hid (known_any w ht)
  have TB := Lib.hid ht
  clear ht
  go_enter Tryd.func7, Tryd.ntmps7
  go_wp2_with fail
  refine K1.out.mono ?_
  rintro e w1 ⟨rfl, hb1⟩
  have K2 := Lib.hid (known_any w1 (TB.out.below hb1 TB.out.size))
  have HB1 := Lib.hid hb1
  clear hb1
  go_wp2_with fail
  refine K2.out.mono ?_
  rintro e w2 ⟨rfl, hb2⟩
  have HB2 : Hid (Below w.heap.size w w2) := HB1.out.trans (hb2.mono HB1.out.size)
  clear hb2
  go_wp2_with fail
  go_ret
  exact ⟨rfl, HB2.out⟩

theorem law_roundtrip (w : World) (a : Option Addr) (cap : Nat) (l : List Nat) (hm : l.length ≤ maxLen) (hr : Rd w a l) (ht : Tab w) :
    Calls Tryd.prog 7 #[.slice a l.length cap] w fun e w' => e = .returned (.bool true) ∧ Below w.heap.size w w' := by
  by_cases hl : 4000 < l.length
  · exact law_roundtrip_long w a l.length cap hl hm ht
  have hl4 : l.length ≤ 4000 := by omega
  have K1 := Lib.hid (known_any w ht)
  have TB := Lib.hid ht; have RD := Lib.hid hr
  have hlen := encF_len l hr.lt
  have hs4 : (strN (encF l)).size = (encF l).length := strN_size _
  obtain ⟨S, hS⟩ : ∃ S, S = strN (encF l) := ⟨_, rfl⟩
  obtain ⟨m, hmm⟩ : ∃ m, m = l.length := ⟨_, rfl⟩
  have hSs : S.size = (m + 2) / 3 * 4 := by rw [hS, hs4, hlen, hmm]
  have hdec : decF (bs S) = (l, 0, 0) := by rw [hS, bs_strN _ (encF_lt l)]; exact dec_enc l hr.lt (by omega)
  have D1 : Hid (∀ w1, Tab w1 → Calls Tryd.prog 17 #[.string S] w1 (DecPost w1 (l, 0, 0))) := fun w1 h1 => by rw [← hdec]; exact decode_short S w1 (by rw [hSs]; omega) h1
  have V1 : Hid (∀ w1, Tab w1 → Calls Tryd.prog 19 #[.string S] w1 (validPost w1 0)) := fun w1 h1 => by
    have := valid_any S w1 (by rw [hSs]; omega) h1
    rw [hdec] at this
    exact this
  have E1 : Hid (∀ w1, Tab w1 → Rd w1 a l → Calls Tryd.prog 13 #[.slice a m cap] w1 fun e w' => e = .returned (.tuple #[.string S, .int .i64 0]) ∧ Below w1.heap.size w1 w') := fun w1 h1 h2 => by rw [hS, hmm]; exact encodeE_any w1 a cap l (by omega) h2 h1
  have CV : Hid (∀ w1, Rd w1 a l → (convert 22 9 (.slice a m cap)).run Tryd.prog w1 = .ok (.string (strN l)) w1) := fun w1 h1 => by rw [hmm]; exact rd_conv cap _ _ _ Tryd.underlying22 Tryd.underlying5 Tryd.underlying9 h1
  have hm4 : m ≤ 4000 := by omega
  rw [← hmm]
  have hmod : ((S.size : Int) % 4 == 0) = true := int_eq (by rw [hSs]; omega)
  have hSb : S.size ≤ 10000 := by omega
  have HMM := Lib.hid hmm
  clear ht hr hm hlen hs4 hS hdec hl hl4 hSs hmm
  go_enter Tryd.func7, Tryd.ntmps7
  go_wp2_with fail
  refine K1.out.mono ?_
  rintro e w1 ⟨rfl, hb1⟩
  have C1 := Lib.hid (E1.out w1 (TB.out.below hb1 TB.out.size) (RD.out.below hb1))
  have HB1 := Lib.hid hb1
  clear hb1
  go_wp2_with fail
  refine C1.out.mono ?_
  rintro e w2 ⟨rfl, hb2⟩
  have hb2' : Below w.heap.size w w2 := HB1.out.trans (hb2.mono HB1.out.size)
  have C2 := Lib.hid (D1.out w2 (TB.out.below hb2' TB.out.size))
  have HB2 := Lib.hid hb2'
  clear hb2 hb2'
  go_wp2_with fail
  refine C2.out.mono ?_
  rintro e w3 ⟨v, rfl, hown, hb3⟩
  have hb3' : Below w.heap.size w w3 := HB2.out.trans (hb3.mono HB2.out.size)
  have hcv := own_conv (P := Tryd.prog) 22 9 Tryd.underlying22 Tryd.underlying5 Tryd.underlying9 hown
  have hcw := CV.out w3 (RD.out.below hb3')
  obtain ⟨a', cap', rfl⟩ := own_shape hown
  have C3 := Lib.hid (V1.out w3 (TB.out.below hb3' TB.out.size))
  have HB3 := Lib.hid hb3'
  clear hb3 hb3' hown
  simp only [Int.natCast_zero] at hcv ⊢
  rw [← HMM.out] at hcv ⊢
  go_wp2_with fail
  refine C3.out.mono ?_
  rintro e w4 ⟨rfl, hb4⟩
  have HB4 : Hid (Below w.heap.size w w4) := HB3.out.trans (hb4.mono HB3.out.size)
  clear hb4 hcv hcw
  go_wp2_with fail
  go_ret
  exact ⟨by simp, HB4.out⟩

end Go.Proofs.YtochlfmajkkddaaDoor
