/- Walk of the statement Base64Limits. -/
import Derived.Test.YtochlfmajkkddaaDoorEncw
import Derived.Test.YtochlfmajkkddaaDoorLawDec
namespace Go.Proofs.YtochlfmajkkddaaDoor
open Go.RowKit Go.Maps
set_option linter.unusedVariables false

theorem zeros_map (n : Nat) : (madeCells (Value.int .u8 0).cells (n * 1)).toList = (List.replicate n 0).map U := by
  rw [Nat.mul_one]
  show (madeCells #[Value.int .u8 0] n).toList = _
  rw [toList_madeCells_one, List.map_replicate]
  rfl
theorem zeros_lt (n : Nat) : ∀ x ∈ List.replicate n 0, x < 256 := by
  intro x hx
  rw [(List.mem_replicate.1 hx).2]
  decide

theorem zconv {w : World} {base : Nat} {v : Value} (h : w.ownsRow base 5 1 v 174765 (madeCells (Value.int .u8 0).cells (174765 * 1)).toList) :
    ∃ zs : ByteArray, zs.size = 174765 ∧ (convert 22 9 v).run Tryd.prog w = .ok (.string zs) w := by
  obtain ⟨Z, hZ⟩ : ∃ Z, Z = List.replicate 174765 0 := ⟨_, rfl⟩
  rw [zeros_map, ← hZ] at h
  exact ⟨strN Z, by rw [strN_size, hZ, List.length_replicate], own_conv (P := Tryd.prog) 22 9 Tryd.underlying22 Tryd.underlying5 Tryd.underlying9 h⟩

set_option maxHeartbeats 1000000 in
theorem law_limits (w : World) (more : Int) (hmo : (Lit.int .u8 more).wf = true) (ht : Tab w) :
    Calls Tryd.prog 9 #[.int .u8 more] w fun e w' => e = .returned (.bool true) ∧ Below w.heap.size w w' := by
  have hb : 0 ≤ more ∧ more ≤ 255 := by
    have := hmo
    simp [Lit.wf, IntKind.min, IntKind.max, IntKind.signed, IntKind.bits] at this
    omega
  obtain ⟨hb0, hb1⟩ := hb
  obtain ⟨i0, hi0, hz0, hz1, hz2⟩ := info_parts info5
  obtain ⟨r, hr⟩ : ∃ r : Nat, (r : Int) = more % 4 := ⟨(more % 4).toNat, by omega⟩
  have hr4 : r < 4 := by omega
  have er : more % 4 = (r : Int) := hr.symm
  have ert : more.tmod 4 = (r : Int) := by rw [Int.tmod_eq_emod_of_nonneg hb0]; exact er
  have hm := size_max
  have hby : i0.bytes * (131072 + r) ≤ 281474976710656 := by rw [hz2]; omega
  have hby2 : i0.bytes * 174765 ≤ 281474976710656 := by rw [hz2]; omega
  have K1 := Lib.hid (known_any w ht)
  have TB := Lib.hid ht; have HM := Lib.hid hm
  clear ht hmo hr hm
  go_enter Tryd.func9, Tryd.ntmps9
  go_wp2_with fail
  refine K1.out.mono ?_
  rintro e w1 ⟨rfl, hb1'⟩
  have HB1 := Lib.hid hb1'
  have hs1 := hb1'.size
  clear hb1'
  go_wp2_with (at_make; refine wpList_make_full _ rfl _ _ _ rfl w.heap.size 5 i0 _ 1 Tryd.underlying22 hi0 hz0 hz1 .i64 .i64 _ _ (131072 + r) rfl rfl (by omega) (by omega) hby (by unfold maxLen; omega) hs1 ?_; intro w2 hown hgrow; have OW := Lib.hid hown; have HB2 : Hid (Below w.heap.size w w2) := HB1.out.grown hgrow hs1 (fun k hk => by cases hk); clear hown hgrow)
  obtain ⟨sa, hsa⟩ : ∃ sa : Option Addr, sa = some ⟨w1.heap.size, 0, none⟩ := ⟨_, rfl⟩
  have OR : Hid (Rd w2 sa (List.replicate (131072 + r) 0)) := Lib.hid (by
    have h := OW.out
    rw [zeros_map] at h
    rw [hsa]
    exact rd_own h (zeros_lt _))
  have ND : sa ≠ none := by rw [hsa]; simp
  try rw [← hsa]
  have sz2 := HB2.out.size
  have T2 : Hid (Tab w2) := Lib.hid (TB.out.below HB2.out (by have := TB.out.size; omega))
  clear OW hsa
  have p0 : 0 < w.heap.size := by have := TB.out.size; omega
  rcases Nat.lt_or_ge r 1 with h0 | hrp
  · obtain ⟨L, hL⟩ : ∃ L, L = List.replicate (131072 + r) 0 := ⟨_, rfl⟩
    have hLl : L.length = 131072 + r := by rw [hL, List.length_replicate]
    rw [← hL] at OR
    have C1 := Lib.hid (encodeE_any w2 sa (131072 + r) L (by omega) OR.out T2.out)
    rw [hLl] at C1
    have LL := Lib.hid hLl
    clear hL hLl
    refine C1.out.mono ?_
    rintro e w3 ⟨rfl, hb3⟩
    have HB3 : Hid (Below w.heap.size w w3) := Lib.hid (HB2.out.trans (hb3.mono sz2))
    have LT : Hid (∀ x ∈ L, x < 256) := Lib.hid OR.out.lt
    have OR3 : Hid (Rd w3 sa L) := Lib.hid (OR.out.below hb3)
    clear hb3 C1 T2 OR
    have T3 : Hid (Tab w3) := Lib.hid (TB.out.below HB3.out p0)
    have sz3 := HB3.out.size
    go_wp2_with fail
    obtain ⟨w4, hw4⟩ : ∃ w4, w4 = w3.alloc (.cells #[.int .i64 0, .int .u8 0, .int .u8 0, .bool false] 43) := ⟨_, rfl⟩
    have hE : Hid (En w4 w3.heap.size 0 0 0 false) := Lib.hid (by rw [hw4]; exact heap_alloc_new w3 _)
    have HB4 : Hid (Below w.heap.size w w4) := Lib.hid (by rw [hw4]; exact HB3.out.alloc sz3 _)
    have OR4 : Hid (Rd w4 sa L) := Lib.hid (OR3.out.below (by rw [hw4]; exact (Below.refl _ _).alloc (Nat.le_refl _) _))
    rw [← hw4]
    clear hw4 OR3 T3 HB3
    obtain ⟨b, hb⟩ : ∃ b, b = w3.heap.size := ⟨_, rfl⟩
    rw [← hb] at hE sz3
    rw [← hb]
    clear hb
    have T4 : Hid (Tab w4) := Lib.hid (TB.out.below HB4.out p0)
    have C2 := Lib.hid (ewrite_any w4 b 0 0 0 sa (131072 + r) L hE.out (by omega) (by omega) OR4.out (fun h => absurd h ND) (by rw [LL.out]; omega) T4.out (by omega))
    unfold WrPost at C2
    rw [LL.out] at C2
    refine C2.out.mono ?_
    rintro e w5 ⟨rfl, ⟨q0, q1, hE5, hq0, hq1, _hx⟩, hk5, hb5⟩
    have HE5 := Lib.hid hE5
    have HB5 : Hid (Below w.heap.size w w5) := Lib.hid (HB4.out.trans (hb5.mono sz3))
    clear hE5 hk5 hb5 _hx C2 OR4 T4
    have T5 : Hid (Tab w5) := Lib.hid (TB.out.below HB5.out p0)
    obtain ⟨sw, hsw⟩ : ∃ sw, sw = strN (encF ((restOf 0 0 0 ++ L).take ((0 % 3 + (131072 + r)) / 3 * 3))) := ⟨_, rfl⟩
    rw [← hsw]
    clear hsw
    rw [Nat.zero_add] at HE5
    go_wp2_with fail
    refine (eclose_any w5 b (131072 + r) q0 q1 HE5.out hq0 hq1 (by omega) T5.out (by omega)).mono ?_
    rintro e w6 ⟨rfl, hE6, hk6, hb6⟩
    have HE6 := Lib.hid hE6
    have HB6 : Hid (Below w.heap.size w w6) := Lib.hid (HB5.out.trans (hb6.mono sz3))
    clear hE6 hk6 hb6
    obtain ⟨sc, hsc⟩ : ∃ sc, sc = strN (encF (restOf (131072 + r) q0 q1)) := ⟨_, rfl⟩
    rw [← hsc]
    clear hsc
    go_wp2_with fail
    refine (ewrite_nil w6 _).mono ?_
    rintro e w7 ⟨rfl, hw7⟩
    subst hw7
    go_wp2_with fail
    refine (eclose_nil w6).mono ?_
    rintro e w7 ⟨rfl, hw7⟩
    subst hw7
    go_wp2_with fail
    refine (elen_nil w6).mono ?_
    rintro e w7 ⟨rfl, hw7⟩
    subst hw7
    go_wp2_with fail
    have esz : ((strN (encF L)).size : Int) = sizeF (131072 + (r : Int)) := by
      have hl := LL.out
      rw [sizeF_in (by omega), strN_size, encF_len L LT.out, hl]
      omega
    have ESZ := Lib.hid esz
    clear esz
    obtain ⟨S, hS⟩ : ∃ S, S = strN (encF L) := ⟨_, rfl⟩
    rw [← hS] at ESZ ⊢
    clear hS
    refine (size_any w6 (131072 + (r : Int)) (by omega) (by omega)).mono ?_
    rintro e w7 ⟨rfl, hw7⟩
    subst hw7
    rw [← ESZ.out]
    go_wp2_with fail
    refine (elen_any w6 b (131072 + r) q0 q1 true HE6.out).mono ?_
    rintro e w7 ⟨rfl, hw7⟩
    subst hw7
    have ec : ((131072 + r : Nat) : Int) = 131072 + (r : Int) := by omega
    rw [ec]
    clear ec
    go_wp2_with fail
    go_ret
    exact ⟨by simp, HB6.out⟩
  · have C1 := Lib.hid (encodeE_long w2 sa (131072 + r) (131072 + r) (by omega) (by unfold maxLen; omega))
    refine C1.out.mono ?_
    rintro e w3 ⟨rfl, hw3⟩
    subst hw3
    clear C1
    go_wp2_with fail
    obtain ⟨w4, hw4⟩ : ∃ w4, w4 = w2.alloc (.cells #[.int .i64 0, .int .u8 0, .int .u8 0, .bool false] 43) := ⟨_, rfl⟩
    have hE : Hid (En w4 w2.heap.size 0 0 0 false) := Lib.hid (by rw [hw4]; exact heap_alloc_new w2 _)
    have HB4 : Hid (Below w.heap.size w w4) := Lib.hid (by rw [hw4]; exact HB2.out.alloc sz2 _)
    rw [← hw4]
    clear hw4
    obtain ⟨b, hb⟩ : ∃ b, b = w2.heap.size := ⟨_, rfl⟩
    rw [← hb] at hE sz2
    rw [← hb]
    clear hb
    have T4 : Hid (Tab w4) := Lib.hid (TB.out.below HB4.out p0)
    refine (ewrite_long w4 b 0 0 0 sa (131072 + r) (131072 + r) hE.out (by omega) (by omega) (by unfold maxLen; omega)).mono ?_
    rintro e w5 ⟨rfl, hw5⟩
    subst hw5
    go_wp2_with fail
    refine (eclose_any w4 b 0 0 0 hE.out (by omega) (by omega) (by omega) T4.out (by omega)).mono ?_
    rintro e w5 ⟨rfl, hE5, hk5, hb5⟩
    have HE5 := Lib.hid hE5
    have HB5 : Hid (Below w.heap.size w w5) := Lib.hid (HB4.out.trans (hb5.mono sz2))
    clear hE5 hk5 hb5
    go_wp2_with fail
    refine (ewrite_nil w5 _).mono ?_
    rintro e w6 ⟨rfl, hw6⟩
    subst hw6
    go_wp2_with fail
    refine (eclose_nil w5).mono ?_
    rintro e w6 ⟨rfl, hw6⟩
    subst hw6
    go_wp2_with fail
    refine (elen_nil w5).mono ?_
    rintro e w6 ⟨rfl, hw6⟩
    subst hw6
    have e0 : strN (encF (restOf 0 0 0)) = strN [] := rfl
    rw [e0]
    clear e0
    go_wp2_with fail
    have sz5 := HB5.out.size
    refine (size_any w5 131072 (by omega) (by omega)).mono ?_
    rintro e w6 ⟨rfl, hw6⟩
    subst hw6
    rw [HM.out]
    go_wp2_with (at_make; refine wpList_make_full _ rfl _ _ _ rfl w.heap.size 5 i0 _ 1 Tryd.underlying22 hi0 hz0 hz1 .i64 .i64 _ _ 174765 rfl rfl (by omega) (by omega) hby2 (by unfold maxLen; omega) sz5 ?_; intro w6 hown hgrow; have OW := Lib.hid hown; have HB6 : Hid (Below w5.heap.size w5 w6) := Lib.hid ((Below.refl _ _).grown hgrow (Nat.le_refl _) (fun k hk => by cases hk)); clear hown hgrow; obtain ⟨zs, hzs, hcv⟩ := zconv OW.out; have ZZ := Lib.hid hzs; clear hzs OW)
    clear hcv
    have hD : decF (bs zs) = ([], 0, 5) := by unfold decF; rw [if_pos (by rw [bs_length, ZZ.out]; omega)]
    have CD := Lib.hid (decode_long zs w6 (by rw [ZZ.out]; unfold maxLen; omega) (by rw [ZZ.out]; omega))
    rw [hD] at CD
    clear hD
    refine CD.out.mono ?_
    rintro e w7 ⟨v7, rfl, hown7, hb7⟩
    have hb57 : Below w5.heap.size w5 w7 := HB6.out.trans (hb7.mono HB6.out.size)
    have HB7 : Hid (Below w.heap.size w w7) := Lib.hid (HB5.out.trans (hb57.mono sz5))
    have HE7 : Hid (En w7 b 0 0 0 true) := Lib.hid (HE5.out.below hb57)
    obtain ⟨a7, cap7, rfl⟩ := own_shape hown7
    clear hown7 hb7 hb57 CD
    have e0 : strN [] = ⟨#[]⟩ := rfl
    simp only [Int.natCast_zero]
    rw [e0]
    clear e0
    go_wp2_with fail
    refine (elen_any w7 b 0 0 0 true HE7.out).mono ?_
    rintro e w8 ⟨rfl, hw8⟩
    subst hw8
    simp only [Int.natCast_zero]
    go_wp2_with fail
    go_ret
    exact ⟨by simp, HB7.out⟩

end Go.Proofs.YtochlfmajkkddaaDoor
