/- Walk of base64.Decode. -/
import Derived.Test.YtbgggeobpiaamaaDoorDec
namespace Go.Proofs.YtbgggeobpiaamaaDoor
open Go.RowKit Go.Maps
set_option linter.unusedVariables false
set_option maxRecDepth 100000

theorem pass_dec (w0 : World) (B : Nat) (hs : B ≤ w0.heap.size) : PassOK w0 B 73 (2 ^ 8) id := by
  intro w v xs g hb hT hown hn hg
  exact dec1 w (B + 1) g B v xs hT hown (Nat.le_trans hs hb.size) (by omega) hn (by omega)

/-- What a call of Decode leaves. -/
def DecPost (w : World) (r : List Nat × Nat × Nat) (e : Ending) (w' : World) : Prop :=
  ∃ v, e = .returned (.tuple #[v, .int .i64 (r.2.1 : Int), .int .i64 (r.2.2 : Int)]) ∧ w'.ownsRow w.heap.size 5 1 v r.1.length (r.1.map U) ∧ Below w.heap.size w w'

theorem size_max : sizeF 131072 = 174764 := by decide

theorem decode_long (s : ByteArray) (w : World) (hs : s.size ≤ maxLen) (hl : 174764 < s.size) :
    Calls Tryd.prog 46 #[.string s] w (DecPost w (decF (bs s))) := by
  unfold maxLen at hs
  have hf : decF (bs s) = ([], 0, 5) := by unfold decF; rw [if_pos (by rw [bs_length]; exact hl)]
  rw [hf]
  have hm := size_max
  clear hf
  go_enter Tryd.func46, Tryd.ntmps46
  go_wp2_with (go_at_call 70; refine (size_any _ _ (by omega) (by omega)).mono ?_; rintro e w' ⟨rfl, rfl⟩; rw [hm])
  go_ret3
  exact ⟨_, rfl, World.ownsRow_nil _ _ _ _, Below.refl _ _⟩

set_option maxHeartbeats 1000000 in
theorem decode_short (s : ByteArray) (w : World) (hl : s.size ≤ 174764) (ht : Tab w) :
    Calls Tryd.prog 46 #[.string s] w (DecPost w (decF (bs s))) := by
  obtain ⟨i0, hi0, hz0, hz1, hz2⟩ := info_parts info5
  have hm := size_max
  obtain ⟨n, hn⟩ : ∃ n, n = dataF (bs s) := ⟨_, rfl⟩
  have hns : n ≤ s.size := by rw [hn, ← bs_length]; exact dataF_le _
  have D1 : Hid (∀ w, Calls Tryd.prog 71 #[.string s] w fun e w' => e = .returned (.int .i64 (n : Int)) ∧ w = w') := fun w => by rw [hn]; exact data_any s w (by unfold maxLen; omega)
  have hb2 : i0.bytes * (n * 6 / 8) ≤ 281474976710656 := by rw [hz2]; omega
  have R0 := fun (cs : Array Value) (h : cs.size = (n * 6 / 8) * 1) => rg_start w cs (n * 6 / 8) 6 8 73 (by unfold maxLen; omega) h
  have P0 := Lib.hid (pass_dec w w.heap.size (Nat.le_refl _))
  have TB := Lib.hid ht; have HN := Lib.hid hn; have RR := Lib.hid R0; have HM := Lib.hid hm
  clear ht hn R0 hm
  go_enter Tryd.func46, Tryd.ntmps46
  go_wp2_with (first | (go_at_call 70; refine (size_any _ _ (by omega) (by omega)).mono ?_; rintro e w' ⟨rfl, rfl⟩; rw [HM.out]) | (go_at_call 71; refine (D1.out _).mono ?_; rintro e w' ⟨rfl, rfl⟩) | (at_make; refine wpList_make_lit _ rfl _ _ _ rfl 5 i0 _ 1 Tryd.underlying43 hi0 hz0 hz1 .i64 .i64 _ _ 0 (n * 6 / 8) rfl rfl rfl (by omega) (by omega) hb2 (by unfold maxLen; omega) ?_; intro cs hcs; have CS := Lib.hid hcs; clear hcs) | (go_at_call 72; refine (regroup_any _ 6 8 _ _ w.heap.size (by simp)).mono ?_; rintro e w1 ⟨rfl, rfl⟩))
  have r7 := RR.out cs CS.out
  have b7 := below_start w (.cells cs 5) (.cells #[.slice (some ⟨w.heap.size, 0, none⟩) 0 (n * 6 / 8)] 43) (.cells #[.int .i64 ((6 : Nat) : Int)] 3) (.cells #[.int .i64 ((8 : Nat) : Int)] 3) (.cells #[.func (.func 73) #[] #[.pointer (some ⟨w.heap.size + 1, 0, none⟩)]] 87) (.cells #[.int .i64 0] 3) (.cells #[.int .i64 0] 3)
  refine (values_any _ (TB.out.below b7 TB.out.size)).mono ?_
  generalize ((((((((w.alloc (.cells cs 5)).alloc (.cells #[.slice (some ⟨w.heap.size, 0, none⟩) 0 (n * 6 / 8)] 43)).alloc (.cells #[.int .i64 ((6 : Nat) : Int)] 3)).alloc (.cells #[.int .i64 ((8 : Nat) : Int)] 3)).alloc (.cells #[.func (.func 73) #[] #[.pointer (some ⟨w.heap.size + 1, 0, none⟩)]] 87)).alloc (.cells #[.int .i64 0] 3)).alloc (.cells #[.int .i64 0] 3))) = W7 at *
  obtain ⟨M, hM⟩ : ∃ M, M = W7.heap.size := ⟨_, rfl⟩
  rw [← hM]
  rintro e w1 ⟨rfl, hmap, hb1⟩
  have r8 := r7.below (by rw [← hM]; exact hb1)
  have b8 : Below w.heap.size w w1 := b7.trans (hb1.mono (by rw [hM]; exact b7.size))
  have R8 := Lib.hid r8; have B8 := Lib.hid b8; have M8 := Lib.hid hmap
  clear r7 b7 hM hmap hb1 r8 b8
  go_wp2_with fail
  go_loopg [32] n (fun k i wr => ∃ j b c xs vs, j ≤ n ∧ k = n - j ∧ i = .int .i64 (j : Int) ∧ vals ((bs s).take j) = some vs ∧ decSt vs = (b, c, xs) ∧ RG w.heap.size 6 8 73 b c xs wr ∧ Below w.heap.size w wr ∧ wr.ownsMap Tryd.prog 5 (plainElem (H := Unit) Tryd.prog 3) M 64 (vMap 64))
  case atStart => exact ⟨0, 0, 0, [], [], by omega, by omega, rfl, vals_nil, rfl, R8.out, B8.out, M8.out⟩
  case round =>
    obtain ⟨j, b, c, xs, vs, hj, rfl, rfl, hvs, hst, hrg, hbl, hmap⟩ := hrel
    have hvl := vals_lt hvs
    have hinv := decSt_inv vs hvl.1
    rw [hst] at hinv
    obtain ⟨v1, v2⟩ := hvl
    obtain ⟨i1, i2, i3⟩ := hinv
    simp only [List.length_take] at v2
    simp only at i1 i2 i3
    have hxl : xs.length ≤ 900000 := by omega
    clear R8 B8 M8 W7
    by_cases hlt : j < n
    · have hjl : j < (bs s).length := by rw [bs_length]; omega
      obtain ⟨g, hg'⟩ : ∃ g, g = (bs s)[j] := ⟨_, rfl⟩
      have hg : g < 256 := by rw [hg']; exact bs_lt s _ (List.getElem_mem hjl)
      have hx : ∀ w, (Instr.index 9 (.string s) (.int .i64 (j : Int))).run Tryd.prog w = .ok (.int .u8 (g : Int)) w := fun w => by
        rw [idx_str 9 Tryd.underlying9 s .i64 (j : Int) j rfl (by omega), hg', List.getD_eq_getElem?_getD, List.getElem?_eq_getElem hjl, Option.getD_some]
      have hkey : keyOf Tryd.prog 5 (.int .u8 (g : Int)) = some (.int .u8 (g : Int)) := keyOf_int_mk Tryd.underlying5 (WalkArith.wf_u8 (by omega))
      have hhas := vMap_has g hg
      have hat0 := vMap_at g hg
      have VS := Lib.hid hvs; have ST := Lib.hid hst; have RGH := Lib.hid hrg; have BL := Lib.hid hbl; have MP := Lib.hid hmap; have HG := Lib.hid hg'; have I2 := Lib.hid i2; have AT := Lib.hid hat0; have V1 := Lib.hid v1
      clear hvs hst hrg hbl hmap hg' i2 hat0 v1
      cases hv : vOf g with
      | none =>
        rw [hv] at hhas
        simp only [Option.isSome_none] at hhas
        have HV := Lib.hid hv
        clear hv
        go_wp2_with (at_lookup; refine wpList_lookup_own_ok_int _ rfl _ _ 97 rfl 5 3 .i64 law5 Tryd.underlying97 Tryd.underlying3 (zero3 _) M 64 _ rfl MP.out _ _ rfl hkey ?_; intro c' hat hwc)
        go_ret3
        have hd := decF_bad VS.out (by rw [← HN.out]; exact hlt) hjl (by rw [← HG.out]; exact HV.out) (by rw [bs_length]; omega)
        rw [hd]
        exact ⟨_, rfl, World.ownsRow_nil _ _ _ _, BL.out⟩
      | some v =>
        have hv64 := vOf_lt hv
        rw [hv] at hhas
        simp only [Option.isSome_some] at hhas
        have C1 := Lib.hid (addD w wr w.heap.size 6 8 b c v id xs RGH.out BL.out P0.out (by omega) (by omega) (by omega) i1 I2.out (by omega) hxl)
        have HV := Lib.hid hv
        clear hv
        have hat1 : ∀ x, (vMap 64).atKey (.int .u8 (g : Int)) (.lit (.int .i64 0)) = .lit (.int .i64 x) → x = (v : Int) := fun x hx => by have := AT.out x hx; rw [HV.out] at this; simpa using this
        have AT1 := Lib.hid hat1
        clear hat1
        go_wp2_with (first | (at_lookup; refine wpList_lookup_own_ok_int _ rfl _ _ 97 rfl 5 3 .i64 law5 Tryd.underlying97 Tryd.underlying3 (zero3 _) M 64 _ rfl MP.out _ _ rfl hkey ?_; intro c' hat hwc; obtain rfl := AT1.out c' hat; clear hat hwc) | (go_at_call 94; refine C1.out.mono ?_; rintro e w1 ⟨rfl, hb1, hkm, b1, c1, ys, hd, hr1⟩; have HD := Lib.hid hd; clear hd))
        go_roundg (n - (j + 1))
        case measure => omega
        case rel =>
          refine ⟨j + 1, b1, c1, ys, vs ++ [v], by omega, rfl, by go_num, ?_, ?_, hr1, hb1, hkm.owns MP.out⟩
          · rw [List.take_succ_eq_append_getElem hjl]
            exact vals_snoc VS.out (by rw [← HG.out]; exact HV.out)
          · rw [decSt_snoc, ST.out]
            exact HD.out
    · obtain rfl : j = n := by omega
      have hg := decF_good (l := bs s) (by rw [← HN.out]; exact hvs) (by rw [bs_length]; exact hl)
      rw [hst, bs_length, ← HN.out] at hg
      obtain ⟨v, hv, hown⟩ := hrg.txt
      have hc := cell_of_one hv
      have L1 := Lib.hid (left_any wr w.heap.size 6 8 73 b c xs hrg)
      have HG := Lib.hid hg; have BL := Lib.hid hbl; have OW := Lib.hid hown
      obtain ⟨a', cap', rfl⟩ := own_shape hown
      have hbj : Hid (j = 0 → b = 0) := fun h => by
        have hc0 : c = 0 := by omega
        rw [hc0] at i2
        simpa using i2
      clear hg hbl hown hrg hst hvs hv hmap i2
      by_cases h4 : s.size % 4 = 0
      · have h4' : ((s.size : Int) % 4 != 0) = false := int_nneq (by omega)
        by_cases hb0 : b = 0
        · have hb' : ((b : Int) != 0) = false := int_nneq (by omega)
          go_wp2_with (go_at_call 95; refine L1.out.mono ?_; rintro e w1 ⟨rfl, nq, rfl⟩)
          go_ret3
          rw [HG.out, if_neg (by omega), if_neg (by simpa using hb0)]
          exact ⟨_, rfl, OW.out, below_drewN BL.out nq⟩
        · have hb' : ((b : Int) != 0) = true := int_neq (by omega)
          have hn0 : 1 ≤ j := Nat.pos_of_ne_zero fun h => hb0 (hbj.out h)
          go_wp2_with (go_at_call 95; refine L1.out.mono ?_; rintro e w1 ⟨rfl, nq, rfl⟩)
          go_ret3
          rw [HG.out, if_neg (by omega), if_pos (by simpa using hb0)]
          exact ⟨_, by simp; omega, World.ownsRow_nil _ _ _ _, below_drewN BL.out nq⟩
      · have h4' : ((s.size : Int) % 4 != 0) = true := int_neq (by omega)
        go_wp2_with fail
        go_ret3
        rw [HG.out, if_pos h4]
        exact ⟨_, rfl, World.ownsRow_nil _ _ _ _, BL.out⟩

end Go.Proofs.YtbgggeobpiaamaaDoor
