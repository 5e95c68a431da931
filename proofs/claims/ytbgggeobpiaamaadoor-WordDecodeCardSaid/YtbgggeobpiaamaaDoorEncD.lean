/- Walk of base64.encode. -/
import Derived.Test.YtbgggeobpiaamaaDoorEncC
namespace Go.Proofs.YtbgggeobpiaamaaDoor
open Go.RowKit
set_option linter.unusedVariables false
set_option maxRecDepth 100000

/-- What is known of a slice of bytes that is read: its elements are l. -/
structure Rd (w : World) (a : Option Addr) (l : List Nat) : Prop where
  lt : ∀ x ∈ l, x < 256
  at_ : 0 < l.length → ∃ b off, a = some ⟨b, off, none⟩ ∧ b < w.heap.size ∧ ∀ i (h : i < l.length), w.cell? ⟨b, off + i, none⟩ = some (U l[i])

/-- The text that has been gathered. -/
def TX (B : Nat) (xs : List Nat) (w : World) : Prop := ∃ v, w.heap[B + 1]? = some (.cells #[v] 43 (0, 0)) ∧ w.ownsRow B 5 1 v xs.length (xs.map U)
theorem TX.drewN {B : Nat} {xs : List Nat} {w : World} (h : TX B xs w) (n : Nat) : TX B xs (w.drewN n) := h
theorem TX.close {w wA w1 : World} {base gg cap n : Nat} {v : Value} {xs : List Nat} {y : Nat} (hn : n = xs.length)
    (hown1 : w1.ownsRow base 5 1 (.slice (some ⟨gg, 0, none⟩) (n + 1) cap) (n + 1) (xs.map U ++ [.int .u8 y])) (hgrow : wA.grownBy w1 v.ownBlock) (hA : Below w.heap.size w wA)
    (hT1 : w1.heap[base + 1]? = some (.cells #[v] 43 (0, 0))) (hbase : base ≤ w.heap.size) (hv : w.ownsRow base 5 1 v n (xs.map U)) :
    TX base (xs ++ [y]) (w1.setCell ⟨base + 1, 0, none⟩ (.slice (some ⟨gg, 0, none⟩) (n + 1) cap)) ∧ Below base w (w1.setCell ⟨base + 1, 0, none⟩ (.slice (some ⟨gg, 0, none⟩) (n + 1) cap)) := by
  subst hn
  have := app_close hown1 hgrow hA hT1 (by decide) (by omega) hbase hv
  refine ⟨?_, this.2.below⟩
  obtain ⟨v', h1, h2⟩ := this.1
  exact ⟨v', h1, by rw [List.map_append, List.length_append]; exact h2⟩

set_option maxHeartbeats 1000000 in
theorem encode_any (w : World) (a : Option Addr) (cap : Nat) (l : List Nat) (hl : l.length ≤ 400000) (hrd : Rd w a l) (ht : Tab w) :
    Calls Tryd.prog 69 #[.slice a l.length cap] w fun e w' => e = .returned (.string (strN (encF l))) ∧ Below w.heap.size w w' := by
  obtain ⟨i0, hi0, hz0, hz1, hz2⟩ := info_parts info5
  obtain ⟨n, hn⟩ : ∃ n, n = l.length := ⟨_, rfl⟩
  have hb2 : i0.bytes * ((n + 2) / 3 * 4) ≤ 281474976710656 := by rw [hz2]; omega
  have R0 := fun (cs : Array Value) (h : cs.size = ((n + 2) / 3 * 4) * 1) => rg_start w cs ((n + 2) / 3 * 4) 8 6 93 (by unfold maxLen; omega) h
  have TB := Lib.hid ht
  have P0 := Lib.hid (pass_enc w w.heap.size ht ht.size (Nat.le_refl _))
  have HC := Lib.hid hrd.at_; have H2 := Lib.hid hrd.lt; have HN := Lib.hid hn; have RR := Lib.hid R0
  rw [← hn]
  have hn4 : n ≤ 400000 := by omega
  clear hrd R0 hl hn ht
  go_enter Tryd.func69, Tryd.ntmps69
  go_wp2_with (first | (at_make; refine wpList_make_lit _ rfl _ _ _ rfl 5 i0 _ 1 Tryd.underlying43 hi0 hz0 hz1 .i64 .i64 _ _ 0 ((n + 2) / 3 * 4) rfl rfl rfl (by omega) (by omega) hb2 (by unfold maxLen; omega) ?_; intro cs hcs; have CS := Lib.hid hcs; clear hcs) | (go_at_call 72; refine (regroup_any _ 8 6 _ _ w.heap.size (by simp)).mono ?_; rintro e w1 ⟨rfl, rfl⟩))
  go_loopg [23] n (fun k i wr => ∃ j b' c' xs, j ≤ n ∧ k = n - j ∧ i = .int .i64 (j : Int) ∧ encSt (l.take j) = (b', c', xs) ∧ RG w.heap.size 8 6 93 b' c' xs wr ∧ Below w.heap.size w wr)
  case atStart => exact ⟨0, 0, 0, [], by omega, by omega, rfl, rfl, RR.out cs CS.out, below_start _ _ _ _ _ _ _ _⟩
  case round =>
    obtain ⟨j, b', c', xs, hj, rfl, rfl, hst, hrg, hbl⟩ := hrel
    have hinv := encSt_inv (l.take j) (fun x hx => H2.out x (List.mem_of_mem_take hx))
    rw [hst] at hinv
    obtain ⟨i1, i2, i3⟩ := hinv
    simp only [List.length_take] at i1 i2 i3
    have hxl : xs.length ≤ 900000 := by omega
    by_cases hlt : j < n
    · have hjl : j < l.length := by rw [← HN.out]; exact hlt
      obtain ⟨b, off, rfl, hbw, hcell⟩ := HC.out (by omega)
      have hx : w.cell? ⟨b, off + j, none⟩ = some (U l[j]) := hcell j hjl
      clear hcell
      have hx' : wr.cell? ⟨b, off + j, none⟩ = some (U l[j]) := (hbl.cell (by exact hbw)).trans hx
      have hg : l[j] < 256 := H2.out _ (List.getElem_mem hjl)
      obtain ⟨g, hg'⟩ : ∃ g, g = l[j] := ⟨_, rfl⟩
      rw [← hg'] at hx' hg
      unfold U at hx'
      have C1 := Lib.hid (addE w wr w.heap.size 8 6 b' c' g al xs hrg hbl P0.out (by omega) (by omega) (by omega) i1 i2 (by omega) hxl)
      have ST := Lib.hid hst; have HG := Lib.hid hg'
      clear hst hrg hbl i2 hx hg' i3
      go_wp2_with (go_at_call 94; refine C1.out.mono ?_; rintro e w1 ⟨rfl, hb1, hkm, b1, c1, ys, hd, hr1⟩; have HD := Lib.hid hd; clear hd)
      go_roundg (n - (j + 1))
      case measure => omega
      case rel =>
        refine ⟨j + 1, b1, c1, ys, by omega, by omega, by go_num, ?_, hr1, hb1⟩
        rw [List.take_succ_eq_append_getElem hjl, encSt_snoc, ST.out, ← HG.out]
        exact HD.out
    · have hjn : j = n := by omega
      subst hjn
      have L1 := Lib.hid (left_any wr w.heap.size 8 6 93 b' c' xs hrg)
      obtain ⟨v, hv, hown⟩ := hrg.txt
      have TX0 : Hid (TX w.heap.size xs wr) := ⟨v, hv, hown⟩
      rw [List.take_of_length_le (by rw [HN.out]; exact Nat.le_refl _)] at hst
      have ST := Lib.hid hst; have BL := Lib.hid hbl; have I2 := Lib.hid i2; have I3 := Lib.hid i3; have HV := Lib.hid hv
      clear hst hrg hbl i2 i3 hv
      go_upto_if 38 with (go_at_call 95; refine L1.out.mono ?_; rintro e w1 ⟨rfl, nq, rfl⟩)
      go_cut [] (fun wx => TX w.heap.size (encTail (b', c', xs)) wx ∧ Below w.heap.size w wx)
      case first =>
        have tx : TX w.heap.size xs (wr.drewN nq) := TX0.out
        have bx : Below w.heap.size w (wr.drewN nq) := below_drewN BL.out nq
        generalize wr.drewN nq = wx at *
        have tb := TB.out.below bx TB.out.size
        obtain ⟨vx, hvx, hox⟩ := tx
        have hc := cell_of_one hvx
        have hf := free_of_one hvx
        have lt := lt_of_block hvx
        by_cases hcz : 0 < c'
        · obtain ⟨d, hd⟩ : ∃ d, d = 6 - c' := ⟨_, rfl⟩
          obtain ⟨q, hq⟩ : ∃ q, q = b' * 2 ^ d := ⟨_, rfl⟩
          have hq64 : q < 64 := by
            have h1 : b' * 2 ^ d < 2 ^ c' * 2 ^ d := Nat.mul_lt_mul_of_pos_right I2.out (Nat.pow_pos (by omega))
            rw [← Nat.pow_add, show c' + d = 6 by omega] at h1
            omega
          have ed : (6 : Int) - (c' : Int) = (d : Int) := by omega
          have e1 : ((b' : Int) * 2 ^ d) = (q : Int) := by rw [hq]; push_cast; rfl
          have q0 : (0 : Int) ≤ (q : Int) := by omega
          have q1 : (q : Int) < 64 := by omega
          have qc : wx.cell? ⟨3, q, none⟩ = some (U (al q)) := tb.cell q hq64
          unfold U at qc
          have hTA : (wx.drew.alloc (.cells #[.int .u8 (al q)] 5)).heap[w.heap.size + 1]? = some (.cells #[vx] 43 (0, 0)) := alloc_block hvx
          have HTA := Lib.hid hTA
          have HNE := Lib.hid (own_ne (b := w.heap.size + 1) (t := 43) hox hvx (by decide))
          have HB := Lib.hid bx; have HQ := Lib.hid hq; have D := Lib.hid hd; have HX := Lib.hid hvx
          clear hTA bx tb hq hd hvx
          have hbs : w.heap.size ≤ wx.heap.size := HB.out.size
          have hd6 : d ≤ 6 := by omega
          have ew : IntKind.i64.wrap (d : Int) = (d : Int) := IntWalk.i64_in _ (by omega)
          have ew2 : IntKind.i64.wrap (q : Int) = (q : Int) := IntWalk.i64_in _ (by omega)
          have d0 : (0 : Int) ≤ (d : Int) := by omega
          have d1 : (d : Int) ≤ 64 := by omega
          go_wp2_with fail
          go_region_law ((refine step_append_lies _ (by rfl) _ _ _ (by rfl) w.heap.size 5 i0 _ 1 1 Tryd.underlying43 hi0 hz0 hz1 hz2 rfl (by omega) vx xs.length (xs.map U) (by rfl) ((hox.drew).alloc _) ⟨wx.heap.size, 0, none⟩ 1 1 [.int .u8 (al q)] (by rfl) (by rfl) (World.news_of_block (cs := #[.int .u8 (al q)]) (t := 5) (fr := (0, 0)) (heap_alloc_new wx _)) (by simp [Value.oneCell']) (by omega) (by unfold maxLen; omega) (by omega) (by simp; omega) (wx.heap.size + 1) (by simp) ?_; intro gg cap' w1 hown1 hgrow hat hlt2; have hc1 := own_kept_block hgrow HTA.out HNE.out; have hc2 := cell_of_one hc1; have hc3 := free_of_one hc1; have HC1 := Lib.hid hc1; clear hc1))
          all_goals go_wp2_with fail
          all_goals go_meet
          all_goals
            have fin := TX.close rfl hown1 hgrow (((Below.refl _ _).alloc (Nat.le_refl _) _).drew) HC1.out hbs hox
            have et : encTail (b', c', xs) = xs ++ [al q] := by simp only [encTail]; rw [if_pos hcz, HQ.out, D.out]
            rw [et]
            exact ⟨fin.1, HB.out.trans fin.2⟩
        · have hcz' : decide (0 < c') = false := by simp; omega
          go_wp2_with fail
          go_meet
          have et : encTail (b', c', xs) = xs := by simp only [encTail]; rw [if_neg hcz]
          rw [et]
          exact ⟨⟨vx, hvx, hox⟩, bx⟩
      case rest =>
        obtain ⟨htx, hbx⟩ := hcut
        have i3 := I3.out
        have htl := encTail_len b' c' xs j (by rw [i3, ← HN.out]; simp)
        have ef := encF_of ST.out
        have EF := Lib.hid ef
        clear ef i3
        obtain ⟨ts, hts⟩ : ∃ ts, ts = encTail (b', c', xs) := ⟨_, rfl⟩
        rw [← hts] at htx htl EF
        clear I2 I3 ST BL TX0 L1 P0 HC H2 RR hts
        go_wp2_with fail
        go_loopg [] ((4 - ts.length % 4) % 4) (fun k wr => ∃ ys, TX w.heap.size ys wr ∧ Below w.heap.size w wr ∧ ys.length + k ≤ 900000 ∧ k = (4 - ys.length % 4) % 4 ∧ pad4 ys = encF l)
        case atStart => exact ⟨ts, htx, hbx, by omega, rfl, EF.out⟩
        case round =>
          obtain ⟨ys, htx', hbx', hyl, rfl, hpad⟩ := hrel
          have HP := Lib.hid hpad
          clear hpad htx hbx hxl htl
          obtain ⟨v, hv, hown⟩ := htx'
          have hc := cell_of_one hv
          have hf := free_of_one hv
          have lt := lt_of_block hv
          obtain ⟨m, hm⟩ : ∃ m, m = ys.length := ⟨_, rfl⟩
          have hconv := own_conv (P := Tryd.prog) 43 9 Tryd.underlying43 Tryd.underlying5 Tryd.underlying9 hown
          rw [← hm] at hown hyl
          obtain ⟨a', cap', rfl⟩ := own_shape hown
          have HM := Lib.hid hm
          by_cases h4 : m % 4 = 0
          · have h4' : ((m : Int) % 4 != 0) = false := by simp; omega
            clear hm
            go_wp2_with fail
            go_ret
            exact ⟨by rw [← HP.out, pad4_done _ (by rw [← HM.out]; exact h4)]; rfl, hbx'⟩
          · have h4' : ((m : Int) % 4 != 0) = true := by simp; omega
            have hTA : (wr.alloc (.cells #[.int .u8 61] 5)).heap[w.heap.size + 1]? = some (.cells #[.slice a' m cap'] 43 (0, 0)) := alloc_block hv
            have HTA := Lib.hid hTA
            have HNE := Lib.hid (own_ne (b := w.heap.size + 1) (t := 43) hown hv (by decide))
            have HV := Lib.hid hv; have HB := Lib.hid hbx'
            have hbs : w.heap.size ≤ wr.heap.size := HB.out.size
            clear hm hTA hv hbx' hconv
            go_wp2_with ((at_builtin; refine wpList_append_lies _ rfl _ _ _ rfl w.heap.size 5 i0 _ 1 1 Tryd.underlying43 hi0 hz0 hz1 hz2 rfl (by omega) (.slice a' m cap') m (ys.map U) rfl (hown.alloc _) ⟨wr.heap.size, 0, none⟩ 1 1 [.int .u8 61] rfl rfl (World.news_of_block (cs := #[.int .u8 61]) (t := 5) (fr := (0, 0)) (heap_alloc_new wr _)) (by simp [Value.oneCell']) (by omega) (by unfold maxLen; omega) (by omega) (by simp; omega) (wr.heap.size + 1) (by simp) ?_; intro gg cap2 w1 hown1 hgrow hat hlt2; have hc1 := own_kept_block hgrow HTA.out HNE.out; have hc2 := cell_of_one hc1; have hc3 := free_of_one hc1; have HC1 := Lib.hid hc1; clear hc1))
            go_roundg ((4 - (m + 1) % 4) % 4)
            case measure => rw [← HM.out]; omega
            case rel =>
              have fin := TX.close HM.out hown1 hgrow ((Below.refl _ _).alloc (Nat.le_refl _) _) HC1.out hbs hown
              refine ⟨ys ++ [61], fin.1, HB.out.trans fin.2, ?_, ?_, ?_⟩
              · simp; rw [← HM.out]; omega
              · simp; rw [← HM.out]
              · rw [pad4_more _ (by rw [← HM.out]; exact h4)]; exact HP.out

end Go.Proofs.YtbgggeobpiaamaaDoor
