/- The reference: Decode. -/
import Derived.Test.YtbgggeobpiaamaaDoorRefF
import Derived.Test.YtbgggeobpiaamaaDoorDecW
namespace Go.Proofs.YtbgggeobpiaamaaDoor
open Go.RowKit
set_option linter.unusedVariables false
set_option maxRecDepth 100000
theorem add_addr (g i : Nat) : (⟨g, 0, none⟩ : Addr).add i = ⟨g, i, none⟩ := by unfold Addr.add; split <;> simp_all
theorem forb_lo {c : Nat} (h : c < 32) (h9 : c ≠ 9) : forb c = true := by unfold forb; simp [h, h9]
theorem forb_hi {c : Nat} (h : 126 < c) (h9 : c ≠ 9) : forb c = true := by unfold forb; simp [h, h9]
theorem forb_9 : forb 9 = false := by decide
theorem forb_ok {c : Nat} (h : ¬ c < 32) (h2 : ¬ 126 < c) : forb c = false := by unfold forb; simp [h, h2]
set_option maxHeartbeats 8000000 in
theorem rDecode_any (s : ByteArray) (w : World) (hs : s.size ≤ 1000000) :
    Calls Tryd.prog 15 #[.string s] w (DwPost (bs s) w) := by
  by_cases hl : 16384 < s.size
  · have R : Hid (decR (bs s) = ([], 5)) := Lib.hid (by unfold decR; rw [if_pos (by rw [bs_length]; exact hl)])
    go_enter Tryd.func15, Tryd.ntmps15
    go_wp2_with fail
    go_ret2
    exact ⟨by rw [R.out]; rfl, Below.refl _ _⟩
  · have N1 : Hid (¬ 16384 < (bs s).length) := Lib.hid (by rw [bs_length]; exact hl)
    have FC : Hid (∀ w, Calls Tryd.prog 17 #[.string s] w (RfPost (bs s) w)) := Lib.hid (fun w => rFind_any s w hs)
    go_enter Tryd.func15, Tryd.ntmps15
    go_wp2_with fail
    go_loopg [4] s.size (fun k v wr => ∃ j : Nat, j ≤ s.size ∧ k = s.size - j ∧ v = .int .i64 (j : Int) ∧ Hid (((bs s).take j).any forb = false) ∧ Hid (Below w.heap.size w wr))
    case atStart => exact ⟨0, by omega, rfl, rfl, Lib.hid rfl, Lib.hid (Below.refl _ _)⟩
    case round =>
      obtain ⟨j, hj, rfl, rfl, HF, HB⟩ := hrel
      by_cases hlt : j < s.size
      · obtain ⟨c, hc⟩ : ∃ c, c = (bs s).getD j 0 := ⟨_, rfl⟩
        have bc : c < 256 := by rw [hc]; exact bs_lt' s j
        have x0 := fun w => idx_q s w (j : Int) j rfl hlt c hc
        have hjl : j < (bs s).length := by rw [bs_length]; exact hlt
        by_cases c9 : c = 9
        · have NX := Lib.hid (any_take_miss HF.out hjl hc (by rw [c9]; exact forb_9))
          have q0 : ((c : Int) != 9) = false := int_nneq (by omega)
          clear hc c9 hjl
          go_wp2_with fail
          go_roundg (s.size - (j + 1))
          case measure => omega
          case rel => exact ⟨j + 1, by omega, rfl, by go_num, NX, HB⟩
        · have q0 : ((c : Int) != 9) = true := int_neq (by omega)
          by_cases c32 : c < 32
          · have R : Hid (decR (bs s) = ([], 6)) := Lib.hid (by unfold decR; rw [if_neg N1.out, if_pos (any_take_hit hjl hc (forb_lo c32 c9))])
            clear hc c9 hjl
            go_wp2_with fail
            go_ret2
            exact ⟨by rw [R.out]; rfl, HB.out⟩
          · by_cases c126 : 126 < c
            · have R : Hid (decR (bs s) = ([], 6)) := Lib.hid (by unfold decR; rw [if_neg N1.out, if_pos (any_take_hit hjl hc (forb_hi c126 c9))])
              clear hc c9 hjl
              go_wp2_with fail
              go_ret2
              exact ⟨by rw [R.out]; rfl, HB.out⟩
            · have NX := Lib.hid (any_take_miss HF.out hjl hc (forb_ok c32 c126))
              clear hc c9 hjl
              go_wp2_with fail
              go_roundg (s.size - (j + 1))
              case measure => omega
              case rel => exact ⟨j + 1, by omega, rfl, by go_num, NX, HB⟩
      · have R : Hid (decR (bs s) = (decT (bs s), 0)) := Lib.hid (by unfold decR; rw [if_neg N1.out, if_neg (by rw [any_take_all HF.out (by rw [bs_length]; omega)]; decide)])
        go_wp2_with fail
        refine (FC.out _).mono ?_
        rintro e w2 ⟨v, rfl, hown, hb2⟩
        obtain ⟨P0, hP0⟩ : ∃ P0, P0 = wr.heap.size := ⟨_, rfl⟩
        rw [← hP0] at hown
        have HB2 : Hid (Below w.heap.size w w2) := Lib.hid (HB.out.trans (hb2.mono HB.out.size))
        have hP2 : w.heap.size ≤ P0 := by rw [hP0]; exact HB.out.size
        obtain ⟨ps, hps⟩ : ∃ ps, ps = findR (bs s) := ⟨_, rfl⟩
        have hord := findR_ord (bs s)
        have hin := findR_in (bs s)
        have hlen := findR_len (bs s)
        have hR : decT (bs s) = (dcSt (bs s) ps).2.2 ++ (bs s).drop (dcSt (bs s) ps).1 := by rw [hps]; rfl
        rw [← hps] at hown hord hin hlen
        rw [bs_length] at hin hlen
        obtain ⟨n, hn⟩ : ∃ n, n = ps.length := ⟨_, rfl⟩
        have hv : ∃ a c2, v = .slice a n c2 ∧ (0 < n → ∃ g, a = some ⟨g, 0, none⟩) := by
          rcases hown.2 with ⟨rfl, h0⟩ | ⟨g, c2, cur, rfl, _⟩
          · exact ⟨none, 0, by rw [hn, h0], fun h => by omega⟩
          · exact ⟨_, c2, by rw [hn], fun _ => ⟨g, rfl⟩⟩
        obtain ⟨a, c, rfl, hag⟩ := hv
        rw [← hn] at hown
        have hout := dcSt_out (bs_lt s) ps hord (by rw [bs_length]; exact hin)
        rw [bs_length] at hout
        have hleF := fun j (hj : j < ps.length) => dcSt_le (l := bs s) hj hord
        have OW3 := Lib.hid hown; have HIN := Lib.hid hin; have HOO := Lib.hid hout; have HLE := Lib.hid hleF; have HRR := Lib.hid hR; have HN := Lib.hid hn; have HAG := Lib.hid hag
        rw [← hn] at hlen
        clear HB FC hown hb2 hord hin hout hleF hR hps hn hag hP0 HF
        go_wp2_with fail
        go_loopg [5, 6, 8] n (fun k v5 v6 v8 wr => ∃ (j fr : Nat) (o : ByteArray) (out : List Nat), j ≤ n ∧ k = n - j ∧ v8 = .int .i64 (j : Int) ∧ v6 = .int .i64 (fr : Int) ∧ v5 = .string o ∧ Hid (o = strN out) ∧ Hid (dcSt (bs s) (ps.take j) = (fr, decide (0 < j), out)) ∧ Hid (wr.ownsRow P0 37 2 (.slice a n c) n (plC ps)) ∧ Hid (Below w.heap.size w wr))
        case atStart => exact ⟨0, 0, ⟨#[]⟩, [], by omega, rfl, rfl, rfl, rfl, Lib.hid rfl, Lib.hid rfl, OW3, HB2⟩
        case round =>
          obtain ⟨j, fr, o, out, hj, rfl, rfl, rfl, rfl, HOS, HST, HO, HB⟩ := hrel
          clear OW3 HB2
          have ho := HOO.out j (by rw [← HN.out]; exact hj)
          rw [HST.out] at ho
          obtain ⟨ho1, ho2, _⟩ := ho
          simp only at ho1 ho2
          have osz : o.size = out.length := by rw [HOS.out, strN_size]
          by_cases hlt : j < n
          · have hjp : j < ps.length := by rw [← HN.out]; exact hlt
            obtain ⟨g, rfl⟩ := HAG.out (by omega)
            have hx := HIN.out ps[j] (List.getElem_mem hjp)
            have hle := HLE.out j hjp
            rw [HST.out] at hle
            simp only at hle
            have hcells := plC_get ps j hjp
            obtain ⟨x, hxe⟩ : ∃ x, x = ps[j] := ⟨_, rfl⟩
            rw [← hxe] at hx hle hcells
            obtain ⟨xa, xb⟩ := x
            simp only at hx hle hcells
            obtain ⟨hx1, hx2⟩ := hx
            have hx3 : xa ≤ s.size := by omega
            have ib1 : (xa : Int) ≤ (xb : Int) := by omega
            have ib2 : (xb : Int) ≤ (s.size : Int) := by omega
            have HX := Lib.hid hxe
            have HJ := Lib.hid hjp
            have PCEL : Hid (∀ W : World, W.ownsRow P0 37 2 (.slice (some ⟨g, 0, none⟩) n c) n (plC ps) → W.cell? ⟨g, j * 2, none⟩ = some (.int .i64 (xa : Int)) ∧ W.cell? ⟨g, j * 2 + 1, none⟩ = some (.int .i64 (xb : Int))) := Lib.hid (fun W h => by
              have k0 := h.cells (g := g) rfl (2 * j) _ hcells.1
              have k1 := h.cells (g := g) rfl (2 * j + 1) _ hcells.2
              rw [add_addr] at k0 k1
              rw [Nat.mul_comm]
              exact ⟨k0, k1⟩)
            clear hcells hxe
            have PC : Hid (∀ w', Below w.heap.size w w' → Calls Tryd.prog 36 #[.string (s.extract xa xb)] w' (ParsePost (cut (bs s) xa xb) w')) := Lib.hid (fun w' hb => by
              have := rParse_any (s.extract xa xb) w' (by rw [ByteArray.size_extract]; omega)
              rw [bs_extract] at this
              exact this)
            unfold ParsePost at PC
            obtain ⟨m, hm⟩ : ∃ m, m = parseR (cut (bs s) xa xb) := ⟨_, rfl⟩
            have ml := (parse_len (cut_lt (a := xa) (b := xb) (bs_lt s))).2
            rw [← hm, cut_len (by rw [bs_length]; omega)] at ml
            rw [← hm] at PC
            have HM := Lib.hid hm
            have tsz : (strN m.1).size = m.1.length := strN_size _
            clear hm
            have bsz : (s.extract fr xa).size = xa - fr := by rw [ByteArray.size_extract]; omega
            by_cases j0 : j = 0
            · subst j0
              have k0 : wr.cell? ⟨g, 0, none⟩ = some (.int .i64 (xa : Int)) := (PCEL.out wr HO.out).1
              have k1 : wr.cell? ⟨g, 1, none⟩ = some (.int .i64 (xb : Int)) := (PCEL.out wr HO.out).2
              have ST1 : Hid (dcSt (bs s) (ps.take (0 + 1)) = (xb, decide (0 < 0 + 1), out ++ cut (bs s) fr xa ++ m.1)) := Lib.hid (by
                rw [List.take_succ_eq_append_getElem HJ.out, dcSt_snoc, HST.out, ← HX.out]
                unfold dcStep
                simp only [← HM.out]
                simp)
              have OE : Hid (o ++ s.extract fr xa ++ strN m.1 = strN (out ++ cut (bs s) fr xa ++ m.1)) := Lib.hid (by
                rw [HOS.out]
                rw [← strN_bs (s.extract fr xa), bs_extract, strN_app, strN_app]; rfl)
              go_wp2_with fail
              go_region_held3 (fun w' => w'.cell? ⟨g, 0, none⟩ = some (.int .i64 (xa : Int)) ∧ w'.cell? ⟨g, 1, none⟩ = some (.int .i64 (xb : Int))) (first | go_keep | exact PCEL.out _ HO.out | exact PCEL.out _ O9.out) (first | (go_at_call 36; refine (PC.out _ (HB.out.drew)).mono ?_; rintro e w9 ⟨rfl, hb9⟩; have O9 : Hid (w9.ownsRow P0 37 2 (.slice (some ⟨g, 0, none⟩) n c) n (plC ps)) := Lib.hid (owns_below (W := wr.drew) HO.out hb9); have B9 : Hid (Below w.heap.size w w9) := Lib.hid (HB.out.drew.trans (hb9.mono HB.out.drew.size)); clear hb9))
              have k2 : w9.cell? ⟨g, 1, none⟩ = some (.int .i64 (xb : Int)) := (PCEL.out w9 O9.out).2
              clear k0 k1
              go_wp2_with fail
              go_roundg (n - (0 + 1))
              case measure => omega
              case rel => exact ⟨0 + 1, xb, o ++ s.extract fr xa ++ strN m.1, out ++ cut (bs s) fr xa ++ m.1, by omega, rfl, by go_num, rfl, rfl, OE, ST1, O9, B9⟩
            · obtain ⟨i0, rfl⟩ : ∃ i, j = i + 1 := ⟨j - 1, by omega⟩
              clear j0
              have ib3 : (0 : Int) ≤ (i0 : Int) + 1 := by omega
              have ib4 : (i0 : Int) + 1 < (n : Int) := by omega
              have k0 := (PCEL.out wr HO.out).1
              obtain ⟨bt, hbt⟩ : ∃ bt, bt = s.extract fr xa := ⟨_, rfl⟩
              have BT := Lib.hid hbt
              have BTS : Hid (bs bt = cut (bs s) fr xa) := Lib.hid (by rw [hbt, bs_extract]; rfl)
              rw [← hbt] at bsz
              have ex : s.extract fr xa = bt := hbt.symm
              clear hbt
              go_wp2_with fail
              clear ex k0
              go_loopg [10, 11] bt.size (fun k v10 v11 wr => ∃ i : Nat, i ≤ bt.size ∧ k = bt.size - i ∧ v11 = .int .i64 (i : Int) ∧ v10 = .bool (((bs bt).take i).all blank) ∧ Hid (wr.ownsRow P0 37 2 (.slice (some ⟨g, 0, none⟩) n c) n (plC ps)) ∧ Hid (Below w.heap.size w wr))
              case atStart => exact ⟨0, by omega, rfl, rfl, rfl, HO, HB⟩
              case round =>
                obtain ⟨i, hi, rfl, rfl, rfl, HO1, HB1⟩ := hrel
                clear HO HB
                have HO := HO1; have HB := HB1
                clear HO1 HB1
                by_cases hib : i < bt.size
                · obtain ⟨d, hd⟩ : ∃ d, d = (bs bt).getD i 0 := ⟨_, rfl⟩
                  have bd : d < 256 := by rw [hd]; exact bs_lt' bt i
                  have x0 := fun w => idx_q bt w (i : Int) i rfl hib d hd
                  have BC := Lib.hid (fun w => blank_any w d bd)
                  have AN : Hid (((bs bt).take (i + 1)).all blank = (((bs bt).take i).all blank && blank d)) := Lib.hid (by
                    rw [List.take_succ_eq_append_getElem (by rw [bs_length]; exact hib), List.all_append, hd, List.getD_eq_getElem?_getD, List.getElem?_eq_getElem (by rw [bs_length]; exact hib), Option.getD_some]; simp)
                  obtain ⟨bb, hbb⟩ : ∃ b, b = blank d := ⟨_, rfl⟩
                  rw [← hbb] at BC AN
                  obtain ⟨al, hal⟩ : ∃ b, b = ((bs bt).take i).all blank := ⟨_, rfl⟩
                  rw [← hal] at AN ⊢
                  clear hd hbb hal
                  cases al
                  · go_wp2_with fail
                    go_roundg (bt.size - (i + 1))
                    case measure => omega
                    case rel => exact ⟨i + 1, by omega, rfl, by go_num, by rw [AN.out]; rfl, HO, HB⟩
                  · go_wp2_with (go_at_call 35; refine (BC.out _).mono ?_; rintro e w' ⟨rfl, rfl⟩)
                    go_roundg (bt.size - (i + 1))
                    case measure => omega
                    case rel => exact ⟨i + 1, by omega, rfl, by go_num, by rw [AN.out]; rfl, HO, HB⟩
                · obtain ⟨al, hal⟩ : ∃ b, b = ((bs bt).take i).all blank := ⟨_, rfl⟩
                  have ALL : Hid ((cut (bs s) fr xa).all blank = al) := Lib.hid (by rw [hal, List.take_of_length_le (by rw [bs_length]; omega), BTS.out])
                  rw [← hal]
                  clear hal
                  cases al
                  · have bz := bsz
                    rw [BT.out]
                    rw [BT.out] at bsz
                    have k0 : wr.cell? ⟨g, (i0 + 1) * 2, none⟩ = some (.int .i64 (xa : Int)) := (PCEL.out wr HO.out).1
                    have k1 : wr.cell? ⟨g, (i0 + 1) * 2 + 1, none⟩ = some (.int .i64 (xb : Int)) := (PCEL.out wr HO.out).2
                    have ST1 : Hid (dcSt (bs s) (ps.take ((i0 + 1) + 1)) = (xb, decide (0 < (i0 + 1) + 1), out ++ cut (bs s) fr xa ++ m.1)) := Lib.hid (by
                      rw [List.take_succ_eq_append_getElem HJ.out, dcSt_snoc, HST.out, ← HX.out]
                      unfold dcStep
                      simp only [← HM.out]
                      rw [decide_eq_true (show 0 < i0 + 1 by omega), ALL.out]; simp)
                    have OE : Hid (o ++ s.extract fr xa ++ strN m.1 = strN (out ++ cut (bs s) fr xa ++ m.1)) := Lib.hid (by
                      rw [HOS.out]
                      rw [← strN_bs (s.extract fr xa), bs_extract, strN_app, strN_app]; rfl)
                    go_wp2_with fail
                    go_region_held3 (fun w' => w'.cell? ⟨g, (i0 + 1) * 2, none⟩ = some (.int .i64 (xa : Int)) ∧ w'.cell? ⟨g, (i0 + 1) * 2 + 1, none⟩ = some (.int .i64 (xb : Int))) (first | go_keep | exact PCEL.out _ HO.out | exact PCEL.out _ O9.out) (first | (go_at_call 36; refine (PC.out _ (HB.out.drew)).mono ?_; rintro e w9 ⟨rfl, hb9⟩; have O9 : Hid (w9.ownsRow P0 37 2 (.slice (some ⟨g, 0, none⟩) n c) n (plC ps)) := Lib.hid (owns_below (W := wr.drew) HO.out hb9); have B9 : Hid (Below w.heap.size w w9) := Lib.hid (HB.out.drew.trans (hb9.mono HB.out.drew.size)); clear hb9))
                    have k2 : w9.cell? ⟨g, (i0 + 1) * 2 + 1, none⟩ = some (.int .i64 (xb : Int)) := (PCEL.out w9 O9.out).2
                    clear k0 k1
                    go_wp2_with fail
                    go_roundg (n - ((i0 + 1) + 1))
                    case measure => omega
                    case rel => exact ⟨(i0 + 1) + 1, xb, o ++ s.extract fr xa ++ strN m.1, out ++ cut (bs s) fr xa ++ m.1, by omega, rfl, by go_num, rfl, rfl, OE, ST1, O9, B9⟩
                  · have k0 : wr.cell? ⟨g, (i0 + 1) * 2, none⟩ = some (.int .i64 (xa : Int)) := (PCEL.out wr HO.out).1
                    have k1 : wr.cell? ⟨g, (i0 + 1) * 2 + 1, none⟩ = some (.int .i64 (xb : Int)) := (PCEL.out wr HO.out).2
                    have ST1 : Hid (dcSt (bs s) (ps.take ((i0 + 1) + 1)) = (xb, decide (0 < (i0 + 1) + 1), out ++ m.1)) := Lib.hid (by
                      rw [List.take_succ_eq_append_getElem HJ.out, dcSt_snoc, HST.out, ← HX.out]
                      unfold dcStep
                      simp only [← HM.out]
                      rw [decide_eq_true (show 0 < i0 + 1 by omega), ALL.out]; simp)
                    have OE : Hid (o ++ ⟨#[]⟩ ++ strN m.1 = strN (out ++ m.1)) := Lib.hid (by
                      rw [HOS.out]
                      rw [show (⟨#[]⟩ : ByteArray) = strN [] from rfl, strN_app, strN_app, List.append_nil])
                    go_wp2_with fail
                    go_region_held3 (fun w' => w'.cell? ⟨g, (i0 + 1) * 2, none⟩ = some (.int .i64 (xa : Int)) ∧ w'.cell? ⟨g, (i0 + 1) * 2 + 1, none⟩ = some (.int .i64 (xb : Int))) (first | go_keep | exact PCEL.out _ HO.out | exact PCEL.out _ O9.out) (first | (go_at_call 36; refine (PC.out _ (HB.out.drew)).mono ?_; rintro e w9 ⟨rfl, hb9⟩; have O9 : Hid (w9.ownsRow P0 37 2 (.slice (some ⟨g, 0, none⟩) n c) n (plC ps)) := Lib.hid (owns_below (W := wr.drew) HO.out hb9); have B9 : Hid (Below w.heap.size w w9) := Lib.hid (HB.out.drew.trans (hb9.mono HB.out.drew.size)); clear hb9))
                    have k2 : w9.cell? ⟨g, (i0 + 1) * 2 + 1, none⟩ = some (.int .i64 (xb : Int)) := (PCEL.out w9 O9.out).2
                    clear k0 k1
                    go_wp2_with fail
                    go_roundg (n - ((i0 + 1) + 1))
                    case measure => omega
                    case rel => exact ⟨(i0 + 1) + 1, xb, o ++ ⟨#[]⟩ ++ strN m.1, out ++ m.1, by omega, rfl, by go_num, rfl, rfl, OE, ST1, O9, B9⟩
          · have hje : ps.take j = ps := List.take_of_length_le (by rw [← HN.out]; omega)
            have FIN : Hid (strN (decT (bs s)) = o ++ s.extract fr s.size) := Lib.hid (by
              have h2 := HST.out
              rw [hje] at h2
              rw [HRR.out, h2, HOS.out, ← strN_bs (s.extract fr s.size), bs_from, strN_app])
            have bsz : (s.extract fr s.size).size = s.size - fr := by rw [ByteArray.size_extract]; omega
            clear hje
            go_wp2_with fail
            go_ret2
            exact ⟨by rw [R.out]; simp only [FIN.out]; rfl, HB.out⟩
end Go.Proofs.YtbgggeobpiaamaaDoor
