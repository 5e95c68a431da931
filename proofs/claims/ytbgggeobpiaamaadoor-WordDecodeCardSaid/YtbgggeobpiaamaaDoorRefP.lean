/- The reference: digit, lower, blank, undata. -/
import Derived.Test.YtbgggeobpiaamaaDoorRefW
import Derived.Test.YtbgggeobpiaamaaDoorRefD
import Derived.Test.YtbgggeobpiaamaaDoorDP
import Derived.Deep.RegionHeld3
import Derived.Deep.AppendLies
namespace Go.Proofs.YtbgggeobpiaamaaDoor
open Go.RowKit
set_option linter.unusedVariables false
set_option maxRecDepth 100000
theorem hv_at (n : Nat) (h : n < 16) : hv (hx n) = some n := hv_hx ⟨n, h⟩
theorem hv_not {c : Nat} (h : ∀ i, i < 16 → hx i ≠ c) : hv c = none := by
  unfold hv
  rw [List.find?_eq_none]
  intro i hi
  have := h i (by simpa using hi)
  simpa using this
theorem hexlit (j : Nat) (h : j < 16) : (bs ⟨#[48, 49, 50, 51, 52, 53, 54, 55, 56, 57, 65, 66, 67, 68, 69, 70]⟩).getD j 0 = hx j := by
  have : ∀ j : Fin 16, (bs ⟨#[48, 49, 50, 51, 52, 53, 54, 55, 56, 57, 65, 66, 67, 68, 69, 70]⟩).getD j.val 0 = hx j.val := by decide
  exact this ⟨j, h⟩
theorem digit_any (w : World) (c : Nat) (hc : c < 256) : Calls Tryd.prog 85 #[.int .u8 (c : Int)] w fun e w' => e = .returned (.int .i64 (hvI c)) ∧ w = w' := by
  go_enter Tryd.func85, Tryd.ntmps85
  go_wp2_with fail
  go_loopg [3] 16 (fun k v wr => ∃ j : Nat, j ≤ 16 ∧ k = 16 - j ∧ v = .int .i64 (j : Int) ∧ Hid (∀ i, i < j → hx i ≠ c) ∧ w = wr)
  case atStart => exact ⟨0, by omega, rfl, rfl, Lib.hid (fun i h => by omega), rfl⟩
  case round =>
    obtain ⟨j, hj, rfl, rfl, HN, rfl⟩ := hrel
    by_cases h : j < 16
    · have x0 := fun w => idx_q ⟨#[48, 49, 50, 51, 52, 53, 54, 55, 56, 57, 65, 66, 67, 68, 69, 70]⟩ w (j : Int) j rfl (show j < 16 from h) (hx j) (hexlit j h).symm
      by_cases hx0 : hx j = c
      · have F : Hid (hvI c = (j : Int)) := Lib.hid (by unfold hvI; rw [← hx0, hv_at j h])
        have q0 : (((hx j : Nat) : Int) == (c : Int)) = true := int_eq (by omega)
        clear hx0
        go_wp2_with fail
        go_ret
        exact ⟨by rw [F.out]; rfl, rfl⟩
      · have q0 : (((hx j : Nat) : Int) == (c : Int)) = false := int_ne (by omega)
        have NX : Hid (∀ i, i < j + 1 → hx i ≠ c) := Lib.hid (fun i hi => by
          by_cases hij : i = j
          · rw [hij]; exact hx0
          · exact HN.out i (by omega))
        clear hx0
        go_wp2_with fail
        go_roundg (16 - (j + 1))
        case measure => omega
        case rel => exact ⟨j + 1, by omega, rfl, by go_num, NX, rfl⟩
    · have F : Hid (hvI c = -1) := Lib.hid (by unfold hvI; rw [hv_not (fun i hi => HN.out i (by omega))])
      go_wp2_with fail
      go_ret
      exact ⟨by rw [F.out]; rfl, rfl⟩
theorem lower_any (w : World) (c : Nat) (hc : c < 256) : Calls Tryd.prog 61 #[.int .u8 (c : Int)] w fun e w' => e = .returned (.int .u8 (low c : Int)) ∧ w = w' := by
  by_cases h : 65 ≤ c ∧ c ≤ 90
  · have F : Hid (low c = c + 32) := Lib.hid (by unfold low; rw [if_pos h])
    obtain ⟨h1, h2⟩ := h
    go_enter Tryd.func61, Tryd.ntmps61
    go_wp2_with fail
    go_ret
    exact ⟨by rw [F.out]; rfl, rfl⟩
  · have F : Hid (low c = c) := Lib.hid (by unfold low; rw [if_neg h])
    rcases (by omega : c < 65 ∨ (65 ≤ c ∧ 90 < c)) with h1 | ⟨h1, h2⟩
    · clear h
      go_enter Tryd.func61, Tryd.ntmps61
      go_wp2_with fail
      go_ret
      exact ⟨by rw [F.out]; rfl, rfl⟩
    · clear h
      go_enter Tryd.func61, Tryd.ntmps61
      go_wp2_with fail
      go_ret
      exact ⟨by rw [F.out]; rfl, rfl⟩
theorem blank_any (w : World) (c : Nat) (hc : c < 256) : Calls Tryd.prog 35 #[.int .u8 (c : Int)] w fun e w' => e = .returned (.bool (blank c)) ∧ w = w' := by
  by_cases h : c = 32
  · subst h
    go_enter Tryd.func35, Tryd.ntmps35
    go_wp2_with fail
    go_ret
    exact ⟨rfl, rfl⟩
  · by_cases h9 : c = 9
    · subst h9
      go_enter Tryd.func35, Tryd.ntmps35
      go_wp2_with fail
      go_ret
      exact ⟨rfl, rfl⟩
    · have F : Hid (blank c = false) := Lib.hid (by unfold blank; simp [h, h9])
      have q0 : ((c : Int) == 32) = false := int_ne (by omega)
      have q1 : ((c : Int) == 9) = false := int_ne (by omega)
      clear h h9
      go_enter Tryd.func35, Tryd.ntmps35
      go_wp2_with fail
      go_ret
      exact ⟨by rw [F.out]; rfl, rfl⟩

theorem undataB_any (s : ByteArray) (w : World) (hs : s.size ≤ 100000) :
    Calls Tryd.prog 62 #[.string s, .int .i64 0] w fun e w' => e = .returned (.tuple #[.string (strN (readW false (bs s)).1), .bool (decide ((readW false (bs s)).2 = 0))]) ∧ Below w.heap.size w w' := by
  have D := Lib.hid (rdecode_short s w (by omega))
  unfold readW
  simp only [Bool.false_eq_true, if_false]
  obtain ⟨m, hm⟩ : ∃ m, m = decF (bs s) := ⟨_, rfl⟩
  rw [← hm] at D ⊢
  clear hm
  go_enter Tryd.func62, Tryd.ntmps62
  go_wp2_with (go_at_call 84; refine D.out.mono ?_; rintro e w1 ⟨v, rfl, hown, hb1⟩; have OW1 := Lib.hid hown; have B1 := Lib.hid hb1; clear hown hb1; have hcv := own_conv (P := Tryd.prog) 43 9 Tryd.underlying43 Tryd.underlying5 Tryd.underlying9 OW1.out)
  go_ret2
  refine ⟨?_, B1.out⟩
  have : ((m.2.2 : Int) == 0) = decide (m.2.2 = 0) := by
    by_cases h : m.2.2 = 0
    · rw [decide_eq_true h]; exact int_eq (by omega)
    · rw [decide_eq_false h]; exact int_ne (by omega)
  rw [← this]
  rfl
set_option maxHeartbeats 4000000 in
theorem undataQ_any (s : ByteArray) (w : World) (hs : s.size ≤ 100000) :
    Calls Tryd.prog 62 #[.string s, .int .i64 1] w fun e w' => e = .returned (.tuple #[.string (strN (rQres (bs s)).1), .bool (decide ((rQres (bs s)).2 = 0))]) ∧ Below w.heap.size w w' := by
  obtain ⟨i0, hi0, hz0, hz1, hz2⟩ := info_parts info5
  go_enter Tryd.func62, Tryd.ntmps62
  go_wp2_with fail
  go_loopg [9, 10] s.size (fun k v i wr => ∃ (j : Nat) (xs : List Nat), j ≤ s.size ∧ xs.length ≤ j ∧ k = s.size - j ∧ i = .int .i64 (j : Int) ∧ RQ (bs s) j xs ∧ OW w.heap.size xs v wr ∧ Below w.heap.size w wr)
  case atStart => exact ⟨0, [], by omega, by simp, rfl, rfl, RQ.start _, OW.nil _ _, Below.refl _ _⟩
  case round =>
    obtain ⟨j, xs, hj, hxl, rfl, rfl, hrq, hown, hbw⟩ := hrel
    have HR := Lib.hid hrq; have HO := Lib.hid hown; have HB := Lib.hid hbw
    have hsz := hbw.size
    clear hrq hown hbw
    by_cases h : j < s.size
    · have hl : j < (bs s).length := by rw [bs_length]; exact h
      obtain ⟨c, hc⟩ : ∃ c, c = (bs s).getD j 0 := ⟨_, rfl⟩
      have hc2 : c < 256 := by rw [hc]; exact bs_lt' s j
      have x0 := fun w => idx_q s w (j : Int) j rfl h c hc
      have HC := Lib.hid hc; have HL := Lib.hid hl
      clear hc hl
      have C0 := fun w => rself_any w c hc2
      by_cases h95 : c = 95
      · subst h95
        go_wp2_with (at_builtin; refine wpList_append_own _ rfl _ _ _ rfl w.heap.size 5 i0 _ 1 1 Tryd.underlying43 hi0 hz0 hz1 hz2 rfl (by omega) u9 xs.length (xs.map U) rfl (HO.out.alloc _) ⟨wr.heap.size, 0, none⟩ 1 1 [.int .u8 32] rfl rfl (World.news_of_block (cs := #[.int .u8 32]) (t := 5) (fr := (0, 0)) (heap_alloc_new wr _)) (by simp [Value.oneCell']) (by unfold maxLen; omega) (by omega) (by simp; omega) ?_; intro v' w1 hown1 hgrow _)
        have F1 := Lib.hid (OW.app (ys := [32]) rfl rfl hown1)
        have F2 := Lib.hid (below_app HB.out hsz (Nat.le_refl _) HO.out hgrow)
        clear hown1 hgrow
        go_wp2_with fail
        go_roundg (s.size - (j + 1))
        case measure => omega
        case rel => exact ⟨j + 1, xs ++ [32], by omega, by simp; omega, rfl, by go_num, HR.out.blank HL.out HC.out itself95 rfl, F1.out, F2.out⟩
      · have e95 : ((c : Int) == 95) = false := int_ne (by omega)
        cases hi : itself c
        · have C : Hid (∀ w, Calls Tryd.prog 79 #[.int .u8 (c : Int)] w fun e w' => e = .returned (.bool false) ∧ w = w') := fun w => by rw [← hi]; exact rself_any w c hc2
          have HI := Lib.hid hi
          clear hi C0
          by_cases h61 : c = 61
          · subst h61
            by_cases h2 : j + 2 < s.size
            · have d2 : decide ((s.size : Int) ≤ (j : Int) + 2) = false := by simp; omega
              obtain ⟨c1, hc1⟩ : ∃ c, c = (bs s).getD (j + 1) 0 := ⟨_, rfl⟩
              obtain ⟨c3, hc3⟩ : ∃ c, c = (bs s).getD (j + 2) 0 := ⟨_, rfl⟩
              have b1 : c1 < 256 := by rw [hc1]; exact bs_lt' s _
              have b3 : c3 < 256 := by rw [hc3]; exact bs_lt' s _
              obtain ⟨r1, hr1⟩ : ∃ r, hvI c1 = r := ⟨_, rfl⟩
              obtain ⟨r3, hr3⟩ : ∃ r, hvI c3 = r := ⟨_, rfl⟩
              have K1 : Hid (∀ w, Calls Tryd.prog 85 #[.int .u8 (c1 : Int)] w fun e w' => e = .returned (.int .i64 r1) ∧ w = w') := Lib.hid (fun w => by rw [← hr1]; exact digit_any w c1 b1)
              have K3 : Hid (∀ w, Calls Tryd.prog 85 #[.int .u8 (c3 : Int)] w fun e w' => e = .returned (.int .i64 r3) ∧ w = w') := Lib.hid (fun w => by rw [← hr3]; exact digit_any w c3 b3)
              have x1 := fun w => idx_q s w ((j : Int) + 1) (j + 1) (by omega) (by omega) c1 hc1
              have x3 := fun w => idx_q s w ((j : Int) + 2) (j + 2) (by omega) (by omega) c3 hc3
              have HC1 := Lib.hid hc1; have HC3 := Lib.hid hc3; have HR1 := Lib.hid hr1; have HR3 := Lib.hid hr3
              have e2 : (bs s).length = s.size := bs_length s
              have HE := Lib.hid e2
              clear hc1 hc3 hr1 hr3 e2
              cases hv1 : hv c1 with
              | none =>
                have q := HR1.out
                unfold hvI at q
                rw [hv1] at q
                obtain rfl : -1 = r1 := q
                have RN := Lib.hid (rQres_none (HR.out.badhex (by rw [HE.out]; omega) HC.out rfl (.inl (by rw [← HC1.out]; exact hv1))))
                clear hv1
                go_wp2_with (first | (go_at_call 79; refine (C.out _).mono ?_; rintro e w' ⟨rfl, rfl⟩) | (go_at_call 85; refine (K1.out _).mono ?_; rintro e w' ⟨rfl, rfl⟩))
                go_ret2
                exact ⟨by rw [RN.out]; rfl, HB.out⟩
              | some x =>
                have q1 := HR1.out
                unfold hvI at q1
                rw [hv1] at q1
                obtain rfl : (x : Int) = r1 := q1
                have hx16 := hv_lt hv1
                cases hv3 : hv c3 with
                | none =>
                  have q := HR3.out
                  unfold hvI at q
                  rw [hv3] at q
                  obtain rfl : -1 = r3 := q
                  have RN := Lib.hid (rQres_none (HR.out.badhex (by rw [HE.out]; omega) HC.out rfl (.inr (by rw [← HC3.out]; exact hv3))))
                  clear hv1 hv3
                  go_wp2_with (first | (go_at_call 79; refine (C.out _).mono ?_; rintro e w' ⟨rfl, rfl⟩) | (go_at_call 85; ((with_reducible refine (K1.out _).mono ?_); rintro e w' ⟨rfl, rfl⟩)) | (go_at_call 85; ((with_reducible refine (K3.out _).mono ?_); rintro e w' ⟨rfl, rfl⟩)))
                  go_ret2
                  exact ⟨by rw [RN.out]; rfl, HB.out⟩
                | some y =>
                  have q := HR3.out
                  unfold hvI at q
                  rw [hv3] at q
                  obtain rfl : (y : Int) = r3 := q
                  have hy16 := hv_lt hv3
                  have RN := Lib.hid (HR.out.hex (by rw [HE.out]; omega) HC.out rfl (by rw [← HC1.out]; exact hv1) (by rw [← HC3.out]; exact hv3))
                  clear hv1 hv3
                  obtain ⟨z, hz⟩ : ∃ z, z = 16 * x + y := ⟨_, rfl⟩
                  have hz256 : z < 256 := by omega
                  rw [← hz] at RN
                  have HZ := Lib.hid hz
                  go_wp2_with (first | (go_at_call 79; refine (C.out _).mono ?_; rintro e w' ⟨rfl, rfl⟩) | (go_at_call 85; ((with_reducible refine (K1.out _).mono ?_); rintro e w' ⟨rfl, rfl⟩)) | (go_at_call 85; ((with_reducible refine (K3.out _).mono ?_); rintro e w' ⟨rfl, rfl⟩)))
                  have w1 : IntKind.i64.wrap ((j : Int) + 1) = (j : Int) + 1 := IntWalk.i64_in _ (by omega)
                  have w2 : IntKind.i64.wrap ((j : Int) + 2) = (j : Int) + 2 := IntWalk.i64_in _ (by omega)
                  have w3 : IntKind.i64.wrap (16 * (x : Int)) = 16 * (x : Int) := IntWalk.i64_in _ (by omega)
                  have w4 : IntKind.i64.wrap (16 * (x : Int) + (y : Int)) = (z : Int) := (IntWalk.i64_in _ (by omega)).trans (by omega)
                  have w5 : IntKind.u8.wrap (z : Int) = (z : Int) := by unfold IntKind.wrap; simp [IntKind.signed, IntKind.bits]; omega
                  clear hz
                  have HO2 : Hid (OW w.heap.size xs u9 wr.drew) := HO
                  have HB2 : Hid (Below w.heap.size w wr.drew) := Lib.hid HB.out.drew
                  have hsz2 : w.heap.size ≤ wr.drew.heap.size := hsz
                  go_region_held3 (fun w' => True) (trivial) (first | ((refine step_append_lies _ (by rfl) _ _ _ (by rfl) w.heap.size 5 i0 _ 1 1 Tryd.underlying43 hi0 hz0 hz1 hz2 rfl (by omega) u9 xs.length (xs.map U) rfl (HO2.out.alloc _) ⟨wr.drew.heap.size, 0, none⟩ 1 1 [.int .u8 z] rfl rfl (World.news_of_block (cs := #[.int .u8 z]) (t := 5) (fr := (0, 0)) (heap_alloc_new wr.drew _)) (by simp [Value.oneCell']) (by omega) (by unfold maxLen; omega) (by omega) (by simp; omega) _ rfl ?_; intro g cap wq hown1 hgrow hat hlt)) | (go_at_call 85; ((with_reducible refine (K1.out _).mono ?_); rintro e w' ⟨rfl, rfl⟩)) | (go_at_call 85; ((with_reducible refine (K3.out _).mono ?_); rintro e w' ⟨rfl, rfl⟩)))
                  all_goals have F1 := Lib.hid (OW.app (ys := [z]) rfl rfl hown1)
                  all_goals have F2 := Lib.hid (below_app HB2.out hsz2 (Nat.le_refl _) HO2.out hgrow)
                  all_goals clear hown1 hgrow hat hlt w1 w2 w3 w4 w5
                  all_goals go_wp2_with fail
                  all_goals go_roundg (s.size - (j + 3))
                  any_goals (case measure => omega)
                  all_goals exact ⟨j + 3, xs ++ [z], by omega, by simp; omega, rfl, by go_num, RN.out, F1.out, F2.out⟩
            · have d2 : decide ((s.size : Int) ≤ (j : Int) + 2) = true := by simp; omega
              have RN := Lib.hid (rQres_none (HR.out.short HL.out (by rw [bs_length]; omega) HC.out rfl))
              go_wp2_with (go_at_call 79; refine (C.out _).mono ?_; rintro e w' ⟨rfl, rfl⟩)
              go_ret2
              exact ⟨by rw [RN.out]; rfl, HB.out⟩
          · have e61 : ((c : Int) == 61) = false := int_ne (by omega)
            have e61n : ((c : Int) != 61) = true := int_neq (by omega)
            have RN := Lib.hid (rQres_none (HR.out.bad HL.out HC.out HI.out h95 h61))
            go_wp2_with (go_at_call 79; refine (C.out _).mono ?_; rintro e w' ⟨rfl, rfl⟩)
            go_ret2
            exact ⟨by rw [RN.out]; rfl, HB.out⟩
        · have C : Hid (∀ w, Calls Tryd.prog 79 #[.int .u8 (c : Int)] w fun e w' => e = .returned (.bool true) ∧ w = w') := fun w => by rw [← hi]; exact rself_any w c hc2
          have HI := Lib.hid hi
          clear hi C0
          go_wp2_with (first | (go_at_call 79; refine (C.out _).mono ?_; rintro e w' ⟨rfl, rfl⟩) | (at_builtin; refine wpList_append_own _ rfl _ _ _ rfl w.heap.size 5 i0 _ 1 1 Tryd.underlying43 hi0 hz0 hz1 hz2 rfl (by omega) u9 xs.length (xs.map U) rfl (HO.out.alloc _) ⟨wr.heap.size, 0, none⟩ 1 1 [.int .u8 c] rfl rfl (World.news_of_block (cs := #[.int .u8 c]) (t := 5) (fr := (0, 0)) (heap_alloc_new wr _)) (by simp [Value.oneCell']) (by unfold maxLen; omega) (by omega) (by simp; omega) ?_; intro v' w1 hown1 hgrow _))
          have F1 := Lib.hid (OW.app (ys := [c]) rfl rfl hown1)
          have F2 := Lib.hid (below_app HB.out hsz (Nat.le_refl _) HO.out hgrow)
          clear hown1 hgrow
          go_wp2_with fail
          go_roundg (s.size - (j + 1))
          case measure => omega
          case rel => exact ⟨j + 1, xs ++ [c], by omega, by simp; omega, rfl, by go_num, HR.out.self HL.out HC.out HI.out, F1.out, F2.out⟩
    · have RN := Lib.hid (rQres_some (HR.out.done (by rw [bs_length]; omega)))
      have hcv2 := own_conv (P := Tryd.prog) 43 9 Tryd.underlying43 Tryd.underlying5 Tryd.underlying9 HO.out
      go_wp2_with fail
      go_ret2
      exact ⟨by rw [RN.out]; rfl, HB.out⟩
end Go.Proofs.YtbgggeobpiaamaaDoor
