/- The reference's hexadecimal texts: Author, Text, Digits (printed by gen_rhex.py). -/
import Derived.Test.YtohmdledkhgdaaaGreatDoorCi33
namespace Go.Proofs.YtohmdledkhgdaaaGreatDoor
open Go.RowKit
set_option linter.unusedVariables false
set_option maxRecDepth 100000

theorem hexS_ext (x : Nat) (h : x < 16) : (⟨#[48, 49, 50, 51, 52, 53, 54, 55, 56, 57, 97, 98, 99, 100, 101, 102]⟩ : ByteArray).extract x (x + 1) = strN [hxl x] := by
  have : ∀ x : Fin 16, (⟨#[48, 49, 50, 51, 52, 53, 54, 55, 56, 57, 97, 98, 99, 100, 101, 102]⟩ : ByteArray).extract x.val (x.val + 1) = strN [hxl x.val] := by decide +kernel
  exact this ⟨x, h⟩
theorem sN_app (l m : List Nat) : strN (l ++ m) = strN l ++ strN m := by
  unfold strN
  apply ByteArray.ext
  simp [ByteArray.data_append]
set_option maxHeartbeats 2000000 in
theorem rauthor_any (w : World) {l : List Nat} (hl : B16 l) :
    Calls Tryz.prog 32 #[.agg (idA l)] w fun e w' => e = .returned (.string (strN (hexF l))) ∧ Below w.heap.size w w' := by
  obtain ⟨w0, hw0⟩ : ∃ w0, w0 = w.alloc (.cells (idA l) 22) := ⟨_, rfl⟩
  have B0 : Hid (Below w.heap.size w w0) := Lib.hid (by rw [hw0]; exact (Below.refl _ _).alloc (Nat.le_refl _) _)
  have I0 : Hid (IB w0 w.heap.size 22 l) := Lib.hid (by unfold IB; rw [hw0]; exact heap_alloc_last w _)
  have HL := Lib.hid hl
  obtain ⟨cs, hcs⟩ : ∃ cs, cs = idA l := ⟨_, rfl⟩
  rw [← hcs] at hw0 ⊢
  have HW := Lib.hid hw0
  have HP : Hid (hexF (l.take 0) = []) := Lib.hid rfl
  clear hw0 hcs hl
  go_enter Tryz.func32, Tryz.ntmps32
  go_upto_region 1 with fail
  rw [← HW.out]
  clear HW
  go_wp2_with fail
  go_loopg [4, 5] 16 (fun k s i wr => ∃ j : Nat, j ≤ 16 ∧ k = 16 - j ∧ i = .int .i64 (j : Int) ∧ s = .string (strN (hexF (l.take j))) ∧ Hid (Dr w0 wr))
  case atStart => exact ⟨0, by omega, rfl, rfl, rfl, Lib.hid (Dr.refl _)⟩
  case round =>
    obtain ⟨j, hj, rfl, rfl, rfl, hdr⟩ := hrel
    by_cases hlt : j < 16
    · have hjl : j < l.length := by rw [HL.out.len]; exact hlt
      obtain ⟨c, hc⟩ : ∃ c, c = l.getD j 0 := ⟨_, rfl⟩
      have hc2 : c < 256 := by rw [hc, List.getD_eq_getElem?_getD, List.getElem?_eq_getElem hjl, Option.getD_some]; exact HL.out.lt _ (List.getElem_mem hjl)
      have hst := hexF_take_succ hjl hc
      have cc : wr.cell? ⟨w.heap.size, j, none⟩ = some (.int .u8 (c : Int)) := by rw [hc]; exact (I0.out.below (Dr.below hdr.out)).cell hjl
      obtain ⟨x, hx⟩ : ∃ x, x = c / 16 := ⟨_, rfl⟩
      obtain ⟨y, hy⟩ : ∃ y, y = c % 16 := ⟨_, rfl⟩
      rw [← hx, ← hy] at hst
      have hx2 : x < 16 := by omega
      have hy2 : y < 16 := by omega
      obtain ⟨s, hs⟩ : ∃ s, s = strN (hexF (l.take j)) := ⟨_, rfl⟩
      have ST : Hid (s ++ strN [hxl x] ++ strN [hxl y] = strN (hexF (l.take (j + 1)))) := Lib.hid (by
        rw [hs, hst, ← sN_app, ← sN_app]; simp)
      have ST2 : Hid (s ++ (strN [hxl x] ++ strN [hxl y]) = strN (hexF (l.take (j + 1)))) := Lib.hid (by
        rw [hs, hst, ← sN_app, ← sN_app]; simp)
      have zs : s.size ≤ 65 := by rw [hs, strN_size]; simp [hexF_len]; omega
      have e1 : (c : Int) / 16 = (x : Int) := by omega
      have e2 : (c : Int) % 16 = (y : Int) := by omega
      have e2t : (c : Int).tmod 16 = (y : Int) := by rw [Int.tmod_eq_emod_of_nonneg (by omega)]; omega
      have e1t : (c : Int).tdiv 16 = (x : Int) := by rw [Int.tdiv_eq_ediv_of_nonneg (by omega)]; omega
      have x1 := hexS_ext x hx2
      have y1 := hexS_ext y hy2
      have hx3 : (x : Int) < 16 := by omega
      have hy3 : (y : Int) < 16 := by omega
      have zx : (strN [hxl x]).size = 1 := rfl
      have zy : (strN [hxl y]).size = 1 := rfl
      have zsx : (s ++ strN [hxl x]).size ≤ 66 := by rw [ByteArray.size_append]; omega
      have zxy : (strN [hxl x] ++ strN [hxl y]).size ≤ 2 := by rw [ByteArray.size_append]; omega
      rw [← hs]
      clear hs hst hx hy hc hjl
      go_upto_region 6 with fail
      go_quiet (fail)
      first | rw [ST.out] | rw [ST2.out]
      go_wp2_with fail
      go_roundg (16 - (j + 1))
      case measure => omega
      case rel => exact ⟨j + 1, by omega, rfl, by go_num, rfl, Lib.hid (dr_tr hdr.out ⟨nq, rfl⟩)⟩
    · have hall : l.take j = l := List.take_of_length_le (by rw [HL.out.len]; omega)
      rw [hall]
      obtain ⟨s, hs⟩ : ∃ s, s = strN (hexF l) := ⟨_, rfl⟩
      have HS := Lib.hid hs
      have zs : s.size ≤ 65 := by rw [hs, strN_size]; simp [hexF_len, HL.out.len]
      rw [← hs]
      clear hs hall
      go_wp2_with fail
      go_ret
      exact ⟨by rw [HS.out]; rfl, B0.out.trans ((Dr.below hdr.out).mono B0.out.size)⟩
set_option maxHeartbeats 2000000 in
theorem rtext_any (w : World) {l : List Nat} (hl : IdOk l) :
    Calls Tryz.prog 75 #[.agg (idA l)] w fun e w' => e = .returned (.string (strN (midF l))) ∧ Below w.heap.size w w' := by
  obtain ⟨w0, hw0⟩ : ∃ w0, w0 = w.alloc (.cells (idA l) 120) := ⟨_, rfl⟩
  have B0 : Hid (Below w.heap.size w w0) := Lib.hid (by rw [hw0]; exact (Below.refl _ _).alloc (Nat.le_refl _) _)
  have I0 : Hid (IB w0 w.heap.size 120 l) := Lib.hid (by unfold IB; rw [hw0]; exact heap_alloc_last w _)
  have HL := Lib.hid hl
  obtain ⟨cs, hcs⟩ : ∃ cs, cs = idA l := ⟨_, rfl⟩
  rw [← hcs] at hw0 ⊢
  have HW := Lib.hid hw0
  have HP : Hid (hexF (l.take 0) = []) := Lib.hid rfl
  clear hw0 hcs hl
  go_enter Tryz.func75, Tryz.ntmps75
  go_upto_region 1 with fail
  rw [← HW.out]
  clear HW
  go_wp2_with fail
  go_loopg [4, 5] 32 (fun k s i wr => ∃ j : Nat, j ≤ 32 ∧ k = 32 - j ∧ i = .int .i64 (j : Int) ∧ s = .string (strN (60 :: hexF (l.take j))) ∧ Hid (Dr w0 wr))
  case atStart => exact ⟨0, by omega, rfl, rfl, rfl, Lib.hid (Dr.refl _)⟩
  case round =>
    obtain ⟨j, hj, rfl, rfl, rfl, hdr⟩ := hrel
    by_cases hlt : j < 32
    · have hjl : j < l.length := by rw [HL.out.len]; exact hlt
      obtain ⟨c, hc⟩ : ∃ c, c = l.getD j 0 := ⟨_, rfl⟩
      have hc2 : c < 256 := by rw [hc, List.getD_eq_getElem?_getD, List.getElem?_eq_getElem hjl, Option.getD_some]; exact HL.out.lt _ (List.getElem_mem hjl)
      have hst := hexF_take_succ hjl hc
      have cc : wr.cell? ⟨w.heap.size, j, none⟩ = some (.int .u8 (c : Int)) := by rw [hc]; exact (I0.out.below (Dr.below hdr.out)).cell hjl
      obtain ⟨x, hx⟩ : ∃ x, x = c / 16 := ⟨_, rfl⟩
      obtain ⟨y, hy⟩ : ∃ y, y = c % 16 := ⟨_, rfl⟩
      rw [← hx, ← hy] at hst
      have hx2 : x < 16 := by omega
      have hy2 : y < 16 := by omega
      obtain ⟨s, hs⟩ : ∃ s, s = strN (60 :: hexF (l.take j)) := ⟨_, rfl⟩
      have ST : Hid (s ++ strN [hxl x] ++ strN [hxl y] = strN (60 :: hexF (l.take (j + 1)))) := Lib.hid (by
        rw [hs, hst, ← sN_app, ← sN_app]; simp)
      have ST2 : Hid (s ++ (strN [hxl x] ++ strN [hxl y]) = strN (60 :: hexF (l.take (j + 1)))) := Lib.hid (by
        rw [hs, hst, ← sN_app, ← sN_app]; simp)
      have zs : s.size ≤ 65 := by rw [hs, strN_size]; simp [hexF_len]; omega
      have e1 : (c : Int) / 16 = (x : Int) := by omega
      have e2 : (c : Int) % 16 = (y : Int) := by omega
      have e2t : (c : Int).tmod 16 = (y : Int) := by rw [Int.tmod_eq_emod_of_nonneg (by omega)]; omega
      have e1t : (c : Int).tdiv 16 = (x : Int) := by rw [Int.tdiv_eq_ediv_of_nonneg (by omega)]; omega
      have x1 := hexS_ext x hx2
      have y1 := hexS_ext y hy2
      have hx3 : (x : Int) < 16 := by omega
      have hy3 : (y : Int) < 16 := by omega
      have zx : (strN [hxl x]).size = 1 := rfl
      have zy : (strN [hxl y]).size = 1 := rfl
      have zsx : (s ++ strN [hxl x]).size ≤ 66 := by rw [ByteArray.size_append]; omega
      have zxy : (strN [hxl x] ++ strN [hxl y]).size ≤ 2 := by rw [ByteArray.size_append]; omega
      rw [← hs]
      clear hs hst hx hy hc hjl
      go_upto_region 6 with fail
      go_quiet (fail)
      first | rw [ST.out] | rw [ST2.out]
      go_wp2_with fail
      go_roundg (32 - (j + 1))
      case measure => omega
      case rel => exact ⟨j + 1, by omega, rfl, by go_num, rfl, Lib.hid (dr_tr hdr.out ⟨nq, rfl⟩)⟩
    · have hall : l.take j = l := List.take_of_length_le (by rw [HL.out.len]; omega)
      rw [hall]
      obtain ⟨s, hs⟩ : ∃ s, s = strN (60 :: hexF l) := ⟨_, rfl⟩
      have HS := Lib.hid hs
      have zs : s.size ≤ 65 := by rw [hs, strN_size]; simp [hexF_len, HL.out.len]
      rw [← hs]
      clear hs hall
      go_wp2_with fail
      go_ret
      exact ⟨by show _ = Ending.returned (Value.string (strN (60 :: hexF l ++ sHash))); rw [HS.out, sN_app]; rfl, B0.out.trans ((Dr.below hdr.out).mono B0.out.size)⟩
set_option maxHeartbeats 2000000 in
theorem rdig_any (w : World) {l : List Nat} (hl : IdOk l) :
    Calls Tryz.prog 125 #[.agg (idA l)] w fun e w' => e = .returned (.string (strN (hexF l))) ∧ Below w.heap.size w w' := by
  obtain ⟨w0, hw0⟩ : ∃ w0, w0 = w.alloc (.cells (idA l) 124) := ⟨_, rfl⟩
  have B0 : Hid (Below w.heap.size w w0) := Lib.hid (by rw [hw0]; exact (Below.refl _ _).alloc (Nat.le_refl _) _)
  have I0 : Hid (IB w0 w.heap.size 124 l) := Lib.hid (by unfold IB; rw [hw0]; exact heap_alloc_last w _)
  have HL := Lib.hid hl
  obtain ⟨cs, hcs⟩ : ∃ cs, cs = idA l := ⟨_, rfl⟩
  rw [← hcs] at hw0 ⊢
  have HW := Lib.hid hw0
  have HP : Hid (hexF (l.take 0) = []) := Lib.hid rfl
  clear hw0 hcs hl
  go_enter Tryz.func125, Tryz.ntmps125
  go_upto_region 1 with fail
  rw [← HW.out]
  clear HW
  go_wp2_with fail
  go_loopg [3, 4, 5, 6] 32 (fun k s i v5 v6 wr => ∃ j : Nat, j ≤ 32 ∧ k = 32 - j ∧ i = .int .i64 (j : Int) ∧ s = .string (strN (hexF (l.take j))) ∧ Hid (Dr w0 wr))
  case atStart => exact ⟨0, by omega, rfl, rfl, rfl, Lib.hid (Dr.refl _)⟩
  case round =>
    obtain ⟨j, hj, rfl, rfl, rfl, hdr⟩ := hrel
    by_cases hlt : j < 32
    · have hjl : j < l.length := by rw [HL.out.len]; exact hlt
      obtain ⟨c, hc⟩ : ∃ c, c = l.getD j 0 := ⟨_, rfl⟩
      have hc2 : c < 256 := by rw [hc, List.getD_eq_getElem?_getD, List.getElem?_eq_getElem hjl, Option.getD_some]; exact HL.out.lt _ (List.getElem_mem hjl)
      have hst := hexF_take_succ hjl hc
      have cc : wr.cell? ⟨w.heap.size, j, none⟩ = some (.int .u8 (c : Int)) := by rw [hc]; exact (I0.out.below (Dr.below hdr.out)).cell hjl
      obtain ⟨x, hx⟩ : ∃ x, x = c / 16 := ⟨_, rfl⟩
      obtain ⟨y, hy⟩ : ∃ y, y = c % 16 := ⟨_, rfl⟩
      rw [← hx, ← hy] at hst
      have hx2 : x < 16 := by omega
      have hy2 : y < 16 := by omega
      obtain ⟨s, hs⟩ : ∃ s, s = strN (hexF (l.take j)) := ⟨_, rfl⟩
      have ST : Hid (s ++ strN [hxl x] ++ strN [hxl y] = strN (hexF (l.take (j + 1)))) := Lib.hid (by
        rw [hs, hst, ← sN_app, ← sN_app]; simp)
      have ST2 : Hid (s ++ (strN [hxl x] ++ strN [hxl y]) = strN (hexF (l.take (j + 1)))) := Lib.hid (by
        rw [hs, hst, ← sN_app, ← sN_app]; simp)
      have zs : s.size ≤ 65 := by rw [hs, strN_size]; simp [hexF_len]; omega
      have e1 : (c : Int) / 16 = (x : Int) := by omega
      have e2 : (c : Int) % 16 = (y : Int) := by omega
      have e2t : (c : Int).tmod 16 = (y : Int) := by rw [Int.tmod_eq_emod_of_nonneg (by omega)]; omega
      have e1t : (c : Int).tdiv 16 = (x : Int) := by rw [Int.tdiv_eq_ediv_of_nonneg (by omega)]; omega
      have x1 := hexS_ext x hx2
      have y1 := hexS_ext y hy2
      have hx3 : (x : Int) < 16 := by omega
      have hy3 : (y : Int) < 16 := by omega
      have zx : (strN [hxl x]).size = 1 := rfl
      have zy : (strN [hxl y]).size = 1 := rfl
      have zsx : (s ++ strN [hxl x]).size ≤ 66 := by rw [ByteArray.size_append]; omega
      have zxy : (strN [hxl x] ++ strN [hxl y]).size ≤ 2 := by rw [ByteArray.size_append]; omega
      rw [← hs]
      clear hs hst hx hy hc hjl
      go_upto_region 5 with fail
      go_quiet (fail)
      obtain ⟨wk, hwk⟩ : ∃ wk, wk = wr.drewN nq := ⟨_, rfl⟩
      have DK : Hid (Dr w0 wk) := Lib.hid (dr_tr hdr.out ⟨nq, hwk⟩)
      rw [← hwk]
      clear hwk hdr cc
      have hdr := DK
      go_upto_region 6 with fail
      go_quiet (fail)
      first | rw [ST.out] | rw [ST2.out]
      go_wp2_with fail
      go_roundg (32 - (j + 1))
      case measure => omega
      case rel => exact ⟨j + 1, by omega, rfl, by go_num, rfl, Lib.hid (dr_tr hdr.out ⟨nq, rfl⟩)⟩
    · have hall : l.take j = l := List.take_of_length_le (by rw [HL.out.len]; omega)
      rw [hall]
      obtain ⟨s, hs⟩ : ∃ s, s = strN (hexF l) := ⟨_, rfl⟩
      have HS := Lib.hid hs
      have zs : s.size ≤ 65 := by rw [hs, strN_size]; simp [hexF_len, HL.out.len]
      rw [← hs]
      clear hs hall
      go_wp2_with fail
      go_ret
      exact ⟨by rw [HS.out]; rfl, B0.out.trans ((Dr.below hdr.out).mono B0.out.size)⟩
set_option maxHeartbeats 1000000 in
theorem rmid_any (w : World) {l : List Nat} (hl : IdOk l) :
    Calls Tryz.prog 77 #[.agg (idA l)] w fun e w' => e = .returned (.string (strN (midF l))) ∧ Below w.heap.size w w' := by
  obtain ⟨cs, hcs⟩ : ∃ cs, cs = idA l := ⟨_, rfl⟩
  have D := Lib.hid (rdig_any (w.alloc (.cells cs 124)) hl)
  have B0 : Hid (Below w.heap.size w (w.alloc (.cells cs 124))) := Lib.hid ((Below.refl _ _).alloc (Nat.le_refl _) _)
  have LD := Lib.hid (run_loadVar_row (P := Tryz.prog) (w.alloc (.cells cs 124)) w.heap.size _ 124 cs _ _ (heap_alloc_last w _) Tryz.underlying124 rfl (by rw [hcs, idA_size, hl.len]; kernel_rfl))
  rw [← hcs] at D ⊢
  obtain ⟨t, ht⟩ : ∃ t, t = strN (hexF l) := ⟨_, rfl⟩
  rw [← ht] at D
  have HT := Lib.hid ht
  have z1 : t.size ≤ 64 := by rw [ht, strN_size, hexF_len, hl.len]; exact Nat.le_refl _
  have z2 : ((⟨#[60]⟩ : ByteArray) ++ t).size ≤ 65 := by rw [ByteArray.size_append]; show 1 + t.size ≤ _; omega
  clear ht hcs hl
  go_enter Tryz.func77, Tryz.ntmps77
  go_wp2_with ((with_reducible refine wpList_load 124 rfl _ rfl ?_); refine ⟨_, _, rfl, LD.out, ?_⟩)
  refine D.out.mono ?_
  rintro e w1 ⟨rfl, hb⟩
  have B1 := Lib.hid (B0.out.trans (hb.mono B0.out.size))
  clear hb D LD
  go_wp2_with fail
  go_ret
  exact ⟨by show _ = Ending.returned (Value.string (strN (60 :: hexF l ++ sHash))); rw [sN_app, show (60 :: hexF l) = [60] ++ hexF l from rfl, sN_app, ← HT.out]; rfl, B1.out⟩
set_option maxHeartbeats 1000000 in
theorem rmsg_any (w : World) {l : List Nat} (hl : IdOk l) :
    Calls Tryz.prog 35 #[.agg (idA l)] w fun e w' => e = .returned (.string (strN (optF l))) ∧ Below w.heap.size w w' := by
  obtain ⟨cs, hcs⟩ : ∃ cs, cs = idA l := ⟨_, rfl⟩
  obtain ⟨zs, hzs⟩ : ∃ zs, zs = idA zero32 := ⟨_, rfl⟩
  have zok : IdOk zero32 := ⟨by simp [zero32], fun x hx => by simp [zero32] at hx; omega⟩
  have BZ : Hid (∀ w, (Instr.build 26 #[]).run Tryz.prog w = .ok (.agg zs) w) := Lib.hid (fun w => by rw [hzs]; kernel_rfl)
  have EQ : Hid (∀ w, (Op.equal 26 (.agg cs) (.agg zs)).run Tryz.prog w = .ok (decide (l = zero32)) w) := Lib.hid (fun w => by rw [hcs, hzs]; exact eq_id w hl zok)
  have P := Lib.hid (rmid_any (w.alloc (.cells cs 26)) hl)
  have B0 : Hid (Below w.heap.size w (w.alloc (.cells cs 26))) := Lib.hid ((Below.refl _ _).alloc (Nat.le_refl _) _)
  have LD := Lib.hid (run_loadVar_row (P := Tryz.prog) (w.alloc (.cells cs 26)) w.heap.size _ 26 cs _ _ (heap_alloc_last w _) Tryz.underlying26 rfl (by rw [hcs, idA_size, hl.len]; exact size23))
  rw [← hcs] at P ⊢
  obtain ⟨q, hq⟩ : ∃ q, q = decide (l = zero32) := ⟨_, rfl⟩
  rw [← hq] at EQ
  have HQ := Lib.hid hq
  have OPT : Hid (optF l = if l = zero32 then [] else midF l) := Lib.hid rfl
  clear hcs hzs hl hq
  cases q
  · have O2 : Hid (optF l = midF l) := Lib.hid (by rw [OPT.out, if_neg (of_decide_eq_false HQ.out.symm)])
    go_enter Tryz.func35, Tryz.ntmps35
    go_wp2_with (first
      | ((with_reducible refine wpList_load 26 rfl _ rfl ?_); refine ⟨_, _, rfl, LD.out, ?_⟩)
      | ((with_reducible refine wpList_build0 26 rfl rfl ?_); refine ⟨_, BZ.out _, ?_⟩)
      | ((with_reducible refine wpList_eql 26 rfl _ _ rfl guard23 ?_); refine ⟨_, _, _, rfl, rfl, EQ.out _, ?_⟩))
    refine P.out.mono ?_
    rintro e w1 ⟨rfl, hb⟩
    have B1 := Lib.hid (B0.out.trans (hb.mono B0.out.size))
    clear hb P LD
    go_wp2_with fail
    go_ret
    exact ⟨by rw [O2.out]; rfl, B1.out⟩
  · have O2 : Hid (optF l = []) := Lib.hid (by rw [OPT.out, if_pos (of_decide_eq_true HQ.out.symm)])
    go_enter Tryz.func35, Tryz.ntmps35
    go_wp2_with (first
      | ((with_reducible refine wpList_load 26 rfl _ rfl ?_); refine ⟨_, _, rfl, LD.out, ?_⟩)
      | ((with_reducible refine wpList_build0 26 rfl rfl ?_); refine ⟨_, BZ.out _, ?_⟩)
      | ((with_reducible refine wpList_eql 26 rfl _ _ rfl guard23 ?_); refine ⟨_, _, _, rfl, rfl, EQ.out _, ?_⟩))
    go_ret
    exact ⟨by rw [O2.out]; rfl, B0.out⟩
end Go.Proofs.YtohmdledkhgdaaaGreatDoor
/- bulletinref12.Text: texts joined. -/
namespace Go.Proofs.YtohmdledkhgdaaaGreatDoor
open Go.RowKit
set_option linter.unusedVariables false
set_option maxRecDepth 100000

theorem join_snoc (c : List Nat) (x : List Nat) : ∀ l : List (List Nat), joinF c (l ++ [x]) = if l = [] then x else joinF c l ++ c ++ x
  | [] => rfl
  | [y] => by simp [joinF]
  | y :: z :: r => by
    have ih := join_snoc c x (z :: r)
    rw [if_neg (by simp)] at ih
    rw [if_neg (by simp)]
    show y ++ c ++ joinF c ((z :: r) ++ [x]) = _
    rw [ih]
    simp [joinF]
theorem join_pre (c : Nat) : ∀ (l : List (List Nat)) (j : Nat), (joinF [c] (l.take j)).length ≤ (joinF [c] l).length
  | [], _ => by simp
  | [y], j => by cases j <;> simp [joinF]
  | y :: z :: r, 0 => by simp [joinF]
  | y :: z :: r, 1 => by simp [joinF]
  | y :: z :: r, j + 2 => by
    have ih := join_pre c (z :: r) (j + 1)
    show (y ++ [c] ++ joinF [c] ((z :: r).take (j + 1))).length ≤ (y ++ [c] ++ joinF [c] (z :: r)).length
    simp only [List.length_append] at ih ⊢
    omega
/-- The texts joined, as a text. -/
def joinS (c : Nat) (gs : List ByteArray) : ByteArray := strN (joinF [c] (gs.map bs))
theorem joinS_snoc (c : Nat) (gs : List ByteArray) (g : ByteArray) : joinS c (gs ++ [g]) = if gs = [] then g else joinS c gs ++ strN [c] ++ g := by
  unfold joinS
  rw [List.map_append, List.map_cons, List.map_nil, join_snoc]
  by_cases h : gs = []
  · rw [if_pos h, if_pos (by rw [h]; rfl), strN_bs]
  · rw [if_neg h, if_neg (by simpa using h), sN_app, sN_app, strN_bs]
theorem joinS_pre (c : Nat) (gs : List ByteArray) (j : Nat) : (joinS c (gs.take j)).size ≤ (joinS c gs).size := by
  unfold joinS
  rw [strN_size, strN_size, List.map_take]
  exact join_pre c _ j
set_option maxHeartbeats 2000000 in
theorem rjoin_any (w : World) (v : Value) (gs : List ByteArray) (c : Nat) (hr : SRow w v gs) (hn : gs.length ≤ 1000000) (hl : (joinS c gs).size ≤ 100000000) :
    Calls Tryz.prog 34 #[v, .string (strN [c])] w fun e w' => e = .returned (.string (joinS c gs)) ∧ w = w' := by
  obtain ⟨a, cap, rfl, hc, r⟩ := hr
  obtain ⟨n, hnn⟩ : ∃ n, n = gs.length := ⟨_, rfl⟩
  have HN := Lib.hid hnn; have R := Lib.hid r; have HL := Lib.hid hl
  rw [← hnn] at hn ⊢
  obtain ⟨sp, hsp⟩ : ∃ s, s = strN [c] := ⟨_, rfl⟩
  have zsp : sp.size = 1 := by rw [hsp]; rfl
  have HSP := Lib.hid hsp
  rw [← hsp]
  clear hnn r hc hsp hl
  go_enter Tryz.func34, Tryz.ntmps34
  go_wp2_with fail
  go_loopg [5, 6] n (fun k s i wr => ∃ (j : Nat) (t : ByteArray), j ≤ n ∧ k = n - j ∧ i = .int .i64 (j : Int) ∧ s = .string t ∧ Hid (t = joinS c (gs.take j)) ∧ w = wr)
  case atStart => exact ⟨0, ⟨#[]⟩, by omega, rfl, rfl, rfl, Lib.hid rfl, rfl⟩
  case round =>
    obtain ⟨j, t, hj, rfl, rfl, rfl, ht, rfl⟩ := hrel
    by_cases hlt : j < n
    · have hl : j < gs.length := by rw [← HN.out]; exact hlt
      obtain ⟨b, off, rfl, _, hcell⟩ := R.out (fun e => by rw [e] at hl; simp at hl)
      obtain ⟨g, hg⟩ : ∃ g, g = gs[j] := ⟨_, rfl⟩
      have k1 : w.cell? ⟨b, off + j, none⟩ = some (.string g) := by rw [hg]; exact hcell j hl
      have p1 := joinS_pre c gs (j + 1)
      have sn := joinS_snoc c (gs.take j) gs[j]
      rw [← List.take_succ_eq_append_getElem hl, ← hg, ← ht.out, ← HSP.out] at sn
      have zt : t.size ≤ 100000000 := by rw [ht.out]; exact Nat.le_trans (joinS_pre c gs j) HL.out
      have z0 : (joinS c (gs.take (j + 1))).size ≤ 100000000 := Nat.le_trans p1 HL.out
      by_cases h0 : j = 0
      · subst h0
        have k0 : w.cell? ⟨b, off, none⟩ = some (.string g) := k1
        have N : Hid (t ++ g = joinS c (gs.take (0 + 1))) := Lib.hid (by
          rw [sn, if_pos (by simp), ht.out]
          apply ByteArray.ext
          simp [joinS, joinF, strN])
        have zg : g.size ≤ 100000000 := by rw [sn, if_pos (by simp)] at z0; exact z0
        have zz : (t ++ g).size ≤ 100000000 := by rw [N.out]; exact Nat.le_trans p1 HL.out
        clear sn p1 hg hcell hl z0 ht
        go_wp2_with fail
        go_roundg (n - (0 + 1))
        case measure => omega
        case rel => exact ⟨1, t ++ g, by omega, rfl, by go_num, rfl, N, rfl⟩
      · have hne : gs.take j ≠ [] := fun e => by
          have h2 : (gs.take j).length = 0 := by rw [e]; rfl
          rw [List.length_take] at h2
          omega
        rw [if_neg hne] at sn
        have N : Hid (t ++ sp ++ g = joinS c (gs.take (j + 1))) := Lib.hid sn.symm
        have z1 : (t ++ sp).size ≤ 100000001 := by rw [ByteArray.size_append]; omega
        have z2 : (t ++ sp ++ g).size ≤ 100000000 := by rw [N.out]; exact z0
        have zg : g.size ≤ 100000000 := by rw [ByteArray.size_append] at z2; omega
        have hp : (0 : Int) < (j : Int) := by omega
        clear sn p1 hg hcell hl z0 ht hne
        go_wp2_with fail
        go_roundg (n - (j + 1))
        case measure => omega
        case rel => exact ⟨j + 1, t ++ sp ++ g, by omega, rfl, by go_num, rfl, N, rfl⟩
    · obtain rfl : j = n := by omega
      have N : Hid (t = joinS c gs) := Lib.hid (by rw [ht.out, List.take_of_length_le (by rw [HN.out]; exact Nat.le_refl _)])
      clear ht
      go_wp2_with fail
      go_ret
      exact ⟨by rw [← N.out]; rfl, rfl⟩
end Go.Proofs.YtohmdledkhgdaaaGreatDoor
/- bulletinref01.plain, Digits (printed by gen_rdigits.py). -/
namespace Go.Proofs.YtohmdledkhgdaaaGreatDoor
open Go.RowKit
set_option linter.unusedVariables false
set_option maxRecDepth 100000

theorem exec_bs1 {P : Program} {o : Oper} {a : Act} (w : World) {t e : TypeId} {x : Operand} {v : Value} (ho : o.op = .buildSlice t 1 #[(0, x)]) (hx : a.eval x = v) (h : (Instr.buildSlice t 1 #[(0, v)]).run P w = .ok (.slice (some ⟨w.heap.size, 0, none⟩) 1 1) (w.alloc (.cells #[v] e))) : (execOp a.eval o).run P w = .ok (.value (.slice (some ⟨w.heap.size, 0, none⟩) 1 1)) (w.alloc (.cells #[v] e)) := by
  unfold execOp
  rw [ho]
  simp only [List.map_toArray, List.map_cons, List.map_nil, hx]
  rw [Sem.run_bind, h]
  rfl
theorem bs1_u (w : World) (n : Int) : (Instr.buildSlice 62 1 #[(0, .int .u8 n)]).run Tryz.prog w = .ok (.slice (some ⟨w.heap.size, 0, none⟩) 1 1) (w.alloc (.cells #[.int .u8 n] 5)) := by kernel_rfl
theorem conv1 (w : World) (g d : Nat) (hd : d < 256) (h : w.heap[g]? = some (.cells #[.int .u8 (d : Int)] 5 (0, 0))) : (convert 62 9 (.slice (some ⟨g, 0, none⟩) 1 1)).run Tryz.prog w = .ok (.string (strN [d])) w := by
  have := run_convert_bytes_back (P := Tryz.prog) w 62 9 5 ⟨g, 0, none⟩ 1 [UInt8.ofNat d] Tryz.underlying62 Tryz.underlying5 Tryz.underlying9 (fun j hj => by
    obtain rfl : j = 0 := by simpa using hj
    show w.cell? ((⟨g, 0, none⟩ : Addr).add 0) = _
    rw [Addr.add_mid, cell_of_row w g (0 + 0) _ _ _ h]
    simp [Nat.mod_eq_of_lt hd])
  exact this
set_option maxHeartbeats 4000000 in
theorem plain_any : ∀ (k u : Nat) (hu : u < 10 ^ (k + 1)) (h64 : u < 18446744073709551616) (hk : k ≤ 30) (w : World),
    Calls Tryz.prog 76 #[.int .u64 (u : Int)] w fun e w' => e = .returned (.string (strN (digN k u))) ∧ Below w.heap.size w w' := by
  intro k
  induction k with
  | zero =>
    intro u hu h64 hk w
    have h10 : (u : Int) < 10 := by omega
    obtain ⟨d, hd⟩ : ∃ d, d = 48 + u := ⟨_, rfl⟩
    have hd2 : d < 256 := by omega
    have e1 : (48 : Int) + (u : Int) = (d : Int) := by omega
    have RES : Hid (strN (digN 0 u) = strN [d]) := Lib.hid (by show strN [48 + u % 10] = _; rw [hd, Nat.mod_eq_of_lt (by omega)])
    have HD2 := Lib.hid hd2
    clear hd hu
    go_enter Tryz.func76, Tryz.ntmps76
    go_wp2_with (first
      | ((with_reducible refine wpList_conv 62 9 rfl _ rfl ?_); refine ⟨_, _, _, rfl, conv1 (w.alloc (.cells #[.int .u8 (d : Int)] 5)) w.heap.size d HD2.out (heap_alloc_last w _), ?_⟩))
    go_ret
    exact ⟨by rw [RES.out]; rfl, (Below.refl _ _).alloc (Nat.le_refl _) _⟩
  | succ k ih =>
    intro u hu h64 hk w
    by_cases h10' : u < 10
    · have h10 : (u : Int) < 10 := by omega
      obtain ⟨d, hd⟩ : ∃ d, d = 48 + u := ⟨_, rfl⟩
      have hd2 : d < 256 := by omega
      have e1 : (48 : Int) + (u : Int) = (d : Int) := by omega
      have RES : Hid (strN (digN (k + 1) u) = strN [d]) := Lib.hid (by unfold digN; rw [if_pos h10', hd])
      have HD2 := Lib.hid hd2
      clear hd hu ih
      go_enter Tryz.func76, Tryz.ntmps76
      go_wp2_with (first
        | ((with_reducible refine wpList_conv 62 9 rfl _ rfl ?_); refine ⟨_, _, _, rfl, conv1 (w.alloc (.cells #[.int .u8 (d : Int)] 5)) w.heap.size d HD2.out (heap_alloc_last w _), ?_⟩))
      go_ret
      exact ⟨by rw [RES.out]; rfl, (Below.refl _ _).alloc (Nat.le_refl _) _⟩
    · have h10 : ¬ ((u : Int) < 10) := by omega
      obtain ⟨q, hq⟩ : ∃ q, q = u / 10 := ⟨_, rfl⟩
      obtain ⟨r, hr⟩ : ∃ r, r = u % 10 := ⟨_, rfl⟩
      obtain ⟨d, hd⟩ : ∃ d, d = 48 + r := ⟨_, rfl⟩
      have hd2 : d < 256 := by omega
      have C : Hid (∀ wx : World, Calls Tryz.prog 76 #[.int .u64 (q : Int)] wx fun e w' => e = .returned (.string (strN (digN k q))) ∧ Below wx.heap.size wx w') := Lib.hid (fun wx => ih q (by rw [hq]; rw [Nat.pow_succ] at hu; omega) (by omega) (by omega) wx)
      have RES : Hid (strN (digN k q) ++ strN [d] = strN (digN (k + 1) u)) := Lib.hid (by
        rw [← sN_app]
        conv => rhs; unfold digN
        rw [if_neg h10', hq, hd, hr])
      have zt : (strN (digN k q)).size ≤ 31 := by rw [strN_size]; have := digN_len k q; omega
      obtain ⟨t, ht⟩ : ∃ t, t = strN (digN k q) := ⟨_, rfl⟩
      rw [← ht] at C RES zt
      have e1 : (u : Int) / 10 = (q : Int) := by omega
      have e1t : (u : Int).tdiv 10 = (q : Int) := by rw [Int.tdiv_eq_ediv_of_nonneg (by omega)]; omega
      have e2 : (u : Int) % 10 = (r : Int) := by omega
      have e2t : (u : Int).tmod 10 = (r : Int) := by rw [Int.tmod_eq_emod_of_nonneg (by omega)]; omega
      have e3 : (48 : Int) + (r : Int) = (d : Int) := by omega
      have e4 : ((48 : Int) + (r : Int)) % 18446744073709551616 = (d : Int) := by omega
      have e5 : (d : Int) % 256 = (d : Int) := by omega
      have e6 : (d : Int) % 18446744073709551616 = (d : Int) := by omega
      have zd : (strN [d]).size = 1 := rfl
      have zt2 : t.size ≤ 9223372036854775806 := by omega
      have w1 : IntKind.u64.wrap (q : Int) = (q : Int) := IntWalk.u64_in _ (by omega)
      have w2 : IntKind.u64.wrap (d : Int) = (d : Int) := IntWalk.u64_in _ (by omega)
      have w3 : IntKind.u8.wrap (d : Int) = (d : Int) := IntWalk.u8_in _ (by omega)
      have w4 : IntKind.u64.wrap (r : Int) = (r : Int) := IntWalk.u64_in _ (by omega)
      have za : (t ++ strN [d]).size ≤ 32 := by rw [ByteArray.size_append]; omega
      have HD2 := Lib.hid hd2
      obtain ⟨sd, hsd⟩ : ∃ sd, sd = strN [d] := ⟨_, rfl⟩
      rw [← hsd] at RES zd za
      have HSD := Lib.hid hsd
      clear hq hr hd hu ih ht hsd
      go_enter Tryz.func76, Tryz.ntmps76
      go_upto_region 3 with fail
      refine wp_region_any (by kernel_rfl) ?_
      change wpAny _ _ _ _ _ _ _ w.drew
      obtain ⟨wd, hwd⟩ : ∃ wd, wd = w.drew := ⟨_, rfl⟩
      rw [← hwd]
      have BD0 : Hid (Below w.heap.size w wd) := Lib.hid (by rw [hwd]; exact (Below.refl _ _).drew)
      clear hwd
      refine wpAny_take (i := 0) (v := .int .u64 (u : Int)) rfl (by kernel_rfl) (by kernel_rfl) (by kernel_rfl) (fun _ _ _ h => h) (Or.inl ⟨by kernel_rfl, fun w' => by go_simp⟩) ?_
      refine wpAny_take (i := 1) (v := .int .u64 (q : Int)) rfl (by kernel_rfl) (by kernel_rfl) (by kernel_rfl) (fun _ _ _ h => h) (Or.inl ⟨by kernel_rfl, fun w' => by go_simp⟩) ?_
      refine wpAny_take (i := 3) (v := .int .u64 (u : Int)) rfl (by kernel_rfl) (by kernel_rfl) (by kernel_rfl) (fun _ _ _ h => h) (Or.inl ⟨by kernel_rfl, fun w' => by go_simp⟩) ?_
      refine wpAny_take (i := 4) (v := .int .u64 (r : Int)) rfl (by kernel_rfl) (by kernel_rfl) (by kernel_rfl) (fun _ _ _ h => h) (Or.inl ⟨by kernel_rfl, fun w' => by go_simp⟩) ?_
      refine wpAny_take (i := 5) (v := .int .u64 (d : Int)) rfl (by kernel_rfl) (by kernel_rfl) (by kernel_rfl) (fun _ _ _ h => h) (Or.inl ⟨by kernel_rfl, fun w' => by go_simp⟩) ?_
      refine wpAny_take (i := 6) (v := .int .u8 (d : Int)) rfl (by kernel_rfl) (by kernel_rfl) (by kernel_rfl) (fun _ _ _ h => h) (Or.inl ⟨by kernel_rfl, fun w' => by go_simp⟩) ?_
      refine any_two (i := 2) (k := 7) (by kernel_rfl) ?_ ?_
      · skip
        refine any_call (f := 76) (args := #[.int .u64 (q : Int)]) rfl rfl (by kernel_rfl) ?_
        refine (C.out wd).mono ?_
        rintro e y1 ⟨rfl, hb⟩
        have By1 := Lib.hid (BD0.out.trans (hb.mono BD0.out.size))
        clear hb
        refine ⟨_, rfl, ?_⟩
        refine any_one (i := 7) (by kernel_rfl) ?_
        refine any_valW rfl rfl (exec_bs1 y1 rfl (by kernel_rfl) (bs1_u y1 (d : Int))) ?_
        obtain ⟨y2, hy2⟩ : ∃ x, x = y1.alloc (.cells #[.int .u8 (d : Int)] 5) := ⟨_, rfl⟩
        rw [← hy2]
        have By2 : Hid (Below w.heap.size w y2) := Lib.hid (by rw [hy2]; exact By1.out.alloc By1.out.size _)
        have AB : Hid (y2.heap[y1.heap.size]? = some (.cells #[.int .u8 (d : Int)] 5 (0, 0))) := Lib.hid (by rw [hy2]; exact heap_alloc_last y1 _)
        obtain ⟨g, hg⟩ : ∃ g, g = y1.heap.size := ⟨_, rfl⟩
        rw [← hg] at AB ⊢
        clear hy2 hg
        refine any_one (i := 8) (by kernel_rfl) ?_
        have CV := conv1 y2 g d HD2.out AB.out
        rw [← HSD.out] at CV
        refine any_val rfl rfl (exec_convert (s := 62) (d := 9) (x := .tmp 17) (u := .slice (some ⟨g, 0, none⟩) 1 1) rfl (by kernel_rfl) CV) ?_
        clear CV
        refine any_one (i := 9) (by kernel_rfl) ?_
        refine any_val (v := .string (t ++ sd)) rfl rfl (by go_simp) ?_
        refine any_one (i := 10) (by kernel_rfl) ?_
        refine any_val (v := .string (t ++ sd)) rfl rfl (by go_simp) ?_
        refine wpAny_done (by kernel_rfl) ?_ _
        go_simp
        refine ‹∀ (a : Act) (w_1 : World), _ → _› _ _ ?_
        go_wp2_with fail
        go_ret
        exact ⟨by rw [← RES.out]; rfl, By2.out⟩
      · skip
        refine any_valW rfl rfl (exec_bs1 wd rfl (by kernel_rfl) (bs1_u wd (d : Int))) ?_
        obtain ⟨y3, hy3⟩ : ∃ x, x = wd.alloc (.cells #[.int .u8 (d : Int)] 5) := ⟨_, rfl⟩
        rw [← hy3]
        have By3 : Hid (Below w.heap.size w y3) := Lib.hid (by rw [hy3]; exact BD0.out.alloc BD0.out.size _)
        have AB : Hid (y3.heap[wd.heap.size]? = some (.cells #[.int .u8 (d : Int)] 5 (0, 0))) := Lib.hid (by rw [hy3]; exact heap_alloc_last wd _)
        obtain ⟨g, hg⟩ : ∃ g, g = wd.heap.size := ⟨_, rfl⟩
        rw [← hg] at AB ⊢
        clear hy3 hg
        refine any_two (i := 2) (k := 8) (by kernel_rfl) ?_ ?_
        · skip
          refine any_call (f := 76) (args := #[.int .u64 (q : Int)]) rfl rfl (by kernel_rfl) ?_
          refine (C.out y3).mono ?_
          rintro e y4 ⟨rfl, hb⟩
          have By4 := Lib.hid (By3.out.trans (hb.mono By3.out.size))
          replace AB := Lib.hid ((hb.block _ (lt_of_block AB.out)).trans AB.out)
          clear hb
          refine ⟨_, rfl, ?_⟩
          refine any_one (i := 8) (by kernel_rfl) ?_
          have CV := conv1 y4 g d HD2.out AB.out
          rw [← HSD.out] at CV
          refine any_val rfl rfl (exec_convert (s := 62) (d := 9) (x := .tmp 17) (u := .slice (some ⟨g, 0, none⟩) 1 1) rfl (by kernel_rfl) CV) ?_
          clear CV
          refine any_one (i := 9) (by kernel_rfl) ?_
          refine any_val (v := .string (t ++ sd)) rfl rfl (by go_simp) ?_
          refine any_one (i := 10) (by kernel_rfl) ?_
          refine any_val (v := .string (t ++ sd)) rfl rfl (by go_simp) ?_
          refine wpAny_done (by kernel_rfl) ?_ _
          go_simp
          refine ‹∀ (a : Act) (w_1 : World), _ → _› _ _ ?_
          go_wp2_with fail
          go_ret
          exact ⟨by rw [← RES.out]; rfl, By4.out⟩
        · skip
          have CV := conv1 y3 g d HD2.out AB.out
          rw [← HSD.out] at CV
          refine any_val rfl rfl (exec_convert (s := 62) (d := 9) (x := .tmp 17) (u := .slice (some ⟨g, 0, none⟩) 1 1) rfl (by kernel_rfl) CV) ?_
          clear CV
          refine any_one (i := 2) (by kernel_rfl) ?_
          refine any_call (f := 76) (args := #[.int .u64 (q : Int)]) rfl rfl (by kernel_rfl) ?_
          refine (C.out y3).mono ?_
          rintro e y5 ⟨rfl, hb⟩
          have By5 := Lib.hid (By3.out.trans (hb.mono By3.out.size))
          replace AB := Lib.hid ((hb.block _ (lt_of_block AB.out)).trans AB.out)
          clear hb
          refine ⟨_, rfl, ?_⟩
          refine any_one (i := 9) (by kernel_rfl) ?_
          refine any_val (v := .string (t ++ sd)) rfl rfl (by go_simp) ?_
          refine any_one (i := 10) (by kernel_rfl) ?_
          refine any_val (v := .string (t ++ sd)) rfl rfl (by go_simp) ?_
          refine wpAny_done (by kernel_rfl) ?_ _
          go_simp
          refine ‹∀ (a : Act) (w_1 : World), _ → _› _ _ ?_
          go_wp2_with fail
          go_ret
          exact ⟨by rw [← RES.out]; rfl, By5.out⟩
theorem rdigits_any (n : Int) (h0 : 0 ≤ n) (h1 : n ≤ 9223372036854775807) (w : World) :
    Calls Tryz.prog 33 #[.int .i64 n] w fun e w' => e = .returned (.string (strN (digI n))) ∧ Below w.heap.size w w' := by
  obtain ⟨u, rfl⟩ : ∃ u : Nat, n = u := ⟨n.toNat, by omega⟩
  have P := Lib.hid (plain_any 20 u (by omega) (by omega) (by omega) w)
  have R : Hid (digI (u : Int) = digN 20 u) := Lib.hid (by rw [digI_pos (by omega)]; rfl)
  have hn : ¬ ((u : Int) < 0) := by omega
  have e1 : (u : Int) % 18446744073709551616 = (u : Int) := by omega
  obtain ⟨t, ht⟩ : ∃ t, t = strN (digN 20 u) := ⟨_, rfl⟩
  rw [← ht] at P
  have HT := Lib.hid ht
  clear ht
  go_enter Tryz.func33, Tryz.ntmps33
  go_wp2_with fail
  refine P.out.mono ?_
  rintro e w1 ⟨rfl, hb⟩
  have B := Lib.hid hb
  clear hb P
  go_wp2_with fail
  go_ret
  exact ⟨by rw [R.out, ← HT.out]; rfl, B.out⟩
end Go.Proofs.YtohmdledkhgdaaaGreatDoor
