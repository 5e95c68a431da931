/- bulletinref18.control. -/
import Derived.Test.YtohmdledkhgdaaaGreatDoorLo41
namespace Go.Proofs.YtohmdledkhgdaaaGreatDoor
open Go.RowKit
set_option linter.unusedVariables false
set_option maxRecDepth 100000
theorem guard_i18 : Tryz.prog.eqGuardType Tryz.prog.depth 26 = false := by kernel_rfl
theorem str_ctl {s : ByteArray} : (bs s = []) ↔ s.size = 0 := by rw [← List.length_eq_zero_iff, bs_length]
set_option maxHeartbeats 4000000 in
theorem rctl18_any (w : World) (c : Cn) (gv rv : Value) (hok : c.Ok) (hz : c.ctl.size ≤ 1000000) :
    Calls Tryz.prog 48 #[.agg (c.cells gv rv)] w fun e w' => e = .returned (.int .i64 ((ctlF c.p : Nat) : Int)) ∧ Below w.heap.size w w' := by
  obtain ⟨zs, hzs⟩ : ∃ zs, zs = idA zero32 := ⟨_, rfl⟩
  have BZ : Hid (∀ w, (Instr.build 26 #[]).run Tryz.prog w = .ok (.agg zs) w) := Lib.hid (fun w => by rw [hzs]; kernel_rfl)
  obtain ⟨T, hT⟩ : ∃ T, T = ctlF c.p := ⟨_, rfl⟩
  rw [← hT]
  have TD : Hid (T = if c.ctl.size = 0 then 0 else if sqz (bs c.ctl) = false then 3 else fe (cmdF (bs c.ctl)) (if c.sup = zero32 then 0 else 11)) := Lib.hid (by
    rw [hT]; unfold ctlF
    show (if bs c.ctl = [] then 0 else fe (eIf (!sqz (bs c.ctl)) 3) (fe (cmdF (bs c.ctl)) (eIf (!decide (c.sup = zero32)) 11))) = _
    by_cases h0 : c.ctl.size = 0
    · rw [if_pos h0, if_pos (str_ctl.2 h0)]
    · rw [if_neg h0, if_neg (fun h => h0 (str_ctl.1 h))]
      cases sqz (bs c.ctl)
      · rfl
      · by_cases hs : c.sup = zero32
        · rw [if_pos hs, decide_eq_true hs]; rfl
        · rw [if_neg hs, decide_eq_false hs]; rfl)
  obtain ⟨w0, hw0⟩ : ∃ w0, w0 = w.alloc (.cells (c.cells gv rv) 28) := ⟨_, rfl⟩
  have B0 : Hid (Below w.heap.size w w0) := Lib.hid (by rw [hw0]; exact (Below.refl _ _).alloc (Nat.le_refl _) _)
  have C0 : CB w0 w.heap.size c gv rv 28 := by rw [hw0]; exact CB.new w c gv rv _
  have cc : w0.cell? ⟨w.heap.size, 53, none⟩ = some (.string c.ctl) := C0.at (cn_53 hok gv rv)
  have SUP : Hid (∀ wx, Below w0.heap.size w0 wx → (loadVar 26 ⟨w.heap.size, 21, none⟩).run Tryz.prog wx = .ok (.agg (idA c.sup)) wx) := Lib.hid (fun wx h => (C0.on h).sup hok)
  have CC : Hid (∀ wx, Below w0.heap.size w0 wx → wx.cell? ⟨w.heap.size, 53, none⟩ = some (.string c.ctl)) := Lib.hid (fun wx h => (C0.on h).at (cn_53 hok gv rv))
  have EQ : Hid (∀ w, (Op.equal 26 (.agg (idA c.sup)) (.agg zs)).run Tryz.prog w = .ok (decide (c.sup = zero32)) w) := Lib.hid (fun w => by
    rw [hzs]; exact eq_arr Tryz.underlying26 (by kernel_rfl) (by kernel_rfl) w hok.sup.len hok.sup.lt zero_ok.len zero_ok.lt)
  obtain ⟨cs, hcs⟩ : ∃ cs, cs = c.cells gv rv := ⟨_, rfl⟩
  obtain ⟨t, ht⟩ : ∃ t, t = c.ctl := ⟨_, rfl⟩
  obtain ⟨su, hsu⟩ : ∃ su, su = idA c.sup := ⟨_, rfl⟩
  obtain ⟨q, hq⟩ : ∃ q, q = decide (c.sup = zero32) := ⟨_, rfl⟩
  have TD2 : Hid (T = if t.size = 0 then 0 else if sqz (bs t) = false then 3 else fe (cmdF (bs t)) (if q = true then 0 else 11)) := Lib.hid (by
    rw [TD.out, ht, hq]; simp)
  rw [← hcs] at hw0 ⊢
  rw [← ht] at cc CC hz
  rw [← hsu] at SUP EQ
  rw [← hq] at EQ
  have HW := Lib.hid hw0
  have SQ := Lib.hid (fun w => rsqz_any t w (by unfold maxLen; omega))
  have PP := Lib.hid (fun w => rparse17_any t w (by omega))
  clear hw0 hcs ht hsu hq hT TD C0 hzs hok
  go_enter Tryz.func48, Tryz.ntmps48
  go_upto_region 1 with fail
  rw [← HW.out]
  clear HW
  by_cases h0 : t.size = 0
  · have F : Hid (T = 0) := Lib.hid (by rw [TD2.out, if_pos h0])
    have qe : t.toList.isEmpty = true := by
      rw [show t = ⟨#[]⟩ from ByteArray.ext (Array.eq_empty_of_size_eq_zero h0), ByteArray.toList_eq]; rfl
    clear h0
    go_wp2_with fail
    go_ret
    exact ⟨by rw [F.out]; rfl, B0.out⟩
  have qe : t.toList.isEmpty = false := str_ne h0
  have TD3 : Hid (T = if sqz (bs t) = false then 3 else fe (cmdF (bs t)) (if q = true then 0 else 11)) := Lib.hid (by rw [TD2.out, if_neg h0])
  clear h0 TD2
  obtain ⟨z, hz2⟩ : ∃ z, z = sqz (bs t) := ⟨_, rfl⟩
  rw [← hz2] at SQ TD3
  clear hz2
  go_wp2_with fail
  refine (SQ.out w0).mono ?_
  rintro e w1 ⟨rfl, hd1⟩
  have b1 : Below w0.heap.size w0 w1 := Dr.below hd1
  have B1 := Lib.hid b1
  have cc1 := CC.out w1 b1
  clear hd1 b1 SQ cc
  cases z
  · have F : Hid (T = 3) := Lib.hid (by rw [TD3.out]; rfl)
    go_wp2_with fail
    go_ret
    exact ⟨by rw [F.out]; rfl, B0.out.trans (B1.out.mono B0.out.size)⟩
  have TD4 : Hid (T = fe (cmdF (bs t)) (if q = true then 0 else 11)) := Lib.hid (by rw [TD3.out]; rfl)
  clear TD3
  go_wp2_with fail
  refine (PP.out w1).mono ?_
  rintro e w2 ⟨ds, a, rfl, hcl, hb2⟩
  obtain ⟨er, her⟩ : ∃ er, er = cmdF (bs t) := ⟨_, rfl⟩
  rw [← her] at TD4 ⊢
  have DCL := Lib.hid hcl
  have B2 := Lib.hid (B1.out.trans (hb2.mono B1.out.size))
  have STN : Hid (∀ zz : Array Value, zz.size = 56 → (storeVar 140 ⟨w2.heap.size, 0, none⟩ (.agg ds)).run Tryz.prog (w2.alloc (.cells zz 140)) = .ok () (w2.alloc (.cells ds 140))) := Lib.hid (fun zz hz => run_storeVar_new w2 140 zz ds (by rw [DCL.out.1]; exact size_c17) (by rw [hz, DCL.out.1]) DCL.out.2)
  have B3 := Lib.hid (B2.out.alloc B2.out.size (.cells ds 140))
  clear her hcl hb2 PP cc1 CC
  by_cases e0 : er = 0
  · have q5 : ((er : Int) != 0) = false := int_nneq (by omega)
    have TD5 : Hid (T = if q = true then 0 else 11) := Lib.hid (by rw [TD4.out, e0]; rfl)
    have LD := Lib.hid (SUP.out _ B3.out)
    clear e0 TD4
    cases q
    · have F : Hid (T = 11) := Lib.hid (by rw [TD5.out]; rfl)
      go_wp2_with (first
        | ((with_reducible refine wpList_store 140 rfl _ _ rfl ?_); refine ⟨_, _, _, rfl, rfl, STN.out _ rfl, ?_⟩)
        | ((with_reducible refine wpList_load 26 rfl _ rfl ?_); refine ⟨_, _, rfl, LD.out, ?_⟩)
        | ((with_reducible refine wpList_build0 26 rfl rfl ?_); refine ⟨_, BZ.out _, ?_⟩)
        | ((with_reducible refine wpList_neq 26 rfl _ _ rfl guard_i18 ?_); refine ⟨_, _, _, rfl, rfl, EQ.out _, ?_⟩))
      go_ret
      exact ⟨by rw [F.out]; rfl, B0.out.trans (B3.out.mono B0.out.size)⟩
    · have F : Hid (T = 0) := Lib.hid (by rw [TD5.out]; rfl)
      go_wp2_with (first
        | ((with_reducible refine wpList_store 140 rfl _ _ rfl ?_); refine ⟨_, _, _, rfl, rfl, STN.out _ rfl, ?_⟩)
        | ((with_reducible refine wpList_load 26 rfl _ rfl ?_); refine ⟨_, _, rfl, LD.out, ?_⟩)
        | ((with_reducible refine wpList_build0 26 rfl rfl ?_); refine ⟨_, BZ.out _, ?_⟩)
        | ((with_reducible refine wpList_neq 26 rfl _ _ rfl guard_i18 ?_); refine ⟨_, _, _, rfl, rfl, EQ.out _, ?_⟩))
      go_ret
      exact ⟨by rw [F.out]; rfl, B0.out.trans (B3.out.mono B0.out.size)⟩
  · have q5 : ((er : Int) != 0) = true := int_neq (by omega)
    have F : Hid (T = er) := Lib.hid (by rw [TD4.out]; unfold fe; rw [if_pos e0])
    clear e0 TD4
    go_wp2_with ((with_reducible refine wpList_store 140 rfl _ _ rfl ?_); refine ⟨_, _, _, rfl, rfl, STN.out _ rfl, ?_⟩)
    go_ret
    exact ⟨by rw [F.out]; rfl, B0.out.trans (B3.out.mono B0.out.size)⟩
end Go.Proofs.YtohmdledkhgdaaaGreatDoor
