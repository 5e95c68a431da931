/- bulletinref18.Check: the error of a content. -/
import Derived.Test.YtohmdledkhgdaaaGreatDoorLo42
import Derived.Test.YtohmdledkhgdaaaGreatDoorLo30
namespace Go.Proofs.YtohmdledkhgdaaaGreatDoor
open Go.RowKit
set_option linter.unusedVariables false
set_option maxRecDepth 100000
theorem exec_shl1 {o : Oper} {a : Act} {w : World} {x : Operand} {h : Int} (ho : o.op = .binOp .shl 3 (.const (.int .i64 1)) x 3) (hx : a.eval x = .int .i64 h) (h1 : 1 ≤ h) (h8 : h ≤ 8) :
    (execOp a.eval o).run Tryz.prog w = .ok (.value (.int .i64 (2 ^ h.toNat))) w := by
  unfold execOp
  rw [ho]
  simp only [hx]
  rcases (by omega : h = 1 ∨ h = 2 ∨ h = 3 ∨ h = 4 ∨ h = 5 ∨ h = 6 ∨ h = 7 ∨ h = 8) with rfl | rfl | rfl | rfl | rfl | rfl | rfl | rfl <;> rfl
theorem leavesN_in {h : Int} (h1 : 1 ≤ h) (h8 : h ≤ 8) : leavesN h = 2 ^ h.toNat := by
  unfold leavesN heightB
  rw [decide_eq_true h1, decide_eq_true h8]; rfl
set_option maxHeartbeats 16000000 in
theorem rcheck18_any (w : World) (c : Cn) (gv rv : Value) (hin : CnIn w c gv rv) :
    Calls Tryz.prog 18 #[.agg (c.cells gv rv)] w fun e w' => e = .returned (.int .i64 ((chkF c.p : Nat) : Int)) ∧ Below w.heap.size w w' := by
  have IN := Lib.hid hin
  have OK := Lib.hid hin.ok
  obtain ⟨T, hT⟩ : ∃ T, T = chkF c.p := ⟨_, rfl⟩
  rw [← hT]
  obtain ⟨w0, hw0⟩ : ∃ w0, w0 = w.alloc (.cells (c.cells gv rv) 28) := ⟨_, rfl⟩
  have B0 : Hid (Below w.heap.size w w0) := Lib.hid (by rw [hw0]; exact (Below.refl _ _).alloc (Nat.le_refl _) _)
  have C0 : CB w0 w.heap.size c gv rv 28 := by rw [hw0]; exact CB.new w c gv rv _
  have CBW : Hid (∀ wx, Below w0.heap.size w0 wx → CB wx w.heap.size c gv rv 28) := Lib.hid (fun wx h => C0.on h)
  have INW : Hid (∀ wx, Below w0.heap.size w0 wx → CnIn wx c gv rv) := Lib.hid (fun wx h => hin.on (B0.out.trans (h.mono B0.out.size)))
  obtain ⟨v1, hv1⟩ : ∃ v, v = textF (bs c.name) 60 := ⟨_, rfl⟩
  obtain ⟨d2, hd2⟩ : ∃ v, v = (decide (c.date < 0) || decide (105190559 < c.date)) := ⟨_, rfl⟩
  obtain ⟨v3, hv3⟩ : ∃ v, v = groupsF (c.groups.map bs) := ⟨_, rfl⟩
  obtain ⟨v4, hv4⟩ : ∃ v, v = textF (bs c.subject) 200 := ⟨_, rfl⟩
  obtain ⟨v5, hv5⟩ : ∃ v, v = refsF c.refs := ⟨_, rfl⟩
  obtain ⟨v6, hv6⟩ : ∃ v, v = ctlF c.p := ⟨_, rfl⟩
  obtain ⟨v7, hv7⟩ : ∃ v, v = distF (bs c.dist) := ⟨_, rfl⟩
  obtain ⟨v12, hv12⟩ : ∃ v, v = bodyF (bs c.body) := ⟨_, rfl⟩
  obtain ⟨nu, hnu⟩ : ∃ v, v = c.number := ⟨_, rfl⟩
  obtain ⟨ht, hht⟩ : ∃ v, v = c.height := ⟨_, rfl⟩
  obtain ⟨lf, hlf⟩ : ∃ v, v = c.leaf := ⟨_, rfl⟩
  have TD1 : Hid (T = fe v1 (fe (eIf d2 13) (fe v3 (fe v4 (fe v5 (fe v6 (fe v7 (fe (eIf (decide (nu < 0) || decide (1000 < nu)) 2) (fe (eIf (!heightB ht) 2) (fe (eIf (decide (lf < 0) || decide (leavesN ht ≤ lf)) 2) (fe (eIf (decide (57344 < c.body.size)) 5) v12))))))))))) := Lib.hid (by
    rw [hT, hv1, hd2, hv3, hv4, hv5, hv6, hv7, hv12, hnu, hht, hlf, ← bs_length c.body]; rfl)
  have K1 := Lib.hid (fun w => rtext18_any c.name 60 w (by have := hin.name; omega) (by omega))
  have K2 := Lib.hid (fun w => rvalid_any w c.date)
  have K3 := Lib.hid (fun wx (h : CnIn wx c gv rv) => rgroups_any wx gv c.groups h.srow h.gl h.gz)
  have K4 := Lib.hid (fun w => rtext18_any c.subject 200 w (by have := hin.subject; omega) (by omega))
  have K5 := Lib.hid (fun wx (h : CnIn wx c gv rv) => rlist_any wx rv c.refs h.irow h.rl h.ok.refs)
  have K5b := Lib.hid (fun wx v (h : IRow wx v c.refs) => rchk_any2 wx v c.refs h hin.rl hin.ok.refs)
  have K6 := Lib.hid (fun w => rctl18_any w c gv rv hin.ok hin.ctl)
  have K7 := Lib.hid (fun w => rdist_any c.dist w (by have := hin.dist; unfold maxLen; omega))
  have K12 := Lib.hid (fun w => rbody_any c.body w (by have := hin.body; omega))
  have F0 : Hid (∀ wx, Below w0.heap.size w0 wx → wx.cell? ⟨w.heap.size, 0, none⟩ = some (.string c.name)) := Lib.hid (fun wx h => (CBW.out wx h).at (cn_0 c gv rv))
  have F17 : Hid (∀ wx, Below w0.heap.size w0 wx → wx.cell? ⟨w.heap.size, 17, none⟩ = some (.int .i64 c.date)) := Lib.hid (fun wx h => by have e := (CBW.out wx h).at (cn_17 OK.out gv rv); first | exact e | (rw [← hnu] at e; exact e) | (rw [← hht] at e; exact e) | (rw [← hlf] at e; exact e))
  have F18 : Hid (∀ wx, Below w0.heap.size w0 wx → wx.cell? ⟨w.heap.size, 18, none⟩ = some (gv)) := Lib.hid (fun wx h => by have e := (CBW.out wx h).at (cn_18 OK.out gv rv); first | exact e | (rw [← hnu] at e; exact e) | (rw [← hht] at e; exact e) | (rw [← hlf] at e; exact e))
  have F19 : Hid (∀ wx, Below w0.heap.size w0 wx → wx.cell? ⟨w.heap.size, 19, none⟩ = some (.string c.subject)) := Lib.hid (fun wx h => by have e := (CBW.out wx h).at (cn_19 OK.out gv rv); first | exact e | (rw [← hnu] at e; exact e) | (rw [← hht] at e; exact e) | (rw [← hlf] at e; exact e))
  have F20 : Hid (∀ wx, Below w0.heap.size w0 wx → wx.cell? ⟨w.heap.size, 20, none⟩ = some (rv)) := Lib.hid (fun wx h => by have e := (CBW.out wx h).at (cn_20 OK.out gv rv); first | exact e | (rw [← hnu] at e; exact e) | (rw [← hht] at e; exact e) | (rw [← hlf] at e; exact e))
  have F54 : Hid (∀ wx, Below w0.heap.size w0 wx → wx.cell? ⟨w.heap.size, 54, none⟩ = some (.string c.dist)) := Lib.hid (fun wx h => by have e := (CBW.out wx h).at (cn_54 OK.out gv rv); first | exact e | (rw [← hnu] at e; exact e) | (rw [← hht] at e; exact e) | (rw [← hlf] at e; exact e))
  have F55 : Hid (∀ wx, Below w0.heap.size w0 wx → wx.cell? ⟨w.heap.size, 55, none⟩ = some (.int .i64 nu)) := Lib.hid (fun wx h => by have e := (CBW.out wx h).at (cn_55 OK.out gv rv); first | exact e | (rw [← hnu] at e; exact e) | (rw [← hht] at e; exact e) | (rw [← hlf] at e; exact e))
  have F56 : Hid (∀ wx, Below w0.heap.size w0 wx → wx.cell? ⟨w.heap.size, 56, none⟩ = some (.int .i64 ht)) := Lib.hid (fun wx h => by have e := (CBW.out wx h).at (cn_56 OK.out gv rv); first | exact e | (rw [← hnu] at e; exact e) | (rw [← hht] at e; exact e) | (rw [← hlf] at e; exact e))
  have F73 : Hid (∀ wx, Below w0.heap.size w0 wx → wx.cell? ⟨w.heap.size, 73, none⟩ = some (.int .i64 lf)) := Lib.hid (fun wx h => by have e := (CBW.out wx h).at (cn_73 OK.out gv rv); first | exact e | (rw [← hnu] at e; exact e) | (rw [← hht] at e; exact e) | (rw [← hlf] at e; exact e))
  have F74 : Hid (∀ wx, Below w0.heap.size w0 wx → wx.cell? ⟨w.heap.size, 74, none⟩ = some (.string c.body)) := Lib.hid (fun wx h => by have e := (CBW.out wx h).at (cn_74 OK.out gv rv); first | exact e | (rw [← hnu] at e; exact e) | (rw [← hht] at e; exact e) | (rw [← hlf] at e; exact e))
  have FA : Hid (∀ wx, Below w0.heap.size w0 wx → (loadVar 28 ⟨w.heap.size, 0, none⟩).run Tryz.prog wx = .ok (.agg (c.cells gv rv)) wx) := Lib.hid (fun wx h => (CBW.out wx h).allR OK.out)
  rw [← hv1] at K1; rw [← hd2] at K2; rw [← hv3] at K3; rw [← hv4] at K4; rw [← hv5] at K5b; rw [← hv6] at K6; rw [← hv7] at K7
  have BPD : Hid (∀ w e w', RbPost (bs c.body) w e w' → ∃ n : Int, e = .returned (.tuple #[.int .i64 n, .int .i64 (v12 : Int)]) ∧ Below w.heap.size w w') := Lib.hid (fun w e w' h => by rw [hv12]; exact h)
  obtain ⟨cs, hcs⟩ : ∃ cs, cs = c.cells gv rv := ⟨_, rfl⟩
  rw [← hcs] at hw0 FA K6 ⊢
  obtain ⟨nm, hnm⟩ : ∃ x, x = c.name := ⟨_, rfl⟩
  obtain ⟨dt, hdt⟩ : ∃ x, x = c.date := ⟨_, rfl⟩
  obtain ⟨sj, hsj⟩ : ∃ x, x = c.subject := ⟨_, rfl⟩
  obtain ⟨di, hdi⟩ : ∃ x, x = c.dist := ⟨_, rfl⟩
  obtain ⟨bo, hbo⟩ : ∃ x, x = c.body := ⟨_, rfl⟩
  have BSZ : bo.size ≤ 1000000 := by rw [hbo]; exact hin.body
  rw [← hnm] at K1 F0; rw [← hdt] at K2 F17; rw [← hsj] at K4 F19; rw [← hdi] at K7 F54; rw [← hbo] at K12 F74 TD1 BPD
  have HW := Lib.hid hw0
  clear hw0 hcs hnm hdt hsj hdi hbo hnu hht hlf hv1 hd2 hv3 hv4 hv5 hv6 hv7 hv12 hT C0 hin CBW IN
  have f0 := F0.out w0 (Below.refl _ _)
  clear F0
  go_enter Tryz.func18, Tryz.ntmps18
  go_upto_region 1 with fail
  rw [← HW.out]
  clear HW
  have b0 : Hid (Below w0.heap.size w0 w0) := Lib.hid (Below.refl _ _)
  go_wp2_with fail
  refine (K1.out w0).mono ?_
  rintro e w1 ⟨rfl, hb⟩
  have b1 := Lib.hid (b0.out.trans (hb.mono b0.out.size))
  clear hb K1 f0 b0
  by_cases e0 : v1 ≠ 0
  · have q0 : ((v1 : Int) != 0) = true := int_neq (by omega)
    have F : Hid (T = v1) := Lib.hid (by rw [TD1.out]; unfold fe; rw [if_pos e0])
    clear TD1 e0
    go_wp2_with fail
    go_ret
    exact ⟨by rw [F.out]; rfl, B0.out.trans (b1.out.mono B0.out.size)⟩
  have q0 : ((v1 : Int) != 0) = false := int_nneq (by omega)
  have TD2 : Hid (T = fe (eIf d2 13) (fe v3 (fe v4 (fe v5 (fe v6 (fe v7 (fe (eIf (decide (nu < 0) || decide (1000 < nu)) 2) (fe (eIf (!heightB ht) 2) (fe (eIf (decide (lf < 0) || decide (leavesN ht ≤ lf)) 2) (fe (eIf (decide (57344 < bo.size)) 5) v12)))))))))) := Lib.hid (by rw [TD1.out, show v1 = 0 by omega]; rfl)
  clear TD1 e0
  have f0 := F17.out w1 b1.out
  clear F17
  go_wp2_with fail
  refine (K2.out w1).mono ?_
  rintro e w2 ⟨rfl, rfl⟩
  clear K2 f0
  cases d2
  case true =>
    have F : Hid (T = 13) := Lib.hid (by rw [TD2.out]; rfl)
    clear TD2 q0
    simp only [Bool.not_true]
    go_wp2_with fail
    go_ret
    exact ⟨by rw [F.out]; rfl, B0.out.trans (b1.out.mono B0.out.size)⟩
  simp only [Bool.not_false]
  have TD3 : Hid (T = fe v3 (fe v4 (fe v5 (fe v6 (fe v7 (fe (eIf (decide (nu < 0) || decide (1000 < nu)) 2) (fe (eIf (!heightB ht) 2) (fe (eIf (decide (lf < 0) || decide (leavesN ht ≤ lf)) 2) (fe (eIf (decide (57344 < bo.size)) 5) v12))))))))) := Lib.hid (by rw [TD2.out]; rfl)
  clear TD2 q0
  have f0 := F18.out w1 b1.out
  clear F18
  go_wp2_with fail
  refine (K3.out w1 (INW.out w1 b1.out)).mono ?_
  rintro e w3 ⟨rfl, hb⟩
  have b3 := Lib.hid (b1.out.trans (hb.mono b1.out.size))
  clear hb K3 f0 b1
  by_cases e0 : v3 ≠ 0
  · have q0 : ((v3 : Int) != 0) = true := int_neq (by omega)
    have F : Hid (T = v3) := Lib.hid (by rw [TD3.out]; unfold fe; rw [if_pos e0])
    clear TD3 e0
    go_wp2_with fail
    go_ret
    exact ⟨by rw [F.out]; rfl, B0.out.trans (b3.out.mono B0.out.size)⟩
  have q0 : ((v3 : Int) != 0) = false := int_nneq (by omega)
  have TD4 : Hid (T = fe v4 (fe v5 (fe v6 (fe v7 (fe (eIf (decide (nu < 0) || decide (1000 < nu)) 2) (fe (eIf (!heightB ht) 2) (fe (eIf (decide (lf < 0) || decide (leavesN ht ≤ lf)) 2) (fe (eIf (decide (57344 < bo.size)) 5) v12)))))))) := Lib.hid (by rw [TD3.out, show v3 = 0 by omega]; rfl)
  clear TD3 e0
  have f0 := F19.out w3 b3.out
  clear F19
  go_wp2_with fail
  refine (K4.out w3).mono ?_
  rintro e w4 ⟨rfl, hb⟩
  have b4 := Lib.hid (b3.out.trans (hb.mono b3.out.size))
  clear hb K4 f0 q0 b3
  by_cases e0 : v4 ≠ 0
  · have q0 : ((v4 : Int) != 0) = true := int_neq (by omega)
    have F : Hid (T = v4) := Lib.hid (by rw [TD4.out]; unfold fe; rw [if_pos e0])
    clear TD4 e0
    go_wp2_with fail
    go_ret
    exact ⟨by rw [F.out]; rfl, B0.out.trans (b4.out.mono B0.out.size)⟩
  have q0 : ((v4 : Int) != 0) = false := int_nneq (by omega)
  have TD5 : Hid (T = fe v5 (fe v6 (fe v7 (fe (eIf (decide (nu < 0) || decide (1000 < nu)) 2) (fe (eIf (!heightB ht) 2) (fe (eIf (decide (lf < 0) || decide (leavesN ht ≤ lf)) 2) (fe (eIf (decide (57344 < bo.size)) 5) v12))))))) := Lib.hid (by rw [TD4.out, show v4 = 0 by omega]; rfl)
  clear TD4 e0
  have f0 := F20.out w4 b4.out
  clear F20
  go_wp2_with fail
  refine (K5.out w4 (INW.out w4 b4.out)).mono ?_
  rintro e w5 ⟨v', rfl, hir, hb⟩
  have b5 := Lib.hid (b4.out.trans (hb.mono b4.out.size))
  have IR5 := Lib.hid hir
  clear hb hir K5 f0 b4 q0 INW
  go_wp2_with fail
  refine (K5b.out w5 v' IR5.out).mono ?_
  rintro e w6 ⟨rfl, hb⟩
  have b6 := Lib.hid (b5.out.trans (hb.mono b5.out.size))
  clear hb K5b IR5 b5
  by_cases e0 : v5 ≠ 0
  · have q0 : ((v5 : Int) != 0) = true := int_neq (by omega)
    have F : Hid (T = v5) := Lib.hid (by rw [TD5.out]; unfold fe; rw [if_pos e0])
    clear TD5 e0
    go_wp2_with fail
    go_ret
    exact ⟨by rw [F.out]; rfl, B0.out.trans (b6.out.mono B0.out.size)⟩
  have q0 : ((v5 : Int) != 0) = false := int_nneq (by omega)
  have TD6 : Hid (T = fe v6 (fe v7 (fe (eIf (decide (nu < 0) || decide (1000 < nu)) 2) (fe (eIf (!heightB ht) 2) (fe (eIf (decide (lf < 0) || decide (leavesN ht ≤ lf)) 2) (fe (eIf (decide (57344 < bo.size)) 5) v12)))))) := Lib.hid (by rw [TD5.out, show v5 = 0 by omega]; rfl)
  clear TD5 e0
  have LD := Lib.hid (FA.out w6 b6.out)
  clear FA
  go_wp2_with ((with_reducible refine wpList_load 28 rfl _ rfl ?_); refine ⟨_, _, rfl, LD.out, ?_⟩)
  refine (K6.out w6).mono ?_
  rintro e w7 ⟨rfl, hb⟩
  have b7 := Lib.hid (b6.out.trans (hb.mono b6.out.size))
  clear hb K6 LD q0 b6
  by_cases e0 : v6 ≠ 0
  · have q0 : ((v6 : Int) != 0) = true := int_neq (by omega)
    have F : Hid (T = v6) := Lib.hid (by rw [TD6.out]; unfold fe; rw [if_pos e0])
    clear TD6 e0
    go_wp2_with fail
    go_ret
    exact ⟨by rw [F.out]; rfl, B0.out.trans (b7.out.mono B0.out.size)⟩
  have q0 : ((v6 : Int) != 0) = false := int_nneq (by omega)
  have TD7 : Hid (T = fe v7 (fe (eIf (decide (nu < 0) || decide (1000 < nu)) 2) (fe (eIf (!heightB ht) 2) (fe (eIf (decide (lf < 0) || decide (leavesN ht ≤ lf)) 2) (fe (eIf (decide (57344 < bo.size)) 5) v12))))) := Lib.hid (by rw [TD6.out, show v6 = 0 by omega]; rfl)
  clear TD6 e0
  have f0 := F54.out w7 b7.out
  clear F54
  go_wp2_with fail
  refine (K7.out w7).mono ?_
  rintro e w8 ⟨rfl, hb⟩
  have b8 := Lib.hid (b7.out.trans ((Dr.below hb : Below w7.heap.size w7 w8).mono b7.out.size))
  clear hb K7 f0 q0 b7
  by_cases e0 : v7 ≠ 0
  · have q0 : ((v7 : Int) != 0) = true := int_neq (by omega)
    have F : Hid (T = v7) := Lib.hid (by rw [TD7.out]; unfold fe; rw [if_pos e0])
    clear TD7 e0
    go_wp2_with fail
    go_ret
    exact ⟨by rw [F.out]; rfl, B0.out.trans (b8.out.mono B0.out.size)⟩
  have q0 : ((v7 : Int) != 0) = false := int_nneq (by omega)
  have TD8 : Hid (T = fe (eIf (decide (nu < 0) || decide (1000 < nu)) 2) (fe (eIf (!heightB ht) 2) (fe (eIf (decide (lf < 0) || decide (leavesN ht ≤ lf)) 2) (fe (eIf (decide (57344 < bo.size)) 5) v12)))) := Lib.hid (by rw [TD7.out, show v7 = 0 by omega]; rfl)
  clear TD7 e0
  have g55 := F55.out w8 b8.out
  have g56 := F56.out w8 b8.out
  have g73 := F73.out w8 b8.out
  have f0 := F74.out w8 b8.out
  clear F55 F56 F73
  by_cases h1 : nu < 0
  · have p1 : decide (nu < 0) = true := decide_eq_true h1
    have F : Hid (T = 2) := Lib.hid (by rw [TD8.out, p1]; rfl)
    clear TD8
    go_upto_region 21 with fail
    have HS : (fun wx : World => wx.cell? ⟨w.heap.size, 55, none⟩ = some (.int .i64 nu) ∧ wx.cell? ⟨w.heap.size, 56, none⟩ = some (.int .i64 ht) ∧ wx.cell? ⟨w.heap.size, 73, none⟩ = some (.int .i64 lf)) w8.drew := ⟨g55, g56, g73⟩
    refine wp_region_held (S := fun wx : World => wx.cell? ⟨w.heap.size, 55, none⟩ = some (.int .i64 nu) ∧ wx.cell? ⟨w.heap.size, 56, none⟩ = some (.int .i64 ht) ∧ wx.cell? ⟨w.heap.size, 73, none⟩ = some (.int .i64 lf)) (by kernel_rfl) ?_
    change wpAnyH _ _ _ _ _ _ _ _ w8.drew
    obtain ⟨wd, hwd⟩ : ∃ wd, wd = w8.drew := ⟨_, rfl⟩
    have b9 : Hid (Below w0.heap.size w0 wd) := Lib.hid (by rw [hwd]; exact b8.out.drew)
    have f0 : wd.cell? ⟨w.heap.size, 74, none⟩ = some (.string bo) := F74.out wd b9.out
    rw [← hwd] at HS ⊢
    clear hwd g55 g56 g73
    refine takeV 0 (.pointer (some ⟨w.heap.size, 55, none⟩)) rfl (fun _ _ => by go_simp) HS ?_
    refine takeV 1 (.int .i64 nu) rfl (fun w' hw' => by obtain ⟨c1, c2, c3⟩ := hw'; go_simp) HS ?_
    refine takeV 2 (.bool true) rfl (fun _ _ => by go_simp) HS ?_
    refine takeV 3 (.bool true) rfl (fun _ _ => by go_simp) HS ?_
    refine takeU 4 rfl HS ?_
    refine takeU 5 rfl HS ?_
    refine takeU 6 rfl HS ?_
    refine takeV 7 (.bool true) rfl (fun _ _ => by go_simp) HS ?_
    refine takeV 8 (.bool true) rfl (fun _ _ => by go_simp) HS ?_
    refine takeU 9 rfl HS ?_
    refine takeU 10 rfl HS ?_
    refine takeU 11 rfl HS ?_
    refine takeV 12 (.bool true) rfl (fun _ _ => by go_simp) HS ?_
    refine takeV 13 (.bool true) rfl (fun _ _ => by go_simp) HS ?_
    refine takeU 14 rfl HS ?_
    refine takeU 15 rfl HS ?_
    refine takeU 16 rfl HS ?_
    refine takeV 17 (.bool true) rfl (fun _ _ => by go_simp) HS ?_
    refine takeV 18 (.bool true) rfl (fun _ _ => by go_simp) HS ?_
    refine takeU 19 rfl HS ?_
    refine takeU 20 rfl HS ?_
    refine takeU 21 rfl HS ?_
    refine takeV 22 (.bool true) rfl (fun _ _ => by go_simp) HS ?_
    refine takeV 23 (.bool true) rfl (fun _ _ => by go_simp) HS ?_
    refine takeU 24 rfl HS ?_
    refine takeU 25 rfl HS ?_
    refine takeU 26 rfl HS ?_
    refine takeU 27 rfl HS ?_
    refine takeU 28 rfl HS ?_
    refine takeU 29 rfl HS ?_
    refine takeV 30 (.bool true) rfl (fun _ _ => by go_simp) HS ?_
    refine wpAnyH_done (by kernel_rfl) ?_ _
    clear HS
    go_simp
    refine ‹∀ (a : Act) (w_1 : World), _ → _› _ _ ?_
    go_wp2_with fail
    go_ret
    exact ⟨by rw [F.out]; rfl, B0.out.trans (b9.out.mono B0.out.size)⟩
  have p1 : decide (nu < 0) = false := decide_eq_false h1
  by_cases h2 : 1000 < nu
  · have p2 : decide (1000 < nu) = true := decide_eq_true h2
    have F : Hid (T = 2) := Lib.hid (by rw [TD8.out, p1, p2]; rfl)
    clear TD8
    go_upto_region 21 with fail
    have HS : (fun wx : World => wx.cell? ⟨w.heap.size, 55, none⟩ = some (.int .i64 nu) ∧ wx.cell? ⟨w.heap.size, 56, none⟩ = some (.int .i64 ht) ∧ wx.cell? ⟨w.heap.size, 73, none⟩ = some (.int .i64 lf)) w8.drew := ⟨g55, g56, g73⟩
    refine wp_region_held (S := fun wx : World => wx.cell? ⟨w.heap.size, 55, none⟩ = some (.int .i64 nu) ∧ wx.cell? ⟨w.heap.size, 56, none⟩ = some (.int .i64 ht) ∧ wx.cell? ⟨w.heap.size, 73, none⟩ = some (.int .i64 lf)) (by kernel_rfl) ?_
    change wpAnyH _ _ _ _ _ _ _ _ w8.drew
    obtain ⟨wd, hwd⟩ : ∃ wd, wd = w8.drew := ⟨_, rfl⟩
    have b9 : Hid (Below w0.heap.size w0 wd) := Lib.hid (by rw [hwd]; exact b8.out.drew)
    have f0 : wd.cell? ⟨w.heap.size, 74, none⟩ = some (.string bo) := F74.out wd b9.out
    rw [← hwd] at HS ⊢
    clear hwd g55 g56 g73
    refine takeV 0 (.pointer (some ⟨w.heap.size, 55, none⟩)) rfl (fun _ _ => by go_simp) HS ?_
    refine takeV 1 (.int .i64 nu) rfl (fun w' hw' => by obtain ⟨c1, c2, c3⟩ := hw'; go_simp) HS ?_
    refine takeV 2 (.bool false) rfl (fun _ _ => by go_simp) HS ?_
    refine takeV 3 (.bool false) rfl (fun _ _ => by go_simp) HS ?_
    refine takeV 4 (.pointer (some ⟨w.heap.size, 55, none⟩)) rfl (fun _ _ => by go_simp) HS ?_
    refine takeV 5 (.int .i64 nu) rfl (fun w' hw' => by obtain ⟨c1, c2, c3⟩ := hw'; go_simp) HS ?_
    refine takeV 6 (.bool true) rfl (fun _ _ => by go_simp) HS ?_
    refine takeV 7 (.bool true) rfl (fun _ _ => by go_simp) HS ?_
    refine takeV 8 (.bool true) rfl (fun _ _ => by go_simp) HS ?_
    refine takeU 9 rfl HS ?_
    refine takeU 10 rfl HS ?_
    refine takeU 11 rfl HS ?_
    refine takeV 12 (.bool true) rfl (fun _ _ => by go_simp) HS ?_
    refine takeV 13 (.bool true) rfl (fun _ _ => by go_simp) HS ?_
    refine takeU 14 rfl HS ?_
    refine takeU 15 rfl HS ?_
    refine takeU 16 rfl HS ?_
    refine takeV 17 (.bool true) rfl (fun _ _ => by go_simp) HS ?_
    refine takeV 18 (.bool true) rfl (fun _ _ => by go_simp) HS ?_
    refine takeU 19 rfl HS ?_
    refine takeU 20 rfl HS ?_
    refine takeU 21 rfl HS ?_
    refine takeV 22 (.bool true) rfl (fun _ _ => by go_simp) HS ?_
    refine takeV 23 (.bool true) rfl (fun _ _ => by go_simp) HS ?_
    refine takeU 24 rfl HS ?_
    refine takeU 25 rfl HS ?_
    refine takeU 26 rfl HS ?_
    refine takeU 27 rfl HS ?_
    refine takeU 28 rfl HS ?_
    refine takeU 29 rfl HS ?_
    refine takeV 30 (.bool true) rfl (fun _ _ => by go_simp) HS ?_
    refine wpAnyH_done (by kernel_rfl) ?_ _
    clear HS
    go_simp
    refine ‹∀ (a : Act) (w_1 : World), _ → _› _ _ ?_
    go_wp2_with fail
    go_ret
    exact ⟨by rw [F.out]; rfl, B0.out.trans (b9.out.mono B0.out.size)⟩
  have p2 : decide (1000 < nu) = false := decide_eq_false h2
  by_cases h3 : ht < 1
  · have p3 : decide (ht < 1) = true := decide_eq_true h3
    have F : Hid (T = 2) := Lib.hid (by rw [TD8.out, p1, p2, show heightB ht = false by unfold heightB; rw [decide_eq_false (show ¬ (1 ≤ ht) by omega)]; rfl]; rfl)
    clear TD8
    go_upto_region 21 with fail
    have HS : (fun wx : World => wx.cell? ⟨w.heap.size, 55, none⟩ = some (.int .i64 nu) ∧ wx.cell? ⟨w.heap.size, 56, none⟩ = some (.int .i64 ht) ∧ wx.cell? ⟨w.heap.size, 73, none⟩ = some (.int .i64 lf)) w8.drew := ⟨g55, g56, g73⟩
    refine wp_region_held (S := fun wx : World => wx.cell? ⟨w.heap.size, 55, none⟩ = some (.int .i64 nu) ∧ wx.cell? ⟨w.heap.size, 56, none⟩ = some (.int .i64 ht) ∧ wx.cell? ⟨w.heap.size, 73, none⟩ = some (.int .i64 lf)) (by kernel_rfl) ?_
    change wpAnyH _ _ _ _ _ _ _ _ w8.drew
    obtain ⟨wd, hwd⟩ : ∃ wd, wd = w8.drew := ⟨_, rfl⟩
    have b9 : Hid (Below w0.heap.size w0 wd) := Lib.hid (by rw [hwd]; exact b8.out.drew)
    have f0 : wd.cell? ⟨w.heap.size, 74, none⟩ = some (.string bo) := F74.out wd b9.out
    rw [← hwd] at HS ⊢
    clear hwd g55 g56 g73
    refine takeV 0 (.pointer (some ⟨w.heap.size, 55, none⟩)) rfl (fun _ _ => by go_simp) HS ?_
    refine takeV 1 (.int .i64 nu) rfl (fun w' hw' => by obtain ⟨c1, c2, c3⟩ := hw'; go_simp) HS ?_
    refine takeV 2 (.bool false) rfl (fun _ _ => by go_simp) HS ?_
    refine takeV 3 (.bool false) rfl (fun _ _ => by go_simp) HS ?_
    refine takeV 4 (.pointer (some ⟨w.heap.size, 55, none⟩)) rfl (fun _ _ => by go_simp) HS ?_
    refine takeV 5 (.int .i64 nu) rfl (fun w' hw' => by obtain ⟨c1, c2, c3⟩ := hw'; go_simp) HS ?_
    refine takeV 6 (.bool false) rfl (fun _ _ => by go_simp) HS ?_
    refine takeV 7 (.bool false) rfl (fun _ _ => by go_simp) HS ?_
    refine takeV 8 (.bool false) rfl (fun _ _ => by go_simp) HS ?_
    refine takeV 9 (.pointer (some ⟨w.heap.size, 56, none⟩)) rfl (fun _ _ => by go_simp) HS ?_
    refine takeV 10 (.int .i64 ht) rfl (fun w' hw' => by obtain ⟨c1, c2, c3⟩ := hw'; go_simp) HS ?_
    refine takeV 11 (.bool true) rfl (fun _ _ => by go_simp) HS ?_
    refine takeV 12 (.bool true) rfl (fun _ _ => by go_simp) HS ?_
    refine takeV 13 (.bool true) rfl (fun _ _ => by go_simp) HS ?_
    refine takeU 14 rfl HS ?_
    refine takeU 15 rfl HS ?_
    refine takeU 16 rfl HS ?_
    refine takeV 17 (.bool true) rfl (fun _ _ => by go_simp) HS ?_
    refine takeV 18 (.bool true) rfl (fun _ _ => by go_simp) HS ?_
    refine takeU 19 rfl HS ?_
    refine takeU 20 rfl HS ?_
    refine takeU 21 rfl HS ?_
    refine takeV 22 (.bool true) rfl (fun _ _ => by go_simp) HS ?_
    refine takeV 23 (.bool true) rfl (fun _ _ => by go_simp) HS ?_
    refine takeU 24 rfl HS ?_
    refine takeU 25 rfl HS ?_
    refine takeU 26 rfl HS ?_
    refine takeU 27 rfl HS ?_
    refine takeU 28 rfl HS ?_
    refine takeU 29 rfl HS ?_
    refine takeV 30 (.bool true) rfl (fun _ _ => by go_simp) HS ?_
    refine wpAnyH_done (by kernel_rfl) ?_ _
    clear HS
    go_simp
    refine ‹∀ (a : Act) (w_1 : World), _ → _› _ _ ?_
    go_wp2_with fail
    go_ret
    exact ⟨by rw [F.out]; rfl, B0.out.trans (b9.out.mono B0.out.size)⟩
  have p3 : decide (ht < 1) = false := decide_eq_false h3
  by_cases h4 : 8 < ht
  · have p4 : decide (8 < ht) = true := decide_eq_true h4
    have F : Hid (T = 2) := Lib.hid (by rw [TD8.out, p1, p2, show heightB ht = false by unfold heightB; rw [decide_eq_true (show 1 ≤ ht by omega), decide_eq_false (show ¬ (ht ≤ 8) by omega)]; rfl]; rfl)
    clear TD8
    go_upto_region 21 with fail
    have HS : (fun wx : World => wx.cell? ⟨w.heap.size, 55, none⟩ = some (.int .i64 nu) ∧ wx.cell? ⟨w.heap.size, 56, none⟩ = some (.int .i64 ht) ∧ wx.cell? ⟨w.heap.size, 73, none⟩ = some (.int .i64 lf)) w8.drew := ⟨g55, g56, g73⟩
    refine wp_region_held (S := fun wx : World => wx.cell? ⟨w.heap.size, 55, none⟩ = some (.int .i64 nu) ∧ wx.cell? ⟨w.heap.size, 56, none⟩ = some (.int .i64 ht) ∧ wx.cell? ⟨w.heap.size, 73, none⟩ = some (.int .i64 lf)) (by kernel_rfl) ?_
    change wpAnyH _ _ _ _ _ _ _ _ w8.drew
    obtain ⟨wd, hwd⟩ : ∃ wd, wd = w8.drew := ⟨_, rfl⟩
    have b9 : Hid (Below w0.heap.size w0 wd) := Lib.hid (by rw [hwd]; exact b8.out.drew)
    have f0 : wd.cell? ⟨w.heap.size, 74, none⟩ = some (.string bo) := F74.out wd b9.out
    rw [← hwd] at HS ⊢
    clear hwd g55 g56 g73
    refine takeV 0 (.pointer (some ⟨w.heap.size, 55, none⟩)) rfl (fun _ _ => by go_simp) HS ?_
    refine takeV 1 (.int .i64 nu) rfl (fun w' hw' => by obtain ⟨c1, c2, c3⟩ := hw'; go_simp) HS ?_
    refine takeV 2 (.bool false) rfl (fun _ _ => by go_simp) HS ?_
    refine takeV 3 (.bool false) rfl (fun _ _ => by go_simp) HS ?_
    refine takeV 4 (.pointer (some ⟨w.heap.size, 55, none⟩)) rfl (fun _ _ => by go_simp) HS ?_
    refine takeV 5 (.int .i64 nu) rfl (fun w' hw' => by obtain ⟨c1, c2, c3⟩ := hw'; go_simp) HS ?_
    refine takeV 6 (.bool false) rfl (fun _ _ => by go_simp) HS ?_
    refine takeV 7 (.bool false) rfl (fun _ _ => by go_simp) HS ?_
    refine takeV 8 (.bool false) rfl (fun _ _ => by go_simp) HS ?_
    refine takeV 9 (.pointer (some ⟨w.heap.size, 56, none⟩)) rfl (fun _ _ => by go_simp) HS ?_
    refine takeV 10 (.int .i64 ht) rfl (fun w' hw' => by obtain ⟨c1, c2, c3⟩ := hw'; go_simp) HS ?_
    refine takeV 11 (.bool false) rfl (fun _ _ => by go_simp) HS ?_
    refine takeV 12 (.bool false) rfl (fun _ _ => by go_simp) HS ?_
    refine takeV 13 (.bool false) rfl (fun _ _ => by go_simp) HS ?_
    refine takeV 14 (.pointer (some ⟨w.heap.size, 56, none⟩)) rfl (fun _ _ => by go_simp) HS ?_
    refine takeV 15 (.int .i64 ht) rfl (fun w' hw' => by obtain ⟨c1, c2, c3⟩ := hw'; go_simp) HS ?_
    refine takeV 16 (.bool true) rfl (fun _ _ => by go_simp) HS ?_
    refine takeV 17 (.bool true) rfl (fun _ _ => by go_simp) HS ?_
    refine takeV 18 (.bool true) rfl (fun _ _ => by go_simp) HS ?_
    refine takeU 19 rfl HS ?_
    refine takeU 20 rfl HS ?_
    refine takeU 21 rfl HS ?_
    refine takeV 22 (.bool true) rfl (fun _ _ => by go_simp) HS ?_
    refine takeV 23 (.bool true) rfl (fun _ _ => by go_simp) HS ?_
    refine takeU 24 rfl HS ?_
    refine takeU 25 rfl HS ?_
    refine takeU 26 rfl HS ?_
    refine takeU 27 rfl HS ?_
    refine takeU 28 rfl HS ?_
    refine takeU 29 rfl HS ?_
    refine takeV 30 (.bool true) rfl (fun _ _ => by go_simp) HS ?_
    refine wpAnyH_done (by kernel_rfl) ?_ _
    clear HS
    go_simp
    refine ‹∀ (a : Act) (w_1 : World), _ → _› _ _ ?_
    go_wp2_with fail
    go_ret
    exact ⟨by rw [F.out]; rfl, B0.out.trans (b9.out.mono B0.out.size)⟩
  have p4 : decide (8 < ht) = false := decide_eq_false h4
  have TD9 : Hid (T = fe (eIf (decide (lf < 0) || decide ((2 : Int) ^ ht.toNat ≤ lf)) 2) (fe (eIf (decide (57344 < bo.size)) 5) v12)) := Lib.hid (by
    rw [TD8.out, p1, p2, show heightB ht = true by unfold heightB; rw [decide_eq_true (show 1 ≤ ht by omega), decide_eq_true (show ht ≤ 8 by omega)]; rfl, leavesN_in (show 1 ≤ ht by omega) (show ht ≤ 8 by omega)]; rfl)
  clear TD8
  have TD8 := TD9
  clear TD9
  by_cases h5 : lf < 0
  · have p5 : decide (lf < 0) = true := decide_eq_true h5
    have F : Hid (T = 2) := Lib.hid (by rw [TD8.out, p5]; rfl)
    clear TD8
    go_upto_region 21 with fail
    have HS : (fun wx : World => wx.cell? ⟨w.heap.size, 55, none⟩ = some (.int .i64 nu) ∧ wx.cell? ⟨w.heap.size, 56, none⟩ = some (.int .i64 ht) ∧ wx.cell? ⟨w.heap.size, 73, none⟩ = some (.int .i64 lf)) w8.drew := ⟨g55, g56, g73⟩
    refine wp_region_held (S := fun wx : World => wx.cell? ⟨w.heap.size, 55, none⟩ = some (.int .i64 nu) ∧ wx.cell? ⟨w.heap.size, 56, none⟩ = some (.int .i64 ht) ∧ wx.cell? ⟨w.heap.size, 73, none⟩ = some (.int .i64 lf)) (by kernel_rfl) ?_
    change wpAnyH _ _ _ _ _ _ _ _ w8.drew
    obtain ⟨wd, hwd⟩ : ∃ wd, wd = w8.drew := ⟨_, rfl⟩
    have b9 : Hid (Below w0.heap.size w0 wd) := Lib.hid (by rw [hwd]; exact b8.out.drew)
    have f0 : wd.cell? ⟨w.heap.size, 74, none⟩ = some (.string bo) := F74.out wd b9.out
    rw [← hwd] at HS ⊢
    clear hwd g55 g56 g73
    refine takeV 0 (.pointer (some ⟨w.heap.size, 55, none⟩)) rfl (fun _ _ => by go_simp) HS ?_
    refine takeV 1 (.int .i64 nu) rfl (fun w' hw' => by obtain ⟨c1, c2, c3⟩ := hw'; go_simp) HS ?_
    refine takeV 2 (.bool false) rfl (fun _ _ => by go_simp) HS ?_
    refine takeV 3 (.bool false) rfl (fun _ _ => by go_simp) HS ?_
    refine takeV 4 (.pointer (some ⟨w.heap.size, 55, none⟩)) rfl (fun _ _ => by go_simp) HS ?_
    refine takeV 5 (.int .i64 nu) rfl (fun w' hw' => by obtain ⟨c1, c2, c3⟩ := hw'; go_simp) HS ?_
    refine takeV 6 (.bool false) rfl (fun _ _ => by go_simp) HS ?_
    refine takeV 7 (.bool false) rfl (fun _ _ => by go_simp) HS ?_
    refine takeV 8 (.bool false) rfl (fun _ _ => by go_simp) HS ?_
    refine takeV 9 (.pointer (some ⟨w.heap.size, 56, none⟩)) rfl (fun _ _ => by go_simp) HS ?_
    refine takeV 10 (.int .i64 ht) rfl (fun w' hw' => by obtain ⟨c1, c2, c3⟩ := hw'; go_simp) HS ?_
    refine takeV 11 (.bool false) rfl (fun _ _ => by go_simp) HS ?_
    refine takeV 12 (.bool false) rfl (fun _ _ => by go_simp) HS ?_
    refine takeV 13 (.bool false) rfl (fun _ _ => by go_simp) HS ?_
    refine takeV 14 (.pointer (some ⟨w.heap.size, 56, none⟩)) rfl (fun _ _ => by go_simp) HS ?_
    refine takeV 15 (.int .i64 ht) rfl (fun w' hw' => by obtain ⟨c1, c2, c3⟩ := hw'; go_simp) HS ?_
    refine takeV 16 (.bool false) rfl (fun _ _ => by go_simp) HS ?_
    refine takeV 17 (.bool false) rfl (fun _ _ => by go_simp) HS ?_
    refine takeV 18 (.bool false) rfl (fun _ _ => by go_simp) HS ?_
    refine takeV 19 (.pointer (some ⟨w.heap.size, 73, none⟩)) rfl (fun _ _ => by go_simp) HS ?_
    refine takeV 20 (.int .i64 lf) rfl (fun w' hw' => by obtain ⟨c1, c2, c3⟩ := hw'; go_simp) HS ?_
    refine takeV 21 (.bool true) rfl (fun _ _ => by go_simp) HS ?_
    refine takeV 22 (.bool true) rfl (fun _ _ => by go_simp) HS ?_
    refine takeV 23 (.bool true) rfl (fun _ _ => by go_simp) HS ?_
    refine takeU 24 rfl HS ?_
    refine takeU 25 rfl HS ?_
    refine takeU 26 rfl HS ?_
    refine takeU 27 rfl HS ?_
    refine takeU 28 rfl HS ?_
    refine takeU 29 rfl HS ?_
    refine takeV 30 (.bool true) rfl (fun _ _ => by go_simp) HS ?_
    refine wpAnyH_done (by kernel_rfl) ?_ _
    clear HS
    go_simp
    refine ‹∀ (a : Act) (w_1 : World), _ → _› _ _ ?_
    go_wp2_with fail
    go_ret
    exact ⟨by rw [F.out]; rfl, B0.out.trans (b9.out.mono B0.out.size)⟩
  have p5 : decide (lf < 0) = false := decide_eq_false h5
  obtain ⟨N, hN⟩ : ∃ N : Int, N = 2 ^ ht.toNat := ⟨_, rfl⟩
  have SH : Hid (∀ (o : Oper) (a : Act) (w : World) (x : Operand), o.op = .binOp .shl 3 (.const (.int .i64 1)) x 3 → a.eval x = .int .i64 ht → (execOp a.eval o).run Tryz.prog w = .ok (.value (.int .i64 N)) w) := Lib.hid (fun o a w x ho hx => by rw [hN]; exact exec_shl1 ho hx (by omega) (by omega))
  rw [← hN] at TD8
  clear hN
  by_cases h6 : N ≤ lf
  · have p6 : decide (N ≤ lf) = true := decide_eq_true h6
    have F : Hid (T = 2) := Lib.hid (by rw [TD8.out, p5, p6]; rfl)
    clear TD8
    go_upto_region 21 with fail
    have HS : (fun wx : World => wx.cell? ⟨w.heap.size, 55, none⟩ = some (.int .i64 nu) ∧ wx.cell? ⟨w.heap.size, 56, none⟩ = some (.int .i64 ht) ∧ wx.cell? ⟨w.heap.size, 73, none⟩ = some (.int .i64 lf)) w8.drew := ⟨g55, g56, g73⟩
    refine wp_region_held (S := fun wx : World => wx.cell? ⟨w.heap.size, 55, none⟩ = some (.int .i64 nu) ∧ wx.cell? ⟨w.heap.size, 56, none⟩ = some (.int .i64 ht) ∧ wx.cell? ⟨w.heap.size, 73, none⟩ = some (.int .i64 lf)) (by kernel_rfl) ?_
    change wpAnyH _ _ _ _ _ _ _ _ w8.drew
    obtain ⟨wd, hwd⟩ : ∃ wd, wd = w8.drew := ⟨_, rfl⟩
    have b9 : Hid (Below w0.heap.size w0 wd) := Lib.hid (by rw [hwd]; exact b8.out.drew)
    have f0 : wd.cell? ⟨w.heap.size, 74, none⟩ = some (.string bo) := F74.out wd b9.out
    rw [← hwd] at HS ⊢
    clear hwd g55 g56 g73
    refine takeV 0 (.pointer (some ⟨w.heap.size, 55, none⟩)) rfl (fun _ _ => by go_simp) HS ?_
    refine takeV 1 (.int .i64 nu) rfl (fun w' hw' => by obtain ⟨c1, c2, c3⟩ := hw'; go_simp) HS ?_
    refine takeV 2 (.bool false) rfl (fun _ _ => by go_simp) HS ?_
    refine takeV 3 (.bool false) rfl (fun _ _ => by go_simp) HS ?_
    refine takeV 4 (.pointer (some ⟨w.heap.size, 55, none⟩)) rfl (fun _ _ => by go_simp) HS ?_
    refine takeV 5 (.int .i64 nu) rfl (fun w' hw' => by obtain ⟨c1, c2, c3⟩ := hw'; go_simp) HS ?_
    refine takeV 6 (.bool false) rfl (fun _ _ => by go_simp) HS ?_
    refine takeV 7 (.bool false) rfl (fun _ _ => by go_simp) HS ?_
    refine takeV 8 (.bool false) rfl (fun _ _ => by go_simp) HS ?_
    refine takeV 9 (.pointer (some ⟨w.heap.size, 56, none⟩)) rfl (fun _ _ => by go_simp) HS ?_
    refine takeV 10 (.int .i64 ht) rfl (fun w' hw' => by obtain ⟨c1, c2, c3⟩ := hw'; go_simp) HS ?_
    refine takeV 11 (.bool false) rfl (fun _ _ => by go_simp) HS ?_
    refine takeV 12 (.bool false) rfl (fun _ _ => by go_simp) HS ?_
    refine takeV 13 (.bool false) rfl (fun _ _ => by go_simp) HS ?_
    refine takeV 14 (.pointer (some ⟨w.heap.size, 56, none⟩)) rfl (fun _ _ => by go_simp) HS ?_
    refine takeV 15 (.int .i64 ht) rfl (fun w' hw' => by obtain ⟨c1, c2, c3⟩ := hw'; go_simp) HS ?_
    refine takeV 16 (.bool false) rfl (fun _ _ => by go_simp) HS ?_
    refine takeV 17 (.bool false) rfl (fun _ _ => by go_simp) HS ?_
    refine takeV 18 (.bool false) rfl (fun _ _ => by go_simp) HS ?_
    refine takeV 19 (.pointer (some ⟨w.heap.size, 73, none⟩)) rfl (fun _ _ => by go_simp) HS ?_
    refine takeV 20 (.int .i64 lf) rfl (fun w' hw' => by obtain ⟨c1, c2, c3⟩ := hw'; go_simp) HS ?_
    refine takeV 21 (.bool false) rfl (fun _ _ => by go_simp) HS ?_
    refine takeV 22 (.bool false) rfl (fun _ _ => by go_simp) HS ?_
    refine takeV 23 (.bool false) rfl (fun _ _ => by go_simp) HS ?_
    refine takeV 24 (.pointer (some ⟨w.heap.size, 73, none⟩)) rfl (fun _ _ => by go_simp) HS ?_
    refine takeV 25 (.int .i64 lf) rfl (fun w' hw' => by obtain ⟨c1, c2, c3⟩ := hw'; go_simp) HS ?_
    refine takeV 26 (.pointer (some ⟨w.heap.size, 56, none⟩)) rfl (fun _ _ => by go_simp) HS ?_
    refine takeV 27 (.int .i64 ht) rfl (fun w' hw' => by obtain ⟨c1, c2, c3⟩ := hw'; go_simp) HS ?_
    refine takeV 28 (.int .i64 N) rfl (fun _ _ => SH.out _ _ _ _ rfl (by kernel_rfl)) HS ?_
    refine takeV 29 (.bool true) rfl (fun _ _ => by go_simp) HS ?_
    refine takeV 30 (.bool true) rfl (fun _ _ => by go_simp) HS ?_
    refine wpAnyH_done (by kernel_rfl) ?_ _
    clear HS
    go_simp
    refine ‹∀ (a : Act) (w_1 : World), _ → _› _ _ ?_
    go_wp2_with fail
    go_ret
    exact ⟨by rw [F.out]; rfl, B0.out.trans (b9.out.mono B0.out.size)⟩
  · have p6 : decide (N ≤ lf) = false := decide_eq_false h6
    have TD10 : Hid (T = fe (eIf (decide (57344 < bo.size)) 5) v12) := Lib.hid (by rw [TD8.out, p5, p6]; rfl)
    clear TD8
    go_upto_region 21 with fail
    have HS : (fun wx : World => wx.cell? ⟨w.heap.size, 55, none⟩ = some (.int .i64 nu) ∧ wx.cell? ⟨w.heap.size, 56, none⟩ = some (.int .i64 ht) ∧ wx.cell? ⟨w.heap.size, 73, none⟩ = some (.int .i64 lf)) w8.drew := ⟨g55, g56, g73⟩
    refine wp_region_held (S := fun wx : World => wx.cell? ⟨w.heap.size, 55, none⟩ = some (.int .i64 nu) ∧ wx.cell? ⟨w.heap.size, 56, none⟩ = some (.int .i64 ht) ∧ wx.cell? ⟨w.heap.size, 73, none⟩ = some (.int .i64 lf)) (by kernel_rfl) ?_
    change wpAnyH _ _ _ _ _ _ _ _ w8.drew
    obtain ⟨wd, hwd⟩ : ∃ wd, wd = w8.drew := ⟨_, rfl⟩
    have b9 : Hid (Below w0.heap.size w0 wd) := Lib.hid (by rw [hwd]; exact b8.out.drew)
    have f0 : wd.cell? ⟨w.heap.size, 74, none⟩ = some (.string bo) := F74.out wd b9.out
    rw [← hwd] at HS ⊢
    clear hwd g55 g56 g73
    refine takeV 0 (.pointer (some ⟨w.heap.size, 55, none⟩)) rfl (fun _ _ => by go_simp) HS ?_
    refine takeV 1 (.int .i64 nu) rfl (fun w' hw' => by obtain ⟨c1, c2, c3⟩ := hw'; go_simp) HS ?_
    refine takeV 2 (.bool false) rfl (fun _ _ => by go_simp) HS ?_
    refine takeV 3 (.bool false) rfl (fun _ _ => by go_simp) HS ?_
    refine takeV 4 (.pointer (some ⟨w.heap.size, 55, none⟩)) rfl (fun _ _ => by go_simp) HS ?_
    refine takeV 5 (.int .i64 nu) rfl (fun w' hw' => by obtain ⟨c1, c2, c3⟩ := hw'; go_simp) HS ?_
    refine takeV 6 (.bool false) rfl (fun _ _ => by go_simp) HS ?_
    refine takeV 7 (.bool false) rfl (fun _ _ => by go_simp) HS ?_
    refine takeV 8 (.bool false) rfl (fun _ _ => by go_simp) HS ?_
    refine takeV 9 (.pointer (some ⟨w.heap.size, 56, none⟩)) rfl (fun _ _ => by go_simp) HS ?_
    refine takeV 10 (.int .i64 ht) rfl (fun w' hw' => by obtain ⟨c1, c2, c3⟩ := hw'; go_simp) HS ?_
    refine takeV 11 (.bool false) rfl (fun _ _ => by go_simp) HS ?_
    refine takeV 12 (.bool false) rfl (fun _ _ => by go_simp) HS ?_
    refine takeV 13 (.bool false) rfl (fun _ _ => by go_simp) HS ?_
    refine takeV 14 (.pointer (some ⟨w.heap.size, 56, none⟩)) rfl (fun _ _ => by go_simp) HS ?_
    refine takeV 15 (.int .i64 ht) rfl (fun w' hw' => by obtain ⟨c1, c2, c3⟩ := hw'; go_simp) HS ?_
    refine takeV 16 (.bool false) rfl (fun _ _ => by go_simp) HS ?_
    refine takeV 17 (.bool false) rfl (fun _ _ => by go_simp) HS ?_
    refine takeV 18 (.bool false) rfl (fun _ _ => by go_simp) HS ?_
    refine takeV 19 (.pointer (some ⟨w.heap.size, 73, none⟩)) rfl (fun _ _ => by go_simp) HS ?_
    refine takeV 20 (.int .i64 lf) rfl (fun w' hw' => by obtain ⟨c1, c2, c3⟩ := hw'; go_simp) HS ?_
    refine takeV 21 (.bool false) rfl (fun _ _ => by go_simp) HS ?_
    refine takeV 22 (.bool false) rfl (fun _ _ => by go_simp) HS ?_
    refine takeV 23 (.bool false) rfl (fun _ _ => by go_simp) HS ?_
    refine takeV 24 (.pointer (some ⟨w.heap.size, 73, none⟩)) rfl (fun _ _ => by go_simp) HS ?_
    refine takeV 25 (.int .i64 lf) rfl (fun w' hw' => by obtain ⟨c1, c2, c3⟩ := hw'; go_simp) HS ?_
    refine takeV 26 (.pointer (some ⟨w.heap.size, 56, none⟩)) rfl (fun _ _ => by go_simp) HS ?_
    refine takeV 27 (.int .i64 ht) rfl (fun w' hw' => by obtain ⟨c1, c2, c3⟩ := hw'; go_simp) HS ?_
    refine takeV 28 (.int .i64 N) rfl (fun _ _ => SH.out _ _ _ _ rfl (by kernel_rfl)) HS ?_
    refine takeV 29 (.bool false) rfl (fun _ _ => by go_simp) HS ?_
    refine takeV 30 (.bool false) rfl (fun _ _ => by go_simp) HS ?_
    refine wpAnyH_done (by kernel_rfl) ?_ _
    clear HS
    go_simp
    refine ‹∀ (a : Act) (w_1 : World), _ → _› _ _ ?_
    by_cases h7 : 57344 < bo.size
    · have F : Hid (T = 5) := Lib.hid (by rw [TD10.out, decide_eq_true h7]; rfl)
      clear TD10
      go_wp2_with fail
      go_ret
      exact ⟨by rw [F.out]; rfl, B0.out.trans (b9.out.mono B0.out.size)⟩
    · have F : Hid (T = v12) := Lib.hid (by rw [TD10.out, decide_eq_false h7]; rfl)
      clear TD10
      go_wp2_with fail
      refine (K12.out wd).mono ?_
      intro e w10 hp
      obtain ⟨n, rfl, hb⟩ := BPD.out _ _ _ hp
      have b10 := Lib.hid (b9.out.trans (hb.mono b9.out.size))
      clear hp hb K12 BPD
      go_wp2_with fail
      go_ret
      exact ⟨by rw [F.out]; rfl, B0.out.trans (b10.out.mono B0.out.size)⟩
end Go.Proofs.YtohmdledkhgdaaaGreatDoor
