/- (Content).Check (printed by gen_chk.py). -/
import Derived.Test.YtohmdledkhgdaaaGreatDoorLo20
import Derived.Test.YtohmdledkhgdaaaGreatDoorLo21
namespace Go.Proofs.YtohmdledkhgdaaaGreatDoor
open Go.RowKit
set_option linter.unusedVariables false
set_option maxRecDepth 100000
/-- A content of moderate size, its lists in memory. -/
structure CnIn (w : World) (c : Cn) (gv rv : Value) : Prop where
  ok : c.Ok
  name : c.name.size ≤ 1000000
  subject : c.subject.size ≤ 1000000
  ctl : c.ctl.size ≤ 1000000
  dist : c.dist.size ≤ 1000000
  body : c.body.size ≤ 1000000
  gl : c.groups.length ≤ 1000000
  gz : ∀ g ∈ c.groups, g.size ≤ 1000000
  rl : c.refs.length ≤ 1000000
  srow : SRow w gv c.groups
  irow : IRow w rv c.refs
theorem CnIn.on {w w' : World} {c : Cn} {gv rv : Value} (h : CnIn w c gv rv) (hb : Below w.heap.size w w') : CnIn w' c gv rv := ⟨h.ok, h.name, h.subject, h.ctl, h.dist, h.body, h.gl, h.gz, h.rl, h.srow.below hb, h.irow.below hb⟩
/-- The worlds of Check: the checker holds n. -/
structure ChI (w : World) (c : Cn) (gv rv : Value) (n : Nat) (wx : World) : Prop where
  ck : Ck wx (w.heap.size + 1) n
  fr : Below w.heap.size w wx
  cb : CB wx w.heap.size c gv rv 37
  env : Env wx
  inp : CnIn wx c gv rv
section
variable {w : World} {c : Cn} {gv rv : Value} {n : Nat} {wx wy : World} (h : ChI w c gv rv n wx)
include h
theorem ChI.on (hb : Below wx.heap.size wx wy) : ChI w c gv rv n wy := ⟨h.ck.below hb, h.fr.trans (hb.mono h.fr.size), h.cb.on hb, h.env.on hb, h.inp.on hb⟩
theorem ChI.step {m : Nat} (hw : CnIn w c gv rv) (hE : Env w) (h1 : Ck wy (w.heap.size + 1) m) (hf : Fr1 (w.heap.size + 1) wx wy) : ChI w c gv rv m wy := by
  have b := h.fr.trans (hf.below h.fr.size (Nat.le_succ _))
  exact ⟨h1, b, h.cb.fr hf (by omega), hE.on b, hw.on b⟩
end
theorem wp_enter {P : Program} {Q : Exit → Act → World → Prop} {K : Act → World → Prop} {a : Act} {w : World} {o : Oper} {f : FuncId} {args : Array Value} (he : (execOp a.eval o).run P w = .ok (.enter f args) w)
    (hc : Calls P f args w fun e w' => ∃ v, e = .returned v ∧ K (a.put o.dst v) w') : o.wp P a w K Q := by
  unfold Oper.wp
  rw [he, Oper.upon_enter]
  exact hc.mono fun e w' ⟨v, h1, h2⟩ => by subst h1; exact h2
theorem anyH_call {P : Program} {md : Region.Mode} {ops : Array Oper} {Q : Exit → Act → World → Prop} {S : World → Prop} {i : Nat} {o : Oper} {fuel : Nat} {listed : Array Bool} {a : Act} {w : World} {f : FuncId} {args : Array Value} (hr : Region.ready md ops listed = [i]) (ho : ops[i]? = some o) (hw : Region.wanted o (yielded ops a.tmps) = true)
    (he : (execOp a.eval o).run P w = .ok (.enter f args) w)
    (hc : Calls P f args w fun e w' => ∃ v, e = .returned v ∧ S w' ∧ wpAnyH P md ops Q S fuel (listed.setIfInBounds i true) (a.put o.dst v) w') : wpAnyH P md ops Q S (fuel + 1) listed a w :=
  wpAnyH_all hr (by simp) (fun j hj => by
    obtain rfl : j = i := by simpa using hj
    unfold wpOp
    simp only [ho]
    rw [if_pos hw]
    exact .inl (wp_enter he hc))
set_option maxHeartbeats 1000000 in
theorem check_any (w : World) (c : Cn) (gv rv : Value) (hin : CnIn w c gv rv) (hE : Env w) :
    Calls Tryz.prog 20 #[.agg (c.cells gv rv)] w fun e w' => e = .returned (.int .i64 (chkF c.p : Nat)) ∧ Below w.heap.size w w' := by
  have HIN := Lib.hid hin
  have HE := Lib.hid hE
  have OK := Lib.hid hin.ok
  have LAW : Hid (chkF c.p = (fe (textF (bs c.name) 60) (fe (eIf (decide (c.date < 0) || decide (105190559 < c.date)) 13) (fe (groupsF (c.groups.map bs)) (fe (textF (bs c.subject) 200) (fe (refsF c.refs) (fe (ctlF c.p) (fe (distF (bs c.dist)) (fe (eIf (decide (c.number < 0) || decide (1000 < c.number)) 2) (fe (eIf (!heightB c.height) 2) (fe (eIf (decide (c.leaf < 0) || decide (leavesN c.height ≤ c.leaf)) 2) (fe (eIf (decide (57344 < c.body.size)) 5) (bodyF (bs c.body)))))))))))))) := Lib.hid (by
    rw [← bs_length c.body]
    rfl)
  obtain ⟨p0, hp0⟩ : ∃ p, p = textF (bs c.name) 60 := ⟨_, rfl⟩
  obtain ⟨p1, hp1⟩ : ∃ p, p = eIf (decide (c.date < 0) || decide (105190559 < c.date)) 13 := ⟨_, rfl⟩
  obtain ⟨p2, hp2⟩ : ∃ p, p = groupsF (c.groups.map bs) := ⟨_, rfl⟩
  obtain ⟨p3, hp3⟩ : ∃ p, p = textF (bs c.subject) 200 := ⟨_, rfl⟩
  obtain ⟨p4, hp4⟩ : ∃ p, p = refsF c.refs := ⟨_, rfl⟩
  obtain ⟨p5, hp5⟩ : ∃ p, p = ctlF c.p := ⟨_, rfl⟩
  obtain ⟨p6, hp6⟩ : ∃ p, p = distF (bs c.dist) := ⟨_, rfl⟩
  obtain ⟨p7, hp7⟩ : ∃ p, p = eIf (decide (c.number < 0) || decide (1000 < c.number)) 2 := ⟨_, rfl⟩
  obtain ⟨p8, hp8⟩ : ∃ p, p = eIf (!heightB c.height) 2 := ⟨_, rfl⟩
  obtain ⟨p9, hp9⟩ : ∃ p, p = eIf (decide (c.leaf < 0) || decide (leavesN c.height ≤ c.leaf)) 2 := ⟨_, rfl⟩
  obtain ⟨p10, hp10⟩ : ∃ p, p = eIf (decide (57344 < c.body.size)) 5 := ⟨_, rfl⟩
  obtain ⟨p11, hp11⟩ : ∃ p, p = bodyF (bs c.body) := ⟨_, rfl⟩
  rw [← hp0, ← hp1, ← hp2, ← hp3, ← hp4, ← hp5, ← hp6, ← hp7, ← hp8, ← hp9, ← hp10, ← hp11] at LAW
  have HP0 := Lib.hid hp0
  have HP1 := Lib.hid hp1
  have HP2 := Lib.hid hp2
  have HP3 := Lib.hid hp3
  have HP4 := Lib.hid hp4
  have HP5 := Lib.hid hp5
  have HP6 := Lib.hid hp6
  have HP7 := Lib.hid hp7
  have HP8 := Lib.hid hp8
  have HP9 := Lib.hid hp9
  have HP10 := Lib.hid hp10
  have HP11 := Lib.hid hp11
  obtain ⟨w0, hw0⟩ : ∃ w0, w0 = (w.alloc (.cells (c.cells gv rv) 37)).alloc (.cells #[.int .i64 0] 96) := ⟨_, rfl⟩
  have I0 : Hid (ChI w c gv rv 0 w0) := Lib.hid (by
    have b1 : Below w.heap.size w (w.alloc (.cells (c.cells gv rv) 37)) := (Below.refl _ _).alloc (Nat.le_refl _) _
    have b2 : Below (w.alloc (.cells (c.cells gv rv) 37)).heap.size (w.alloc (.cells (c.cells gv rv) 37)) w0 := by rw [hw0]; exact (Below.refl _ _).alloc (Nat.le_refl _) _
    have b := b1.trans (b2.mono (by simp))
    refine ⟨?_, b, (CB.new w c gv rv _).on b2, hE.on b, hin.on b⟩
    have := heap_alloc_new (w.alloc (.cells (c.cells gv rv) 37)) (.cells #[.int .i64 0] 96)
    rw [World.size_alloc, ← hw0] at this
    exact this)
  have hw9 : 9 ≤ w.heap.size + 1 := by have := hE.size; omega
  obtain ⟨cs, hcs⟩ : ∃ cs, cs = c.cells gv rv := ⟨_, rfl⟩
  rw [← hcs] at hw0 ⊢
  have HW := Lib.hid hw0
  clear hcs hw0 hin hE hp0 hp1 hp2 hp3 hp4 hp5 hp6 hp7 hp8 hp9 hp10 hp11
  go_enter Tryz.func20, Tryz.ntmps20
  go_upto_region 2 with fail
  rw [← HW.out]
  clear HW
  have cn : w0.cell? ⟨w.heap.size, 0, none⟩ = some (.string c.name) := I0.out.cb.at (cn_0 c gv rv)
  have K : Hid (Calls Tryz.prog 58 #[.pointer (some ⟨w.heap.size + 1, 0, none⟩), .string c.name, .int .i64 60] w0 (ChkPost w0 (w.heap.size + 1) (fe 0 p0))) := Lib.hid (by rw [HP0.out]; exact text_any w0 (w.heap.size + 1) 0 I0.out.ck c.name 60 HIN.out.name (by omega) I0.out.env hw9)
  go_wp2_with fail
  refine K.out.mono ?_
  rintro e w1 ⟨⟨v1, rfl⟩, h, f⟩
  have I1 := Lib.hid (I0.out.step HIN.out HE.out h f)
  clear h f I0 K cn
  have cd : w1.cell? ⟨w.heap.size, 17, none⟩ = some (.int .i64 c.date) := I1.out.cb.at (cn_17 OK.out gv rv)
  go_upto_region 3 with fail
  go_cut [] (fun wx => Hid (ChI w c gv rv (fe (fe 0 p0) p1) wx))
  case first =>
    have D : (c.date < 0) ∨ (¬ c.date < 0 ∧ 105190559 < c.date) ∨ (¬ c.date < 0 ∧ ¬ 105190559 < c.date) := by omega
    rcases D with d1 | ⟨d1, d2⟩ | ⟨d1, d2⟩
    · have e1 : decide (c.date < 0) = true := decide_eq_true d1
      have hp : p1 = eIf true 13 := by rw [HP1.out, e1]; rfl
      have K : Hid (Calls Tryz.prog 59 #[.pointer (some ⟨w.heap.size + 1, 0, none⟩), .bool true, .int .i64 13] w1 (ChkPost w1 (w.heap.size + 1) (fe (fe 0 p0) p1))) := Lib.hid (by rw [hp]; exact when_any w1 (w.heap.size + 1) _ I1.out.ck true 13)
      clear hp d1
      go_wp2_with fail
      refine K.out.mono ?_
      rintro e wy ⟨⟨v, rfl⟩, h, f⟩
      have I := Lib.hid (I1.out.step HIN.out HE.out h f)
      clear h f K
      go_wp2_with fail
      go_meet
      exact I
    · have e1 : decide (c.date < 0) = false := decide_eq_false d1
      have e2 : decide (105190559 < c.date) = true := decide_eq_true d2
      have hp : p1 = eIf true 13 := by rw [HP1.out, e1, e2]; rfl
      have K : Hid (Calls Tryz.prog 59 #[.pointer (some ⟨w.heap.size + 1, 0, none⟩), .bool true, .int .i64 13] w1 (ChkPost w1 (w.heap.size + 1) (fe (fe 0 p0) p1))) := Lib.hid (by rw [hp]; exact when_any w1 (w.heap.size + 1) _ I1.out.ck true 13)
      clear hp d1 d2
      go_wp2_with fail
      refine K.out.mono ?_
      rintro e wy ⟨⟨v, rfl⟩, h, f⟩
      have I := Lib.hid (I1.out.step HIN.out HE.out h f)
      clear h f K
      go_wp2_with fail
      go_meet
      exact I
    · have e1 : decide (c.date < 0) = false := decide_eq_false d1
      have e2 : decide (105190559 < c.date) = false := decide_eq_false d2
      have hp : p1 = eIf false 13 := by rw [HP1.out, e1, e2]; rfl
      have K : Hid (Calls Tryz.prog 59 #[.pointer (some ⟨w.heap.size + 1, 0, none⟩), .bool false, .int .i64 13] w1 (ChkPost w1 (w.heap.size + 1) (fe (fe 0 p0) p1))) := Lib.hid (by rw [hp]; exact when_any w1 (w.heap.size + 1) _ I1.out.ck false 13)
      clear hp d1 d2
      go_wp2_with fail
      refine K.out.mono ?_
      rintro e wy ⟨⟨v, rfl⟩, h, f⟩
      have I := Lib.hid (I1.out.step HIN.out HE.out h f)
      clear h f K
      go_wp2_with fail
      go_meet
      exact I
  case rest =>
  obtain ⟨w2, hwz⟩ : ∃ x, x = wc := ⟨_, rfl⟩
  rw [← hwz] at hcut ⊢
  have I2 := hcut
  clear hcut hwz I1 cd
  have cg : w2.cell? ⟨w.heap.size, 18, none⟩ = some (gv) := I2.out.cb.at (cn_18 OK.out gv rv)
  have K : Hid (Calls Tryz.prog 52 #[gv] w2 (FmtPost p2 (joinF [44] (c.groups.map bs)) w2)) := Lib.hid (by rw [HP2.out]; exact flist_any w2 gv c.groups I2.out.inp.srow HIN.out.gl HIN.out.gz I2.out.env)
  go_wp2_with fail
  refine K.out.mono ?_
  rintro e w3 ⟨tx, rfl, -, -, hb⟩
  have I3 := Lib.hid (I2.out.on hb)
  clear hb I2 K cg
  have K := Lib.hid (take_any w3 (w.heap.size + 1) _ I3.out.ck p2)
  go_wp2_with fail
  refine K.out.mono ?_
  rintro e w4 ⟨⟨v4, rfl⟩, h, f⟩
  have I4 := Lib.hid (I3.out.step HIN.out HE.out h f)
  clear h f I3 K
  have cs : w4.cell? ⟨w.heap.size, 19, none⟩ = some (.string c.subject) := I4.out.cb.at (cn_19 OK.out gv rv)
  have K : Hid (Calls Tryz.prog 58 #[.pointer (some ⟨w.heap.size + 1, 0, none⟩), .string c.subject, .int .i64 200] w4 (ChkPost w4 (w.heap.size + 1) (fe (fe (fe (fe 0 p0) p1) p2) p3))) := Lib.hid (by rw [HP3.out]; exact text_any w4 (w.heap.size + 1) _ I4.out.ck c.subject 200 HIN.out.subject (by omega) I4.out.env hw9)
  go_wp2_with fail
  refine K.out.mono ?_
  rintro e w5 ⟨⟨v5, rfl⟩, h, f⟩
  have I5 := Lib.hid (I4.out.step HIN.out HE.out h f)
  clear h f I4 K cs
  have cr : w5.cell? ⟨w.heap.size, 20, none⟩ = some (rv) := I5.out.cb.at (cn_20 OK.out gv rv)
  have K : Hid (Calls Tryz.prog 60 #[rv] w5 fun e w' => e = .returned (.int .i64 (p4 : Nat)) ∧ Below w5.heap.size w5 w') := Lib.hid (by rw [HP4.out]; exact rcheck_any w5 rv c.refs I5.out.inp.irow HIN.out.rl OK.out.refs)
  go_wp2_with fail
  refine K.out.mono ?_
  rintro e w6 ⟨rfl, hb⟩
  have I6 := Lib.hid (I5.out.on hb)
  clear hb I5 K cr
  have K := Lib.hid (take_any w6 (w.heap.size + 1) _ I6.out.ck p4)
  go_wp2_with fail
  refine K.out.mono ?_
  rintro e w7 ⟨⟨v7, rfl⟩, h, f⟩
  have I7 := Lib.hid (I6.out.step HIN.out HE.out h f)
  clear h f I6 K
  have LD := Lib.hid (I7.out.cb.all OK.out)
  have K : Hid (Calls Tryz.prog 61 #[.pointer (some ⟨w.heap.size + 1, 0, none⟩), .agg (c.cells gv rv)] w7 (ChkPost w7 (w.heap.size + 1) (fe (fe (fe (fe (fe (fe 0 p0) p1) p2) p3) p4) p5))) := Lib.hid (by rw [HP5.out]; exact cctl_any w7 (w.heap.size + 1) _ I7.out.ck c OK.out gv rv HIN.out.ctl I7.out.env hw9)
  obtain ⟨ds, hds⟩ : ∃ ds, ds = c.cells gv rv := ⟨_, rfl⟩
  rw [← hds] at LD K
  clear hds
  go_upto_region 8 with fail
  refine wp_region_list ?_
  simp only []
  refine wpList_load 37 rfl _ rfl ⟨_, _, rfl, LD.out, ?_⟩
  go_wp2_with fail
  refine K.out.mono ?_
  rintro e w8 ⟨⟨v8, rfl⟩, h, f⟩
  have I8 := Lib.hid (I7.out.step HIN.out HE.out h f)
  clear h f I7 K LD
  have ct : w8.cell? ⟨w.heap.size, 54, none⟩ = some (.string c.dist) := I8.out.cb.at (cn_54 OK.out gv rv)
  have K : Hid (Calls Tryz.prog 62 #[.pointer (some ⟨w.heap.size + 1, 0, none⟩), .string c.dist] w8 (ChkPost w8 (w.heap.size + 1) (fe (fe (fe (fe (fe (fe (fe 0 p0) p1) p2) p3) p4) p5) p6))) := Lib.hid (by rw [HP6.out]; exact dist_any w8 (w.heap.size + 1) _ I8.out.ck c.dist HIN.out.dist)
  go_wp2_with fail
  refine K.out.mono ?_
  rintro e w9 ⟨⟨v9, rfl⟩, h, f⟩
  have I9 := Lib.hid (I8.out.step HIN.out HE.out h f)
  clear h f I8 K ct
  have cu : w9.cell? ⟨w.heap.size, 55, none⟩ = some (.int .i64 c.number) := I9.out.cb.at (cn_55 OK.out gv rv)
  go_upto_region 10 with fail
  go_cut [] (fun wx => Hid (ChI w c gv rv (fe (fe (fe (fe (fe (fe (fe (fe 0 p0) p1) p2) p3) p4) p5) p6) p7) wx))
  case first =>
    have D : (c.number < 0) ∨ (¬ c.number < 0 ∧ 1000 < c.number) ∨ (¬ c.number < 0 ∧ ¬ 1000 < c.number) := by omega
    rcases D with d1 | ⟨d1, d2⟩ | ⟨d1, d2⟩
    · have e1 : decide (c.number < 0) = true := decide_eq_true d1
      have hp : p7 = eIf true 2 := by rw [HP7.out, e1]; rfl
      have K : Hid (Calls Tryz.prog 59 #[.pointer (some ⟨w.heap.size + 1, 0, none⟩), .bool true, .int .i64 2] w9 (ChkPost w9 (w.heap.size + 1) (fe (fe (fe (fe (fe (fe (fe (fe 0 p0) p1) p2) p3) p4) p5) p6) p7))) := Lib.hid (by rw [hp]; exact when_any w9 (w.heap.size + 1) _ I9.out.ck true 2)
      clear hp d1
      go_wp2_with fail
      refine K.out.mono ?_
      rintro e wy ⟨⟨v, rfl⟩, h, f⟩
      have I := Lib.hid (I9.out.step HIN.out HE.out h f)
      clear h f K
      go_wp2_with fail
      go_meet
      exact I
    · have e1 : decide (c.number < 0) = false := decide_eq_false d1
      have e2 : decide (1000 < c.number) = true := decide_eq_true d2
      have hp : p7 = eIf true 2 := by rw [HP7.out, e1, e2]; rfl
      have K : Hid (Calls Tryz.prog 59 #[.pointer (some ⟨w.heap.size + 1, 0, none⟩), .bool true, .int .i64 2] w9 (ChkPost w9 (w.heap.size + 1) (fe (fe (fe (fe (fe (fe (fe (fe 0 p0) p1) p2) p3) p4) p5) p6) p7))) := Lib.hid (by rw [hp]; exact when_any w9 (w.heap.size + 1) _ I9.out.ck true 2)
      clear hp d1 d2
      go_wp2_with fail
      refine K.out.mono ?_
      rintro e wy ⟨⟨v, rfl⟩, h, f⟩
      have I := Lib.hid (I9.out.step HIN.out HE.out h f)
      clear h f K
      go_wp2_with fail
      go_meet
      exact I
    · have e1 : decide (c.number < 0) = false := decide_eq_false d1
      have e2 : decide (1000 < c.number) = false := decide_eq_false d2
      have hp : p7 = eIf false 2 := by rw [HP7.out, e1, e2]; rfl
      have K : Hid (Calls Tryz.prog 59 #[.pointer (some ⟨w.heap.size + 1, 0, none⟩), .bool false, .int .i64 2] w9 (ChkPost w9 (w.heap.size + 1) (fe (fe (fe (fe (fe (fe (fe (fe 0 p0) p1) p2) p3) p4) p5) p6) p7))) := Lib.hid (by rw [hp]; exact when_any w9 (w.heap.size + 1) _ I9.out.ck false 2)
      clear hp d1 d2
      go_wp2_with fail
      refine K.out.mono ?_
      rintro e wy ⟨⟨v, rfl⟩, h, f⟩
      have I := Lib.hid (I9.out.step HIN.out HE.out h f)
      clear h f K
      go_wp2_with fail
      go_meet
      exact I
  case rest =>
  obtain ⟨w10, hwz⟩ : ∃ x, x = wc := ⟨_, rfl⟩
  rw [← hwz] at hcut ⊢
  have I10 := hcut
  clear hcut hwz I9 cu
  have LD := Lib.hid (I10.out.cb.pk OK.out)
  have K : Hid (Calls Tryz.prog 63 #[.agg (pkC c.height c.root)] w10 fun e w' => e = .returned (.int .i64 (p8 : Nat)) ∧ Below w10.heap.size w10 w') := Lib.hid (by rw [HP8.out]; exact pkcheck_any w10 c.height OK.out.root.len)
  obtain ⟨pk, hpk⟩ : ∃ pk, pk = pkC c.height c.root := ⟨_, rfl⟩
  have HPK := Lib.hid hpk
  rw [← hpk] at LD K
  clear hpk
  go_wp2_with ((with_reducible refine wpList_load 35 rfl _ rfl ?_); refine ⟨_, _, rfl, LD.out, ?_⟩)
  refine K.out.mono ?_
  rintro e w11 ⟨rfl, hb⟩
  have I11 := Lib.hid (I10.out.on hb)
  clear hb I10 K LD
  have K := Lib.hid (take_any w11 (w.heap.size + 1) _ I11.out.ck p8)
  go_wp2_with fail
  refine K.out.mono ?_
  rintro e w12 ⟨⟨v12, rfl⟩, h, f⟩
  have I12 := Lib.hid (I11.out.step HIN.out HE.out h f)
  clear h f I11 K
  go_upto_region 12 with fail
  go_cut [] (fun wx => Hid (ChI w c gv rv (fe (fe (fe (fe (fe (fe (fe (fe (fe (fe 0 p0) p1) p2) p3) p4) p5) p6) p7) p8) p9) wx))
  case first =>
    have ID := Lib.hid (I12.out.on (Dr.below ⟨1, rfl⟩ : Below w12.heap.size w12 w12.drew))
    have hB : (fun wx : World => CB wx w.heap.size c gv rv 37) w12.drew := ID.out.cb
    refine wp_region_held (S := fun wx => CB wx w.heap.size c gv rv 37) (by kernel_rfl) ?_
    change wpAnyH _ _ _ _ _ _ _ _ w12.drew
    by_cases d1 : c.leaf < 0
    · have e1 : decide (c.leaf < 0) = true := decide_eq_true d1
      have hp : p9 = eIf true 2 := by rw [HP9.out, e1]; rfl
      have K : Hid (Calls Tryz.prog 59 #[.pointer (some ⟨w.heap.size + 1, 0, none⟩), .bool true, .int .i64 2] w12.drew (ChkPost w12.drew (w.heap.size + 1) (fe (fe (fe (fe (fe (fe (fe (fe (fe (fe 0 p0) p1) p2) p3) p4) p5) p6) p7) p8) p9))) := Lib.hid (by rw [hp]; exact when_any w12.drew (w.heap.size + 1) _ ID.out.ck true 2)
      clear hp d1
      refine takeV 0 (.pointer (some ⟨w.heap.size, 73, none⟩)) rfl (fun _ _ => by go_simp) hB ?_
      refine takeV 1 (.int .i64 c.leaf) rfl (fun w' hw' => by have cl := hw'.at (cn_73 OK.out gv rv); go_simp) hB ?_
      refine takeV 2 (.bool true) rfl (fun _ _ => by go_simp) hB ?_
      refine takeV 3 (.bool true) rfl (fun _ _ => by go_simp) hB ?_
      refine takeU 4 rfl hB ?_
      refine takeU 5 rfl hB ?_
      refine takeU 6 rfl hB ?_
      refine takeU 7 rfl hB ?_
      refine takeU 8 rfl hB ?_
      refine takeU 9 rfl hB ?_
      refine takeV 10 (.bool true) rfl (fun _ _ => by go_simp) hB ?_
      refine anyH_call (i := 11) (f := 59) (args := #[.pointer (some ⟨w.heap.size + 1, 0, none⟩), .bool true, .int .i64 2]) (by kernel_rfl) rfl (by kernel_rfl) (by kernel_rfl) ?_
      refine K.out.mono ?_
      rintro e wy ⟨⟨v, rfl⟩, h, f⟩
      have I := Lib.hid (ID.out.step HIN.out HE.out h f)
      clear h f K
      refine ⟨v, rfl, I.out.cb, ?_⟩
      refine wpAnyH_done (by kernel_rfl) ?_ _
      go_simp
      clear hB
      refine ‹∀ (a : Act) (w_1 : World), _ → _› _ _ ?_
      go_meet
      exact I
    · have e1 : decide (c.leaf < 0) = false := decide_eq_false d1
      obtain ⟨q, hq⟩ : ∃ q, q = decide (leavesN c.height ≤ c.leaf) := ⟨_, rfl⟩
      have hp : p9 = eIf q 2 := by rw [HP9.out, e1, hq]; rfl
      have LV : Hid (Calls Tryz.prog 64 #[.agg pk] w12.drew fun e w' => e = .returned (.int .i64 (leavesN c.height)) ∧ Below w12.drew.heap.size w12.drew w') := Lib.hid (by rw [HPK.out]; exact leaves_any w12.drew c.height OK.out.root.len)
      have hq2 : decide (leavesN c.height ≤ c.leaf) = q := hq.symm
      obtain ⟨lv, hlv⟩ : ∃ lv, lv = leavesN c.height := ⟨_, rfl⟩
      rw [← hlv] at LV hq2
      have HPP := Lib.hid hp
      have LDP : Hid (∀ wx, CB wx w.heap.size c gv rv 37 → (loadVar 35 ⟨w.heap.size, 56, none⟩).run Tryz.prog wx = .ok (.agg pk) wx) := Lib.hid (fun wx h => by rw [HPK.out]; exact CB.pk h OK.out)
      clear hp d1 hq hlv
      refine takeV 0 (.pointer (some ⟨w.heap.size, 73, none⟩)) rfl (fun _ _ => by go_simp) hB ?_
      refine takeV 1 (.int .i64 c.leaf) rfl (fun w' hw' => by have cl := hw'.at (cn_73 OK.out gv rv); go_simp) hB ?_
      refine takeV 2 (.bool false) rfl (fun _ _ => by go_simp) hB ?_
      refine takeV 3 (.bool false) rfl (fun _ _ => by go_simp) hB ?_
      refine takeV 4 (.pointer (some ⟨w.heap.size, 73, none⟩)) rfl (fun _ _ => by go_simp) hB ?_
      refine takeV 5 (.int .i64 c.leaf) rfl (fun w' hw' => by have cl := hw'.at (cn_73 OK.out gv rv); go_simp) hB ?_
      refine takeV 6 (.pointer (some ⟨w.heap.size, 56, none⟩)) rfl (fun _ _ => by go_simp) hB ?_
      refine takeV 7 (.agg pk) rfl (fun w' hw' => exec_load (ty := 35) (x := .tmp 57) (ad := ⟨w.heap.size, 56, none⟩) rfl (by kernel_rfl) (LDP.out w' hw')) hB ?_
      refine anyH_call (i := 8) (f := 64) (args := #[.agg pk]) (by kernel_rfl) rfl (by kernel_rfl) (by kernel_rfl) ?_
      refine LV.out.mono ?_
      rintro e wz ⟨rfl, hb⟩
      have ID2 := Lib.hid (ID.out.on hb)
      have K : Hid (Calls Tryz.prog 59 #[.pointer (some ⟨w.heap.size + 1, 0, none⟩), .bool q, .int .i64 2] wz (ChkPost wz (w.heap.size + 1) (fe (fe (fe (fe (fe (fe (fe (fe (fe (fe 0 p0) p1) p2) p3) p4) p5) p6) p7) p8) p9))) := Lib.hid (by rw [HPP.out]; exact when_any wz (w.heap.size + 1) _ ID2.out.ck q 2)
      have hB := ID2.out.cb
      refine ⟨_, rfl, hB, ?_⟩
      clear hb LV
      refine takeV 9 (.bool q) rfl (fun _ _ => by go_simp) hB ?_
      refine takeV 10 (.bool q) rfl (fun _ _ => by go_simp) hB ?_
      refine anyH_call (i := 11) (f := 59) (args := #[.pointer (some ⟨w.heap.size + 1, 0, none⟩), .bool q, .int .i64 2]) (by kernel_rfl) rfl (by kernel_rfl) (by kernel_rfl) ?_
      refine K.out.mono ?_
      rintro e wy ⟨⟨v, rfl⟩, h, f⟩
      have I := Lib.hid (ID2.out.step HIN.out HE.out h f)
      clear h f K
      refine ⟨v, rfl, I.out.cb, ?_⟩
      refine wpAnyH_done (by kernel_rfl) ?_ _
      go_simp
      clear hB
      refine ‹∀ (a : Act) (w_1 : World), _ → _› _ _ ?_
      go_meet
      exact I
  case rest =>
  obtain ⟨w13, hwz⟩ : ∃ x, x = wc := ⟨_, rfl⟩
  rw [← hwz] at hcut ⊢
  have I13 := hcut
  clear hcut hwz I12
  have cb : w13.cell? ⟨w.heap.size, 74, none⟩ = some (.string c.body) := I13.out.cb.at (cn_74 OK.out gv rv)
  obtain ⟨q, hq⟩ : ∃ q, q = decide (57344 < c.body.size) := ⟨_, rfl⟩
  have dq : decide ((57344 : Int) < (c.body.size : Int)) = q := by rw [hq]; simp; omega
  have dq2 : decide (57344 < c.body.size) = q := hq.symm
  have K : Hid (Calls Tryz.prog 59 #[.pointer (some ⟨w.heap.size + 1, 0, none⟩), .bool q, .int .i64 5] w13 (ChkPost w13 (w.heap.size + 1) (fe (fe (fe (fe (fe (fe (fe (fe (fe (fe (fe 0 p0) p1) p2) p3) p4) p5) p6) p7) p8) p9) p10))) := Lib.hid (by rw [HP10.out, ← hq]; exact when_any w13 (w.heap.size + 1) _ I13.out.ck q 5)
  have hbs : c.body.size ≤ 1000000 := HIN.out.body
  clear hq
  go_wp2_with fail
  refine K.out.mono ?_
  rintro e w14 ⟨⟨v14, rfl⟩, h, f⟩
  have I14 := Lib.hid (I13.out.step HIN.out HE.out h f)
  clear h f I13 K cb dq dq2
  have cb : w14.cell? ⟨w.heap.size, 74, none⟩ = some (.string c.body) := I14.out.cb.at (cn_74 OK.out gv rv)
  have K : Hid (Calls Tryz.prog 65 #[.string c.body] w14 fun e w' => ∃ m : Int, e = .returned (.tuple #[.int .i64 m, .int .i64 (p11 : Nat)]) ∧ Below w14.heap.size w14 w') := Lib.hid (by rw [HP11.out]; exact chkbody_any c.body w14 HIN.out.body I14.out.env)
  go_wp2_with fail
  refine K.out.mono ?_
  rintro e w15 ⟨m, rfl, hb⟩
  have I15 := Lib.hid (I14.out.on hb)
  clear hb I14 K cb
  have K := Lib.hid (take_any w15 (w.heap.size + 1) _ I15.out.ck p11)
  go_wp2_with fail
  refine K.out.mono ?_
  rintro e w16 ⟨⟨v16, rfl⟩, h, f⟩
  have I16 := Lib.hid (I15.out.step HIN.out HE.out h f)
  clear h f I15 K
  have ce := I16.out.ck.cell
  have FR := Lib.hid I16.out.fr
  have N : Hid ((fe (fe (fe (fe (fe (fe (fe (fe (fe (fe (fe (fe 0 p0) p1) p2) p3) p4) p5) p6) p7) p8) p9) p10) p11) = chkF c.p) := Lib.hid (by rw [LAW.out]; simp only [fe_assoc]; rfl)
  obtain ⟨m, hm⟩ : ∃ m, m = (fe (fe (fe (fe (fe (fe (fe (fe (fe (fe (fe (fe 0 p0) p1) p2) p3) p4) p5) p6) p7) p8) p9) p10) p11) := ⟨_, rfl⟩
  rw [← hm] at ce N
  clear hm I16
  go_wp2_with fail
  go_ret
  exact ⟨by rw [N.out]; rfl, FR.out⟩
end Go.Proofs.YtohmdledkhgdaaaGreatDoor
