/- bulletinref18.Form of a valid content (printed by gen_rform.py). -/
import Derived.Test.YtohmdledkhgdaaaGreatDoorCi36
import Derived.Test.YtohmdledkhgdaaaGreatDoorCi28
namespace Go.Proofs.YtohmdledkhgdaaaGreatDoor
open Go.RowKit
set_option linter.unusedVariables false
set_option maxRecDepth 100000

theorem refs_few2 {ids : List (List Nat)} (h : refsF ids = 0) : ids.length ≤ 1000 := by
  rw [refsF_q] at h
  by_cases h1 : 20 < ids.length
  · rw [if_pos h1] at h; cases h
  · omega
theorem vals_lt256 {c : Cn} (ok : c.Ok) (h : chkF c.p = 0) : ∀ v ∈ fVals c.p, ∀ x ∈ v, x < 256 := by
  intro v hv x hx
  refine form_lt256 ok h x ?_
  unfold formF
  refine List.mem_append_left _ ?_
  have hl : fWords.length = (fVals c.p).length := rfl
  obtain ⟨j, hj, rfl⟩ := List.getElem_of_mem hv
  refine List.mem_flatMap.2 ⟨(fWords[j]'(by omega), (fVals c.p)[j]), ?_, by simp [hx]⟩
  rw [← List.getElem_zip (h := by rw [List.length_zip]; omega)]
  exact List.getElem_mem _
theorem joinS_strN (c : Nat) (l : List (List Nat)) (h : ∀ y ∈ l, ∀ x ∈ y, x < 256) : joinS c (l.map strN) = strN (joinF [c] l) := by
  unfold joinS
  congr 2
  rw [List.map_map]
  conv => rhs; rw [← List.map_id l]
  exact List.map_congr_left (fun y hy => bs_strN y (h y hy))
theorem rform_eq {c : Cn} (ok : c.Ok) (h : chkF c.p = 0) : joinS 10 [(⟨#[110, 97, 109, 101, 32]⟩ : ByteArray) ++ c.name, (⟨#[97, 117, 116, 104, 111, 114, 32]⟩ : ByteArray) ++ (strN (hexF c.author)), (⟨#[100, 97, 116, 101, 32]⟩ : ByteArray) ++ (strN (digI c.date)), (⟨#[103, 114, 111, 117, 112, 115, 32]⟩ : ByteArray) ++ (joinS 44 c.groups), (⟨#[115, 117, 98, 106, 101, 99, 116, 32]⟩ : ByteArray) ++ c.subject, (⟨#[114, 101, 102, 101, 114, 101, 110, 99, 101, 115, 32]⟩ : ByteArray) ++ (joinS 32 (mids c.refs)), (⟨#[115, 117, 112, 101, 114, 115, 101, 100, 101, 115, 32]⟩ : ByteArray) ++ (strN (optF c.sup)), (⟨#[99, 111, 110, 116, 114, 111, 108, 32]⟩ : ByteArray) ++ c.ctl, (⟨#[100, 105, 115, 116, 114, 105, 98, 117, 116, 105, 111, 110, 32]⟩ : ByteArray) ++ c.dist, (⟨#[107, 101, 121, 32]⟩ : ByteArray) ++ (strN (keyF c.p)), (⟨#[108, 101, 97, 102, 32]⟩ : ByteArray) ++ (strN (digI c.leaf)), ⟨#[]⟩] ++ (⟨#[10]⟩ : ByteArray) ++ c.body = strN (formF c.p) := by
  have H := vals_lt256 ok h
  have eb : c.body = strN (bs c.body) := (strN_bs _).symm
  have lt : ∀ x ∈ formF c.p, x < 256 := form_lt256 ok h
  have bv : ∀ v ∈ fVals c.p, bs (strN v) = v := fun v hv => bs_strN v (H v hv)
  have e1 := bv (hexF c.author) (by simp [fVals, Cn.p])
  have e2 := bv (digI c.date) (by simp [fVals, Cn.p])
  have e3 : bs (joinS 44 c.groups) = joinF [44] (c.groups.map bs) := bv (joinF [44] (c.groups.map bs)) (by simp [fVals, Cn.p])
  have e5 : bs (joinS 32 (mids c.refs)) = joinF [32] (c.refs.map midF) := by
    unfold joinS
    rw [mids_bs ok.refs]
    exact bv (joinF [32] (c.refs.map midF)) (by simp [fVals, Cn.p])
  have e6 := bv (optF c.sup) (by simp [fVals, Cn.p])
  have e9 := bv (keyF c.p) (by simp [fVals])
  have e10 := bv (digI c.leaf) (by simp [fVals, Cn.p])
  have key : ∀ l : List ByteArray, joinS 10 l = strN (joinF [10] (l.map bs)) := fun _ => rfl
  rw [key]
  conv => lhs; rw [eb]
  rw [show (⟨#[10]⟩ : ByteArray) = strN [10] from rfl, ← sN_app, ← sN_app]
  congr 1
  simp only [List.map_cons, List.map_nil, bs_app, e1, e2, e3, e5, e6, e9, e10]
  rw [show bs (⟨#[110, 97, 109, 101, 32]⟩ : ByteArray) = [110, 97, 109, 101, 32] from rfl]
  rw [show bs (⟨#[97, 117, 116, 104, 111, 114, 32]⟩ : ByteArray) = [97, 117, 116, 104, 111, 114, 32] from rfl]
  rw [show bs (⟨#[100, 97, 116, 101, 32]⟩ : ByteArray) = [100, 97, 116, 101, 32] from rfl]
  rw [show bs (⟨#[103, 114, 111, 117, 112, 115, 32]⟩ : ByteArray) = [103, 114, 111, 117, 112, 115, 32] from rfl]
  rw [show bs (⟨#[115, 117, 98, 106, 101, 99, 116, 32]⟩ : ByteArray) = [115, 117, 98, 106, 101, 99, 116, 32] from rfl]
  rw [show bs (⟨#[114, 101, 102, 101, 114, 101, 110, 99, 101, 115, 32]⟩ : ByteArray) = [114, 101, 102, 101, 114, 101, 110, 99, 101, 115, 32] from rfl]
  rw [show bs (⟨#[115, 117, 112, 101, 114, 115, 101, 100, 101, 115, 32]⟩ : ByteArray) = [115, 117, 112, 101, 114, 115, 101, 100, 101, 115, 32] from rfl]
  rw [show bs (⟨#[99, 111, 110, 116, 114, 111, 108, 32]⟩ : ByteArray) = [99, 111, 110, 116, 114, 111, 108, 32] from rfl]
  rw [show bs (⟨#[100, 105, 115, 116, 114, 105, 98, 117, 116, 105, 111, 110, 32]⟩ : ByteArray) = [100, 105, 115, 116, 114, 105, 98, 117, 116, 105, 111, 110, 32] from rfl]
  rw [show bs (⟨#[107, 101, 121, 32]⟩ : ByteArray) = [107, 101, 121, 32] from rfl]
  rw [show bs (⟨#[108, 101, 97, 102, 32]⟩ : ByteArray) = [108, 101, 97, 102, 32] from rfl]
  rw [show bs (⟨#[]⟩ : ByteArray) = [] from rfl]
  unfold formF fWords fVals
  simp [joinF, Cn.p]
theorem form_size (c : Cont) : (formF c).length = 96 + (c.name.length + (hexF c.author).length + (digI c.date).length + (joinF [44] c.groups).length + c.subject.length + (joinF [32] (c.refs.map midF)).length + (optF c.sup).length + c.ctl.length + c.dist.length + (keyF c).length + (digI c.leaf).length + c.body.length) := by
  unfold formF fWords fVals
  simp
  omega
theorem rform_bs12 (w : World) (s0 s1 s2 s3 s4 s5 s6 s7 s8 s9 s10 s11 : ByteArray) : (Instr.buildSlice 23 12 #[(0, .string s0), (1, .string s1), (2, .string s2), (3, .string s3), (4, .string s4), (5, .string s5), (6, .string s6), (7, .string s7), (8, .string s8), (9, .string s9), (10, .string s10), (11, .string s11)]).run Tryz.prog w = .ok (.slice (some ⟨w.heap.size, 0, none⟩) 12 12) (w.alloc (.cells #[.string s0, .string s1, .string s2, .string s3, .string s4, .string s5, .string s6, .string s7, .string s8, .string s9, .string s10, .string s11] 9)) := by kernel_rfl
theorem exec_bs12 {o : Oper} {a : Act} (w : World) {x0 x1 x2 x3 x4 x5 x6 x7 x8 x9 x10 x11 : Operand} {s0 s1 s2 s3 s4 s5 s6 s7 s8 s9 s10 s11 : ByteArray} (ho : o.op = .buildSlice 23 12 #[(0, x0), (1, x1), (2, x2), (3, x3), (4, x4), (5, x5), (6, x6), (7, x7), (8, x8), (9, x9), (10, x10), (11, x11)])
    (h0 : a.eval x0 = .string s0) (h1 : a.eval x1 = .string s1) (h2 : a.eval x2 = .string s2) (h3 : a.eval x3 = .string s3) (h4 : a.eval x4 = .string s4) (h5 : a.eval x5 = .string s5) (h6 : a.eval x6 = .string s6) (h7 : a.eval x7 = .string s7) (h8 : a.eval x8 = .string s8) (h9 : a.eval x9 = .string s9) (h10 : a.eval x10 = .string s10) (h11 : a.eval x11 = .string s11) :
    (execOp a.eval o).run Tryz.prog w = .ok (.value (.slice (some ⟨w.heap.size, 0, none⟩) 12 12)) (w.alloc (.cells #[.string s0, .string s1, .string s2, .string s3, .string s4, .string s5, .string s6, .string s7, .string s8, .string s9, .string s10, .string s11] 9)) := by
  unfold execOp
  rw [ho]
  simp only [List.map_toArray, List.map_cons, List.map_nil, h0, h1, h2, h3, h4, h5, h6, h7, h8, h9, h10, h11]
  rw [Sem.run_bind, rform_bs12]
  rfl
theorem srow12 (w : World) (b : Nat) (s0 s1 s2 s3 s4 s5 s6 s7 s8 s9 s10 s11 : ByteArray) (h : w.heap[b]? = some (.cells #[.string s0, .string s1, .string s2, .string s3, .string s4, .string s5, .string s6, .string s7, .string s8, .string s9, .string s10, .string s11] 9 (0, 0))) : SRow w (.slice (some ⟨b, 0, none⟩) 12 12) [s0, s1, s2, s3, s4, s5, s6, s7, s8, s9, s10, s11] := by
  refine ⟨_, _, rfl, Nat.le_refl _, fun _ => ⟨b, 0, rfl, lt_of_block h, fun j hj => ?_⟩⟩
  rw [cell_of_row w b (0 + j) _ _ _ h, Nat.zero_add]
  have hj : j < 12 := hj
  match j, hj with
  | 0, _ => rfl
  | 1, _ => rfl
  | 2, _ => rfl
  | 3, _ => rfl
  | 4, _ => rfl
  | 5, _ => rfl
  | 6, _ => rfl
  | 7, _ => rfl
  | 8, _ => rfl
  | 9, _ => rfl
  | 10, _ => rfl
  | 11, _ => rfl
set_option maxHeartbeats 4000000 in
theorem rform_any (w : World) (c : Cn) (gv rv : Value) (hin : CnIn w c gv rv) (h0 : chkF c.p = 0) (hF : (formF c.p).length ≤ 10000000) :
    Calls Tryz.prog 14 #[.agg (c.cells gv rv)] w fun e w' => e = .returned (.string (strN (formF c.p))) ∧ Below w.heap.size w w' := by
  obtain ⟨w0, hw0⟩ : ∃ w0, w0 = w.alloc (.cells (c.cells gv rv) 28) := ⟨_, rfl⟩
  have B0 : Below w.heap.size w w0 := by rw [hw0]; exact (Below.refl _ _).alloc (Nat.le_refl _) _
  have C0 : CB w0 w.heap.size c gv rv 28 := by unfold CB; rw [hw0]; exact heap_alloc_last w _
  have vd := vd_of h0
  obtain ⟨q1, q2, q3⟩ := chk_parts h0
  have ok := hin.ok
  have OK := Lib.hid ok
  have HIN := Lib.hid hin
  have FZ := form_size c.p
  obtain ⟨sa, hsa⟩ : ∃ s, s = strN (hexF c.author) := ⟨_, rfl⟩
  obtain ⟨sd, hsd⟩ : ∃ s, s = strN (digI c.date) := ⟨_, rfl⟩
  obtain ⟨sg, hsg⟩ : ∃ s, s = joinS 44 c.groups := ⟨_, rfl⟩
  obtain ⟨sr, hsr⟩ : ∃ s, s = joinS 32 (mids c.refs) := ⟨_, rfl⟩
  obtain ⟨so, hso⟩ : ∃ s, s = strN (optF c.sup) := ⟨_, rfl⟩
  obtain ⟨sk, hsk⟩ : ∃ s, s = strN (keyF c.p) := ⟨_, rfl⟩
  obtain ⟨sl, hsl⟩ : ∃ s, s = strN (digI c.leaf) := ⟨_, rfl⟩
  have z0 : c.name.size ≤ 10000000 := by have : (c.p.name).length = c.name.size := bs_length _; omega
  have z1 : sa.size ≤ 10000000 := by rw [hsa, strN_size]; have : (hexF c.p.author).length = (hexF c.author).length := rfl; omega
  have z2 : sd.size ≤ 10000000 := by rw [hsd, strN_size]; have : (digI c.p.date).length = (digI c.date).length := rfl; omega
  have z3 : sg.size ≤ 10000000 := by rw [hsg]; unfold joinS; rw [strN_size]; have : (joinF [44] c.p.groups).length = (joinF [44] (c.groups.map bs)).length := rfl; omega
  have z4 : c.subject.size ≤ 10000000 := by have : (c.p.subject).length = c.subject.size := bs_length _; omega
  have z5 : sr.size ≤ 10000000 := by rw [hsr]; unfold joinS; rw [mids_bs ok.refs, strN_size]; have : (joinF [32] (c.p.refs.map midF)).length = (joinF [32] (c.refs.map midF)).length := rfl; omega
  have z6 : so.size ≤ 10000000 := by rw [hso, strN_size]; have : (optF c.p.sup).length = (optF c.sup).length := rfl; omega
  have z7 : c.ctl.size ≤ 10000000 := by have : (c.p.ctl).length = c.ctl.size := bs_length _; omega
  have z8 : c.dist.size ≤ 10000000 := by have : (c.p.dist).length = c.dist.size := bs_length _; omega
  have z9 : sk.size ≤ 10000000 := by rw [hsk, strN_size]; omega
  have z10 : sl.size ≤ 10000000 := by rw [hsl, strN_size]; have : (digI c.p.leaf).length = (digI c.leaf).length := rfl; omega
  have zb : c.body.size ≤ 10000000 := by have : (c.p.body).length = c.body.size := bs_length _; omega
  obtain ⟨ra, hra⟩ : ∃ s, s = idA c.author := ⟨_, rfl⟩
  obtain ⟨rs, hrs⟩ : ∃ s, s = idA c.sup := ⟨_, rfl⟩
  obtain ⟨cs, hcs⟩ : ∃ cs, cs = c.cells gv rv := ⟨_, rfl⟩
  have LDA : Hid (∀ wx, CB wx w.heap.size c gv rv 28 → (loadVar 22 ⟨w.heap.size, 1, none⟩).run Tryz.prog wx = .ok (.agg ra) wx) := Lib.hid (fun wx h => by rw [hra]; exact CB.author16 h OK.out)
  have LDS : Hid (∀ wx, CB wx w.heap.size c gv rv 28 → (loadVar 26 ⟨w.heap.size, 21, none⟩).run Tryz.prog wx = .ok (.agg rs) wx) := Lib.hid (fun wx h => by rw [hrs]; exact CB.sup h OK.out)
  have LDC : Hid (∀ wx, CB wx w.heap.size c gv rv 28 → (loadVar 28 ⟨w.heap.size, 0, none⟩).run Tryz.prog wx = .ok (.agg cs) wx) := Lib.hid (fun wx h => by rw [hcs]; exact CB.allR h OK.out)
  have CA : Hid (∀ wx : World, Calls Tryz.prog 32 #[.agg ra] wx fun e w' => e = .returned (.string sa) ∧ Below wx.heap.size wx w') := Lib.hid (fun wx => by rw [hra, hsa]; exact rauthor_any wx ok.author)
  have CD : Hid (∀ wx : World, Calls Tryz.prog 33 #[.int .i64 c.date] wx fun e w' => e = .returned (.string sd) ∧ Below wx.heap.size wx w') := Lib.hid (fun wx => by rw [hsd]; exact rdigits_any c.date vd.date.1 (i64_of ok.date).2 wx)
  have CG : Hid (∀ wx : World, Below w.heap.size w wx → Calls Tryz.prog 34 #[gv, .string (⟨#[44]⟩ : ByteArray)] wx fun e w' => e = .returned (.string sg) ∧ wx = w') := Lib.hid (fun wx hb => by
    have := rjoin_any wx gv c.groups 44 (HIN.out.srow.below hb) HIN.out.gl (by rw [← hsg]; omega)
    rw [← hsg] at this
    exact this)
  have CO : Hid (∀ wx : World, Calls Tryz.prog 35 #[.agg rs] wx fun e w' => e = .returned (.string so) ∧ Below wx.heap.size wx w') := Lib.hid (fun wx => by rw [hrs, hso]; exact rmsg_any wx ok.sup)
  have CK : Hid (∀ wx : World, Calls Tryz.prog 36 #[.agg cs] wx fun e w' => e = .returned (.string sk) ∧ Below wx.heap.size wx w') := Lib.hid (fun wx => by rw [hcs, hsk]; exact rpub_any wx c ok vd.number.1 gv rv)
  have CL : Hid (∀ wx : World, Calls Tryz.prog 33 #[.int .i64 c.leaf] wx fun e w' => e = .returned (.string sl) ∧ Below wx.heap.size wx w') := Lib.hid (fun wx => by rw [hsl]; exact rdigits_any c.leaf vd.leaf.1 (i64_of ok.leaf).2 wx)
  have RL := Lib.hid (rlist_any w0 rv c.refs (hin.irow.below B0) hin.rl ok.refs)
  have RPR : Hid (∀ (wx : World) v, IRow wx v c.refs → Calls Tryz.prog 30 #[v] wx fun e w' => e = .returned (.tuple #[.string sr, .int .i64 0]) ∧ Below wx.heap.size wx w') := Lib.hid (fun wx v h => by rw [hsr]; exact rpr_any wx v c.refs h (refs_few2 q2) ok.refs q2)
  obtain ⟨p0, hp0⟩ : ∃ s, s = (⟨#[110, 97, 109, 101, 32]⟩ : ByteArray) ++ c.name := ⟨_, rfl⟩
  have y0 : ¬ 9223372036854775807 < 5 + c.name.size := by omega
  have x0 : c.name.size ≤ 9223372036854775802 := by omega
  obtain ⟨p1, hp1⟩ : ∃ s, s = (⟨#[97, 117, 116, 104, 111, 114, 32]⟩ : ByteArray) ++ sa := ⟨_, rfl⟩
  have y1 : ¬ 9223372036854775807 < 7 + sa.size := by omega
  have x1 : sa.size ≤ 9223372036854775800 := by omega
  obtain ⟨p2, hp2⟩ : ∃ s, s = (⟨#[100, 97, 116, 101, 32]⟩ : ByteArray) ++ sd := ⟨_, rfl⟩
  have y2 : ¬ 9223372036854775807 < 5 + sd.size := by omega
  have x2 : sd.size ≤ 9223372036854775802 := by omega
  obtain ⟨p3, hp3⟩ : ∃ s, s = (⟨#[103, 114, 111, 117, 112, 115, 32]⟩ : ByteArray) ++ sg := ⟨_, rfl⟩
  have y3 : ¬ 9223372036854775807 < 7 + sg.size := by omega
  have x3 : sg.size ≤ 9223372036854775800 := by omega
  obtain ⟨p4, hp4⟩ : ∃ s, s = (⟨#[115, 117, 98, 106, 101, 99, 116, 32]⟩ : ByteArray) ++ c.subject := ⟨_, rfl⟩
  have y4 : ¬ 9223372036854775807 < 8 + c.subject.size := by omega
  have x4 : c.subject.size ≤ 9223372036854775799 := by omega
  obtain ⟨p5, hp5⟩ : ∃ s, s = (⟨#[114, 101, 102, 101, 114, 101, 110, 99, 101, 115, 32]⟩ : ByteArray) ++ sr := ⟨_, rfl⟩
  have y5 : ¬ 9223372036854775807 < 11 + sr.size := by omega
  have x5 : sr.size ≤ 9223372036854775796 := by omega
  obtain ⟨p6, hp6⟩ : ∃ s, s = (⟨#[115, 117, 112, 101, 114, 115, 101, 100, 101, 115, 32]⟩ : ByteArray) ++ so := ⟨_, rfl⟩
  have y6 : ¬ 9223372036854775807 < 11 + so.size := by omega
  have x6 : so.size ≤ 9223372036854775796 := by omega
  obtain ⟨p7, hp7⟩ : ∃ s, s = (⟨#[99, 111, 110, 116, 114, 111, 108, 32]⟩ : ByteArray) ++ c.ctl := ⟨_, rfl⟩
  have y7 : ¬ 9223372036854775807 < 8 + c.ctl.size := by omega
  have x7 : c.ctl.size ≤ 9223372036854775799 := by omega
  obtain ⟨p8, hp8⟩ : ∃ s, s = (⟨#[100, 105, 115, 116, 114, 105, 98, 117, 116, 105, 111, 110, 32]⟩ : ByteArray) ++ c.dist := ⟨_, rfl⟩
  have y8 : ¬ 9223372036854775807 < 13 + c.dist.size := by omega
  have x8 : c.dist.size ≤ 9223372036854775794 := by omega
  obtain ⟨p9, hp9⟩ : ∃ s, s = (⟨#[107, 101, 121, 32]⟩ : ByteArray) ++ sk := ⟨_, rfl⟩
  have y9 : ¬ 9223372036854775807 < 4 + sk.size := by omega
  have x9 : sk.size ≤ 9223372036854775803 := by omega
  obtain ⟨p10, hp10⟩ : ∃ s, s = (⟨#[108, 101, 97, 102, 32]⟩ : ByteArray) ++ sl := ⟨_, rfl⟩
  have y10 : ¬ 9223372036854775807 < 5 + sl.size := by omega
  have x10 : sl.size ≤ 9223372036854775802 := by omega
  obtain ⟨rr, hrr⟩ : ∃ s, s = joinS 10 [p0, p1, p2, p3, p4, p5, p6, p7, p8, p9, p10, (⟨#[]⟩ : ByteArray)] := ⟨_, rfl⟩
  have RES : Hid (rr ++ (⟨#[10]⟩ : ByteArray) ++ c.body = strN (formF c.p)) := Lib.hid (by
    rw [← rform_eq ok h0, hrr, hp0, hp1, hp2, hp3, hp4, hp5, hp6, hp7, hp8, hp9, hp10, hsa, hsd, hsg, hsr, hso, hsk, hsl])
  have zr : rr.size + 1 + c.body.size ≤ 10000000 := by
    have := congrArg ByteArray.size RES.out
    rw [strN_size, ByteArray.size_append, ByteArray.size_append] at this
    have e : (⟨#[10]⟩ : ByteArray).size = 1 := rfl
    omega
  have zr1 : rr.size ≤ 9223372036854775806 := by omega
  have zr2 : (rr ++ (⟨#[10]⟩ : ByteArray)).size + c.body.size ≤ 9223372036854775807 := by rw [ByteArray.size_append]; show rr.size + 1 + _ ≤ _; omega
  have zr3 : rr.size + 1 + c.body.size ≤ 9223372036854775807 := by omega
  have CT : Hid (∀ (wx : World) b, wx.heap[b]? = some (.cells #[.string p0, .string p1, .string p2, .string p3, .string p4, .string p5, .string p6, .string p7, .string p8, .string p9, .string p10, .string (⟨#[]⟩ : ByteArray)] 9 (0, 0)) → Calls Tryz.prog 34 #[.slice (some ⟨b, 0, none⟩) 12 12, .string (⟨#[10]⟩ : ByteArray)] wx fun e w' => e = .returned (.string rr) ∧ wx = w') := Lib.hid (fun wx b h => by
    have := rjoin_any wx _ _ 10 (srow12 wx b _ _ _ _ _ _ _ _ _ _ _ _ h) (show 12 ≤ 1000000 by omega) (by rw [← hrr]; omega)
    rw [← hrr] at this
    exact this)
  rw [← hcs] at hw0 ⊢
  have HW := Lib.hid hw0; have HC0 := Lib.hid C0; have HB0 := Lib.hid B0
  have HP0 := Lib.hid hp0
  have HP1 := Lib.hid hp1
  have HP2 := Lib.hid hp2
  have HP3 := Lib.hid hp3
  have HP4 := Lib.hid hp4
  have HP5 := Lib.hid hp5
  have HP6 := Lib.hid hp6
  have HP7 := Lib.hid hp7
  have HP8 := Lib.hid hp8
  have HP9 := Lib.hid hp9
  have HP10 := Lib.hid hp10
  clear hw0 hcs hra hrs hsa hsd hsg hsr hso hsk hsl hrr C0 B0 ok h0 hF hin vd q1 q2 q3 FZ z0 z1 z2 z3 z4 z5 z6 z7 z8 z9 z10 zb zr hp0 hp1 hp2 hp3 hp4 hp5 hp6 hp7 hp8 hp9 hp10
  have c20 : w0.cell? ⟨w.heap.size, 20, none⟩ = some rv := HC0.out.at (cn_20 OK.out gv rv)
  go_enter Tryz.func14, Tryz.ntmps14
  go_upto_region 1 with fail
  rw [← HW.out]
  clear HW
  go_wp2_with fail
  refine RL.out.mono ?_
  rintro e w1 ⟨v', rfl, hir, hb⟩
  have D1 := Lib.hid hb
  have RP := Lib.hid (RPR.out w1 v' hir)
  clear hb hir RL c20 RPR
  go_wp2_with fail
  refine RP.out.mono ?_
  rintro e w2 ⟨rfl, hb⟩
  have D2 := Lib.hid (D1.out.trans (hb.mono D1.out.size))
  clear hb RP D1
  go_upto_region 2 with fail
  refine wp_region_held (S := fun wx => CB wx w.heap.size c gv rv 28) (by kernel_rfl) ?_
  change wpAnyH _ _ _ _ _ _ _ _ w2.drew
  obtain ⟨wd, hwd⟩ : ∃ wd, wd = w2.drew := ⟨_, rfl⟩
  rw [← hwd]
  have E0 : Hid (Below w0.heap.size w0 wd) := Lib.hid (by rw [hwd]; exact D2.out.trans ((Below.refl _ _).drew.mono D2.out.size))
  clear hwd D2
  have hB : (fun wx : World => CB wx w.heap.size c gv rv 28) wd := HC0.out.on E0.out
  refine wpAnyH_take (i := 0) (v := .pointer (some ⟨w.heap.size, 0, none⟩)) rfl (by kernel_rfl) (by kernel_rfl) (by kernel_rfl) (fun _ _ _ h => h) (Or.inl ⟨by kernel_rfl, fun w' hw' => by go_simp⟩) hB ?_
  refine wpAnyH_take (i := 1) (v := .string c.name) rfl (by kernel_rfl) (by kernel_rfl) (by kernel_rfl) (fun _ _ _ h => h) (Or.inl ⟨by kernel_rfl, fun w' hw' => by have cl := hw'.at (cn_0 c gv rv); go_simp⟩) hB ?_
  refine wpAnyH_take (i := 2) (v := .string p0) rfl (by kernel_rfl) (by kernel_rfl) (by kernel_rfl) (fun _ _ _ h => h) (Or.inl ⟨by kernel_rfl, fun w' hw' => by go_simp; exact HP0.out.symm⟩) hB ?_
  refine wpAnyH_take (i := 3) (v := .pointer (some ⟨w.heap.size, 1, none⟩)) rfl (by kernel_rfl) (by kernel_rfl) (by kernel_rfl) (fun _ _ _ h => h) (Or.inl ⟨by kernel_rfl, fun w' hw' => by go_simp⟩) hB ?_
  refine wpAnyH_take (i := 4) (v := .agg ra) rfl (by kernel_rfl) (by kernel_rfl) (by kernel_rfl) (fun _ _ _ h => h) (Or.inl ⟨by kernel_rfl, fun w' hw' => exec_load (ty := 22) (x := .tmp 16) (ad := ⟨w.heap.size, 1, none⟩) rfl (by kernel_rfl) (LDA.out w' hw')⟩) hB ?_
  refine wpAnyH_take (i := 7) (v := .pointer (some ⟨w.heap.size, 17, none⟩)) rfl (by kernel_rfl) (by kernel_rfl) (by kernel_rfl) (fun _ _ _ h => h) (Or.inl ⟨by kernel_rfl, fun w' hw' => by go_simp⟩) hB ?_
  refine wpAnyH_take (i := 8) (v := .int .i64 c.date) rfl (by kernel_rfl) (by kernel_rfl) (by kernel_rfl) (fun _ _ _ h => h) (Or.inl ⟨by kernel_rfl, fun w' hw' => by have cl := hw'.at (cn_17 OK.out gv rv); go_simp⟩) hB ?_
  refine wpAnyH_take (i := 11) (v := .pointer (some ⟨w.heap.size, 18, none⟩)) rfl (by kernel_rfl) (by kernel_rfl) (by kernel_rfl) (fun _ _ _ h => h) (Or.inl ⟨by kernel_rfl, fun w' hw' => by go_simp⟩) hB ?_
  refine wpAnyH_take (i := 12) (v := gv) rfl (by kernel_rfl) (by kernel_rfl) (by kernel_rfl) (fun _ _ _ h => h) (Or.inl ⟨by kernel_rfl, fun w' hw' => by have cl := hw'.at (cn_18 OK.out gv rv); go_simp⟩) hB ?_
  refine wpAnyH_take (i := 15) (v := .pointer (some ⟨w.heap.size, 19, none⟩)) rfl (by kernel_rfl) (by kernel_rfl) (by kernel_rfl) (fun _ _ _ h => h) (Or.inl ⟨by kernel_rfl, fun w' hw' => by go_simp⟩) hB ?_
  refine wpAnyH_take (i := 16) (v := .string c.subject) rfl (by kernel_rfl) (by kernel_rfl) (by kernel_rfl) (fun _ _ _ h => h) (Or.inl ⟨by kernel_rfl, fun w' hw' => by have cl := hw'.at (cn_19 OK.out gv rv); go_simp⟩) hB ?_
  refine wpAnyH_take (i := 17) (v := .string p4) rfl (by kernel_rfl) (by kernel_rfl) (by kernel_rfl) (fun _ _ _ h => h) (Or.inl ⟨by kernel_rfl, fun w' hw' => by go_simp; exact HP4.out.symm⟩) hB ?_
  refine wpAnyH_take (i := 18) (v := .string sr) rfl (by kernel_rfl) (by kernel_rfl) (by kernel_rfl) (fun _ _ _ h => h) (Or.inl ⟨by kernel_rfl, fun w' hw' => by go_simp⟩) hB ?_
  refine wpAnyH_take (i := 19) (v := .string p5) rfl (by kernel_rfl) (by kernel_rfl) (by kernel_rfl) (fun _ _ _ h => h) (Or.inl ⟨by kernel_rfl, fun w' hw' => by go_simp; exact HP5.out.symm⟩) hB ?_
  refine wpAnyH_take (i := 20) (v := .pointer (some ⟨w.heap.size, 21, none⟩)) rfl (by kernel_rfl) (by kernel_rfl) (by kernel_rfl) (fun _ _ _ h => h) (Or.inl ⟨by kernel_rfl, fun w' hw' => by go_simp⟩) hB ?_
  refine wpAnyH_take (i := 21) (v := .agg rs) rfl (by kernel_rfl) (by kernel_rfl) (by kernel_rfl) (fun _ _ _ h => h) (Or.inl ⟨by kernel_rfl, fun w' hw' => exec_load (ty := 26) (x := .tmp 33) (ad := ⟨w.heap.size, 21, none⟩) rfl (by kernel_rfl) (LDS.out w' hw')⟩) hB ?_
  refine wpAnyH_take (i := 24) (v := .pointer (some ⟨w.heap.size, 53, none⟩)) rfl (by kernel_rfl) (by kernel_rfl) (by kernel_rfl) (fun _ _ _ h => h) (Or.inl ⟨by kernel_rfl, fun w' hw' => by go_simp⟩) hB ?_
  refine wpAnyH_take (i := 25) (v := .string c.ctl) rfl (by kernel_rfl) (by kernel_rfl) (by kernel_rfl) (fun _ _ _ h => h) (Or.inl ⟨by kernel_rfl, fun w' hw' => by have cl := hw'.at (cn_53 OK.out gv rv); go_simp⟩) hB ?_
  refine wpAnyH_take (i := 26) (v := .string p7) rfl (by kernel_rfl) (by kernel_rfl) (by kernel_rfl) (fun _ _ _ h => h) (Or.inl ⟨by kernel_rfl, fun w' hw' => by go_simp; exact HP7.out.symm⟩) hB ?_
  refine wpAnyH_take (i := 27) (v := .pointer (some ⟨w.heap.size, 54, none⟩)) rfl (by kernel_rfl) (by kernel_rfl) (by kernel_rfl) (fun _ _ _ h => h) (Or.inl ⟨by kernel_rfl, fun w' hw' => by go_simp⟩) hB ?_
  refine wpAnyH_take (i := 28) (v := .string c.dist) rfl (by kernel_rfl) (by kernel_rfl) (by kernel_rfl) (fun _ _ _ h => h) (Or.inl ⟨by kernel_rfl, fun w' hw' => by have cl := hw'.at (cn_54 OK.out gv rv); go_simp⟩) hB ?_
  refine wpAnyH_take (i := 29) (v := .string p8) rfl (by kernel_rfl) (by kernel_rfl) (by kernel_rfl) (fun _ _ _ h => h) (Or.inl ⟨by kernel_rfl, fun w' hw' => by go_simp; exact HP8.out.symm⟩) hB ?_
  refine wpAnyH_take (i := 30) (v := .agg cs) rfl (by kernel_rfl) (by kernel_rfl) (by kernel_rfl) (fun _ _ _ h => h) (Or.inl ⟨by kernel_rfl, fun w' hw' => exec_load (ty := 28) (x := .tmp 1) (ad := ⟨w.heap.size, 0, none⟩) rfl (by kernel_rfl) (LDC.out w' hw')⟩) hB ?_
  refine wpAnyH_take (i := 33) (v := .pointer (some ⟨w.heap.size, 73, none⟩)) rfl (by kernel_rfl) (by kernel_rfl) (by kernel_rfl) (fun _ _ _ h => h) (Or.inl ⟨by kernel_rfl, fun w' hw' => by go_simp⟩) hB ?_
  refine wpAnyH_take (i := 34) (v := .int .i64 c.leaf) rfl (by kernel_rfl) (by kernel_rfl) (by kernel_rfl) (fun _ _ _ h => h) (Or.inl ⟨by kernel_rfl, fun w' hw' => by have cl := hw'.at (cn_73 OK.out gv rv); go_simp⟩) hB ?_
  refine anyH_one (i := 5) (by kernel_rfl) ?_
  refine any_call (f := 32) (args := #[.agg ra]) rfl rfl (by kernel_rfl) ?_
  refine (CA.out wd).mono ?_
  rintro e y1 ⟨rfl, hb⟩
  have E1 := Lib.hid (E0.out.trans (hb.mono E0.out.size))
  clear hb
  replace hB := HC0.out.on E1.out
  refine ⟨_, rfl, hB, ?_⟩
  refine wpAnyH_take (i := 6) (v := .string p1) rfl (by kernel_rfl) (by kernel_rfl) (by kernel_rfl) (fun _ _ _ h => h) (Or.inl ⟨by kernel_rfl, fun w' hw' => by go_simp; exact HP1.out.symm⟩) hB ?_
  refine anyH_one (i := 9) (by kernel_rfl) ?_
  refine any_call (f := 33) (args := #[.int .i64 c.date]) rfl rfl (by kernel_rfl) ?_
  refine (CD.out y1).mono ?_
  rintro e y2 ⟨rfl, hb⟩
  have E2 := Lib.hid (E1.out.trans (hb.mono E1.out.size))
  clear hb
  replace hB := HC0.out.on E2.out
  refine ⟨_, rfl, hB, ?_⟩
  refine wpAnyH_take (i := 10) (v := .string p2) rfl (by kernel_rfl) (by kernel_rfl) (by kernel_rfl) (fun _ _ _ h => h) (Or.inl ⟨by kernel_rfl, fun w' hw' => by go_simp; exact HP2.out.symm⟩) hB ?_
  have F2 := Lib.hid (HB0.out.trans (E2.out.mono HB0.out.size))
  refine anyH_one (i := 13) (by kernel_rfl) ?_
  refine any_call (f := 34) (args := #[gv, .string (⟨#[44]⟩ : ByteArray)]) rfl rfl (by kernel_rfl) ?_
  refine (CG.out y2 F2.out).mono ?_
  rintro e y3 ⟨rfl, rfl⟩
  refine ⟨_, rfl, hB, ?_⟩
  refine wpAnyH_take (i := 14) (v := .string p3) rfl (by kernel_rfl) (by kernel_rfl) (by kernel_rfl) (fun _ _ _ h => h) (Or.inl ⟨by kernel_rfl, fun w' hw' => by go_simp; exact HP3.out.symm⟩) hB ?_
  refine anyH_one (i := 22) (by kernel_rfl) ?_
  refine any_call (f := 35) (args := #[.agg rs]) rfl rfl (by kernel_rfl) ?_
  refine (CO.out _).mono ?_
  rintro e y4 ⟨rfl, hb⟩
  have E4 := Lib.hid (E2.out.trans (hb.mono E2.out.size))
  clear hb
  replace hB := HC0.out.on E4.out
  refine ⟨_, rfl, hB, ?_⟩
  refine wpAnyH_take (i := 23) (v := .string p6) rfl (by kernel_rfl) (by kernel_rfl) (by kernel_rfl) (fun _ _ _ h => h) (Or.inl ⟨by kernel_rfl, fun w' hw' => by go_simp; exact HP6.out.symm⟩) hB ?_
  refine anyH_one (i := 31) (by kernel_rfl) ?_
  refine any_call (f := 36) (args := #[.agg cs]) rfl rfl (by kernel_rfl) ?_
  refine (CK.out y4).mono ?_
  rintro e y5 ⟨rfl, hb⟩
  have E5 := Lib.hid (E4.out.trans (hb.mono E4.out.size))
  clear hb
  replace hB := HC0.out.on E5.out
  refine ⟨_, rfl, hB, ?_⟩
  refine wpAnyH_take (i := 32) (v := .string p9) rfl (by kernel_rfl) (by kernel_rfl) (by kernel_rfl) (fun _ _ _ h => h) (Or.inl ⟨by kernel_rfl, fun w' hw' => by go_simp; exact HP9.out.symm⟩) hB ?_
  refine anyH_one (i := 35) (by kernel_rfl) ?_
  refine any_call (f := 33) (args := #[.int .i64 c.leaf]) rfl rfl (by kernel_rfl) ?_
  refine (CL.out y5).mono ?_
  rintro e y6 ⟨rfl, hb⟩
  have E6 := Lib.hid (E5.out.trans (hb.mono E5.out.size))
  clear hb
  replace hB := HC0.out.on E6.out
  refine ⟨_, rfl, hB, ?_⟩
  refine wpAnyH_take (i := 36) (v := .string p10) rfl (by kernel_rfl) (by kernel_rfl) (by kernel_rfl) (fun _ _ _ h => h) (Or.inl ⟨by kernel_rfl, fun w' hw' => by go_simp; exact HP10.out.symm⟩) hB ?_
  refine anyH_one (i := 37) (by kernel_rfl) ?_
  refine any_valW rfl rfl (exec_bs12 (s0 := p0) (s1 := p1) (s2 := p2) (s3 := p3) (s4 := p4) (s5 := p5) (s6 := p6) (s7 := p7) (s8 := p8) (s9 := p9) (s10 := p10) (s11 := (⟨#[]⟩ : ByteArray)) y6 rfl (by kernel_rfl) (by kernel_rfl) (by kernel_rfl) (by kernel_rfl) (by kernel_rfl) (by kernel_rfl) (by kernel_rfl) (by kernel_rfl) (by kernel_rfl) (by kernel_rfl) (by kernel_rfl) rfl) ?_
  obtain ⟨y7, hy7⟩ : ∃ x, x = y6.alloc (.cells #[.string p0, .string p1, .string p2, .string p3, .string p4, .string p5, .string p6, .string p7, .string p8, .string p9, .string p10, .string (⟨#[]⟩ : ByteArray)] 9) := ⟨_, rfl⟩
  rw [← hy7]
  have E7 : Hid (Below w0.heap.size w0 y7) := Lib.hid (by rw [hy7]; exact E6.out.alloc E6.out.size _)
  have AB : Hid (y7.heap[y6.heap.size]? = some (.cells #[.string p0, .string p1, .string p2, .string p3, .string p4, .string p5, .string p6, .string p7, .string p8, .string p9, .string p10, .string (⟨#[]⟩ : ByteArray)] 9 (0, 0))) := Lib.hid (by rw [hy7]; exact heap_alloc_last y6 _)
  clear hy7
  obtain ⟨q, hq⟩ : ∃ q, q = y6.heap.size := ⟨_, rfl⟩
  rw [← hq] at AB ⊢
  clear hq
  replace hB := HC0.out.on E7.out
  refine ⟨hB, ?_⟩
  refine wpAnyH_take (i := 38) (v := .slice (some ⟨q, 0, none⟩) 12 12) rfl (by kernel_rfl) (by kernel_rfl) (by kernel_rfl) (fun _ _ _ h => h) (Or.inl ⟨by kernel_rfl, fun w' hw' => by go_simp⟩) hB ?_
  refine wpAnyH_done (by kernel_rfl) ?_ _
  go_simp
  refine ‹∀ (a : Act) (w_1 : World), _ → _› _ _ ?_
  clear hB
  go_upto_region 3 with fail
  refine wp_region_held (S := fun wx => CB wx w.heap.size c gv rv 28) (by kernel_rfl) ?_
  change wpAnyH _ _ _ _ _ _ _ _ y7.drew
  obtain ⟨wf, hwf⟩ : ∃ wd, wd = y7.drew := ⟨_, rfl⟩
  rw [← hwf]
  have E8 : Hid (Below w0.heap.size w0 wf) := Lib.hid (by rw [hwf]; exact E7.out.trans ((Below.refl _ _).drew.mono E7.out.size))
  replace AB : Hid (wf.heap[q]? = some (.cells #[.string p0, .string p1, .string p2, .string p3, .string p4, .string p5, .string p6, .string p7, .string p8, .string p9, .string p10, .string (⟨#[]⟩ : ByteArray)] 9 (0, 0))) := Lib.hid (by rw [hwf]; exact AB.out)
  clear hwf
  have hB : (fun wx : World => CB wx w.heap.size c gv rv 28) wf := HC0.out.on E8.out
  refine wpAnyH_take (i := 0) (v := .slice (some ⟨q, 0, none⟩) 12 12) rfl (by kernel_rfl) (by kernel_rfl) (by kernel_rfl) (fun _ _ _ h => h) (Or.inl ⟨by kernel_rfl, fun w' hw' => by go_simp⟩) hB ?_
  refine wpAnyH_take (i := 3) (v := .pointer (some ⟨w.heap.size, 74, none⟩)) rfl (by kernel_rfl) (by kernel_rfl) (by kernel_rfl) (fun _ _ _ h => h) (Or.inl ⟨by kernel_rfl, fun w' hw' => by go_simp⟩) hB ?_
  refine wpAnyH_take (i := 4) (v := .string c.body) rfl (by kernel_rfl) (by kernel_rfl) (by kernel_rfl) (fun _ _ _ h => h) (Or.inl ⟨by kernel_rfl, fun w' hw' => by have cl := hw'.at (cn_74 OK.out gv rv); go_simp⟩) hB ?_
  refine anyH_one (i := 1) (by kernel_rfl) ?_
  refine any_call (f := 34) (args := #[.slice (some ⟨q, 0, none⟩) 12 12, .string (⟨#[10]⟩ : ByteArray)]) rfl rfl (by kernel_rfl) ?_
  refine (CT.out wf q AB.out).mono ?_
  rintro e y8 ⟨rfl, rfl⟩
  refine ⟨_, rfl, hB, ?_⟩
  refine wpAnyH_take (i := 2) (v := .string (rr ++ (⟨#[10]⟩ : ByteArray))) rfl (by kernel_rfl) (by kernel_rfl) (by kernel_rfl) (fun _ _ _ h => h) (Or.inl ⟨by kernel_rfl, fun w' hw' => by go_simp⟩) hB ?_
  refine wpAnyH_take (i := 5) (v := .string (rr ++ (⟨#[10]⟩ : ByteArray) ++ c.body)) rfl (by kernel_rfl) (by kernel_rfl) (by kernel_rfl) (fun _ _ _ h => h) (Or.inl ⟨by kernel_rfl, fun w' hw' => by go_simp⟩) hB ?_
  refine wpAnyH_take (i := 6) (v := .string (rr ++ (⟨#[10]⟩ : ByteArray) ++ c.body)) rfl (by kernel_rfl) (by kernel_rfl) (by kernel_rfl) (fun _ _ _ h => h) (Or.inl ⟨by kernel_rfl, fun w' hw' => by go_simp⟩) hB ?_
  refine wpAnyH_done (by kernel_rfl) ?_ _
  go_simp
  refine ‹∀ (a : Act) (w_1 : World), _ → _› _ _ ?_
  go_wp2_with fail
  go_ret
  exact ⟨by rw [← RES.out]; rfl, HB0.out.trans (E8.out.mono HB0.out.size)⟩
end Go.Proofs.YtohmdledkhgdaaaGreatDoor
