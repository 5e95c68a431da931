/- canonical.Form (printed by gen_cform.py). -/
import Derived.Test.YtohmdledkhgdaaaGreatDoorLo24
import Derived.Test.YtohmdledkhgdaaaGreatDoorLo25
namespace Go.Proofs.YtohmdledkhgdaaaGreatDoor
open Go.RowKit
set_option linter.unusedVariables false
set_option maxRecDepth 100000
theorem chk_parts {c : Cont} (h : chkF c = 0) : groupsF c.groups = 0 ∧ refsF c.refs = 0 ∧ heightB c.height = true := by
  unfold chkF at h
  obtain ⟨h1, h⟩ := ij_fe h
  obtain ⟨h2, h⟩ := ij_fe h
  obtain ⟨h3, h⟩ := ij_fe h
  obtain ⟨h4, h⟩ := ij_fe h
  obtain ⟨h5, h⟩ := ij_fe h
  obtain ⟨h6, h⟩ := ij_fe h
  obtain ⟨h7, h⟩ := ij_fe h
  obtain ⟨h8, h⟩ := ij_fe h
  obtain ⟨h9, h⟩ := ij_fe h
  have h9 := eIf_zero (by decide) h9
  exact ⟨h3, h5, by simpa using h9⟩
theorem form_err (c : Cont) : fe (fe (fe (fe 0 (chkF c)) (groupsF c.groups)) (refsF c.refs)) (eIf (!heightB c.height) 2) = chkF c := by
  by_cases h : chkF c = 0
  · obtain ⟨h1, h2, h3⟩ := chk_parts h
    rw [h, h1, h2, h3]; rfl
  · unfold fe
    simp [h]
/-- The text of the first lines. -/
def linesN (ws vs : List (List Nat)) (j : Nat) : List Nat := ((ws.zip vs).take j).flatMap fun p => p.1 ++ 32 :: p.2 ++ [10]
theorem linesN_succ {ws vs : List (List Nat)} {j : Nat} (h : j < ws.length) (h2 : j < vs.length) : linesN ws vs (j + 1) = linesN ws vs j ++ (ws.getD j [] ++ 32 :: vs.getD j [] ++ [10]) := by
  have hz : j < (ws.zip vs).length := by rw [List.length_zip]; omega
  unfold linesN
  rw [List.take_succ_eq_append_getElem hz, List.flatMap_append, List.getElem_zip]
  simp [List.getD, h, h2]
theorem linesN_le (ws vs : List (List Nat)) (j : Nat) : (linesN ws vs j).length ≤ ((ws.zip vs).flatMap fun p => p.1 ++ 32 :: p.2 ++ [10]).length := by
  unfold linesN
  conv => rhs; rw [← List.take_append_drop j (ws.zip vs), List.flatMap_append]
  rw [List.length_append]; omega
def vA (vs : List ByteArray) : Array Value := (vs.map Value.string).toArray
theorem vA_one (vs : List ByteArray) : (vA vs).all (·.oneCell') = true := by
  rw [Array.all_eq_true']
  intro x hx
  unfold vA at hx
  rw [List.mem_toArray, List.mem_map] at hx
  obtain ⟨y, _, rfl⟩ := hx
  rfl
theorem size_s11 : (Tryz.prog.info? 101).map (·.size) = some 11 := by kernel_rfl
theorem idx_s11 {vs : List ByteArray} (hl : vs.length = 11) (j : Nat) (hj : j < 11) (s : ByteArray) (hs : vs[j]? = some s) (w : World) : (Instr.index 101 (.agg (vA vs)) (.int .i64 (j : Int))).run Tryz.prog w = .ok (.string s) w := by
  have hi : (0 : Int) ≤ (j : Int) ∧ (j : Int) < 11 := by omega
  have e : (vA vs)[j]? = some (.string s) := by
    unfold vA
    rw [List.getElem?_toArray, List.getElem?_map, hs]; rfl
  simp [Instr.index, run_underlying Tryz.underlying101, asIntOf, hi, go_sem]
  rw [if_pos hj, e]
  rfl
theorem build_s11 (w : World) (s0 s1 s2 s3 s4 s5 s6 s7 s8 s9 s10 : ByteArray) : (Instr.build 101 #[(0, .string s0), (1, .string s1), (2, .string s2), (3, .string s3), (4, .string s4), (5, .string s5), (6, .string s6), (7, .string s7), (8, .string s8), (9, .string s9), (10, .string s10)]).run Tryz.prog w = .ok (.agg (vA [s0, s1, s2, s3, s4, s5, s6, s7, s8, s9, s10])) w := by kernel_rfl
theorem anyH_one {P : Program} {md : Region.Mode} {ops : Array Oper} {Q : Exit → Act → World → Prop} {S : World → Prop} {i : Nat} {fuel : Nat} {listed : Array Bool} {a : Act} {w : World} (hr : Region.ready md ops listed = [i])
    (h : wpOp P ops Q i (fun a' w' => S w' ∧ wpAnyH P md ops Q S fuel (listed.setIfInBounds i true) a' w') a w) : wpAnyH P md ops Q S (fuel + 1) listed a w :=
  wpAnyH_all hr (by simp) (fun j hj => by
    obtain rfl : j = i := by simpa using hj
    exact h)
theorem anyH_two {P : Program} {md : Region.Mode} {ops : Array Oper} {Q : Exit → Act → World → Prop} {S : World → Prop} {i k : Nat} {fuel : Nat} {listed : Array Bool} {a : Act} {w : World} (hr : Region.ready md ops listed = [i, k])
    (h : wpOp P ops Q i (fun a' w' => S w' ∧ wpAnyH P md ops Q S fuel (listed.setIfInBounds i true) a' w') a w) (h2 : wpOp P ops Q k (fun a' w' => S w' ∧ wpAnyH P md ops Q S fuel (listed.setIfInBounds k true) a' w') a w) : wpAnyH P md ops Q S (fuel + 1) listed a w :=
  wpAnyH_all hr (by simp) (fun j hj => by
    simp only [List.mem_cons, List.not_mem_nil, or_false] at hj
    rcases hj with rfl | rfl
    · exact h
    · exact h2)
theorem dg_strN {n : Int} {w : World} {e : Ending} {w' : World} (h : DgPost n w e w') : e = .returned (.string (strN (digI n))) ∧ Below w.heap.size w w' := by
  obtain ⟨t, rfl, ht, _, hb⟩ := h
  exact ⟨by rw [← ht, strN_bs], hb⟩
theorem any_valW {P : Program} {ops : Array Oper} {Q : Exit → Act → World → Prop} {i : Nat} {o : Oper} {K : Act → World → Prop} {a : Act} {w w' : World} {v : Value} (ho : ops[i]? = some o) (hg : o.guard = none)
    (he : (execOp a.eval o).run P w = .ok (.value v) w') (h : K (a.put o.dst v) w') : wpOp P ops Q i K a w := wpOp_of ho hg (exec_value_wp he h)
theorem exec_allocS {o : Oper} {a : Act} (w : World) (ho : o.op = .alloc 101) : (execOp a.eval o).run Tryz.prog w = .ok (.value (.pointer (some ⟨w.heap.size, 0, none⟩))) (w.alloc (.cells #[.string ⟨#[]⟩, .string ⟨#[]⟩, .string ⟨#[]⟩, .string ⟨#[]⟩, .string ⟨#[]⟩, .string ⟨#[]⟩, .string ⟨#[]⟩, .string ⟨#[]⟩, .string ⟨#[]⟩, .string ⟨#[]⟩, .string ⟨#[]⟩] 101)) := by
  unfold execOp
  rw [ho]
  rfl
theorem ChI.row {w : World} {c : Cn} {gv rv : Value} {n : Nat} {wx : World} (h : ChI w c gv rv n wx) (hw : CnIn w c gv rv) (hE : Env w) {p' : Nat} (hp : w.heap.size + 1 < p') (cs : Array Value) : ChI w c gv rv n (wx.setRow p' cs) := by
  have b := below_setRow h.fr (show w.heap.size ≤ p' by omega) cs
  exact ⟨(setRow_other wx p' _ cs (by omega)).trans h.ck, b, (setRow_other wx p' _ cs (by omega)).trans h.cb, hE.on b, hw.on b⟩
def V0 (c : Cn) (da d1 tg tr op tk d2 : ByteArray) : List ByteArray := [c.name, da, d1, tg, c.subject, tr, op, c.ctl, c.dist, tk, d2]
theorem fWords_len : ∀ j, j < 11 → (fWords.getD j []).length ≤ 20 := by decide
theorem fWords_lt : ∀ j, j < 11 → ∀ x ∈ fWords.getD j [], x < 256 := by decide
theorem v0_bs (c : Cn) (da d1 tg tr op tk d2 : ByteArray) (ok : c.Ok) (vd : c.p.Vd) (h1 : da = strN (hexF c.author)) (h2 : d1 = strN (digI c.date)) (h3 : op = strN (optF c.sup)) (h4 : d2 = strN (digI c.leaf)) (h5 : bs tg = joinF [44] (c.groups.map bs)) (h6 : bs tr = joinF [32] (c.refs.map midF)) (h7 : bs tk = keyF c.p) : (V0 c da d1 tg tr op tk d2).map bs = fVals c.p := by
  have e1 : bs da = hexF c.author := by rw [h1]; exact bs_strN _ (fun x hx => by have := hexF_mem ok.author.lt x hx; omega)
  have e2 : bs d1 = digI c.date := by rw [h2]; exact bs_strN _ (fun x hx => by have := digI_mem (n := c.date) vd.date.1 x hx; omega)
  have e3 : bs op = optF c.sup := by
    rw [h3]
    refine bs_strN _ (fun x hx => ?_)
    unfold optF at hx
    split at hx
    · cases hx
    · have := midF_mem ok.sup.lt x hx; omega
  have e4 : bs d2 = digI c.leaf := by rw [h4]; exact bs_strN _ (fun x hx => by have := digI_mem (n := c.leaf) vd.leaf.1 x hx; omega)
  unfold V0 fVals
  simp only [List.map_cons, List.map_nil, e1, e2, e3, e4, h5, h6, h7]
  rfl
theorem vals_at {V : List ByteArray} {c : Cont} (h : V.map bs = fVals c) (j : Nat) (hj : j < 11) : ∃ s, V[j]? = some s ∧ bs s = (fVals c).getD j [] := by
  have hl : (fVals c).length = 11 := rfl
  have hV : V.length = 11 := by rw [← List.length_map bs, h, hl]
  refine ⟨V[j], List.getElem?_eq_getElem (by omega), ?_⟩
  rw [← h, List.getD_eq_getElem?_getD, List.getElem?_map, List.getElem?_eq_getElem (by omega)]
  rfl
theorem form_lt {V : List ByteArray} {c : Cn} (h : V.map bs = fVals c.p) : ∀ x ∈ formF c.p, x < 256 := by
  intro x hx
  unfold formF at hx
  rw [List.mem_append, List.mem_cons] at hx
  rcases hx with hx | rfl | hx
  · obtain ⟨p, hp, hx⟩ := List.mem_flatMap.1 hx
    rw [List.mem_append, List.mem_append, List.mem_cons, List.mem_singleton] at hx
    rcases hx with (hx | rfl | hx) | rfl
    · have h1 := (List.of_mem_zip hp).1
      have : ∀ l ∈ fWords, ∀ x ∈ l, x < 256 := by decide
      exact this _ h1 x hx
    · decide
    · have h2 := (List.of_mem_zip hp).2
      rw [← h] at h2
      obtain ⟨s, _, hs⟩ := List.mem_map.1 h2
      rw [← hs] at hx
      exact bs_lt s x hx
    · decide
  · decide
  · exact bs_lt c.body x hx
/-- What Form returns. -/
def FormP (c : Cont) (w : World) (e : Ending) (w' : World) : Prop :=
  e = .returned (.tuple #[.string (strN (if chkF c = 0 then formF c else [])), .int .i64 ((chkF c : Nat) : Int)]) ∧ Below w.heap.size w w'
set_option maxHeartbeats 1000000 in
theorem form_any (w : World) (c : Cn) (gv rv : Value) (hin : CnIn w c gv rv) (hF : chkF c.p = 0 → (formF c.p).length ≤ 10000000) (hE : Env w) :
    Calls Tryz.prog 19 #[.agg (c.cells gv rv)] w (FormP c.p w) := by
  have HIN := Lib.hid hin; have HE := Lib.hid hE; have OK := Lib.hid hin.ok; have HF := Lib.hid hF
  have ERR := Lib.hid (form_err c.p)
  have FX : Hid (∀ e w', FormP c.p w e w' ↔ e = .returned (.tuple #[.string (strN (if chkF c.p = 0 then formF c.p else [])), .int .i64 ((chkF c.p : Nat) : Int)]) ∧ Below w.heap.size w w') := Lib.hid (fun _ _ => Iff.rfl)
  obtain ⟨p0, hp0⟩ : ∃ p, p = chkF c.p := ⟨_, rfl⟩
  obtain ⟨p1, hp1⟩ : ∃ p, p = groupsF (c.groups.map bs) := ⟨_, rfl⟩
  obtain ⟨p2, hp2⟩ : ∃ p, p = refsF c.refs := ⟨_, rfl⟩
  obtain ⟨p3, hp3⟩ : ∃ p, p = eIf (!heightB c.height) 2 := ⟨_, rfl⟩
  have HP0 := Lib.hid hp0; have HP1 := Lib.hid hp1; have HP2 := Lib.hid hp2; have HP3 := Lib.hid hp3
  have ERR2 : Hid (fe (fe (fe (fe 0 p0) p1) p2) p3 = p0) := Lib.hid (by have := ERR.out; rw [hp0, hp1, hp2, hp3]; exact this)
  obtain ⟨w0, hw0⟩ : ∃ w0, w0 = (w.alloc (.cells (c.cells gv rv) 37)).alloc (.cells #[.int .i64 0] 96) := ⟨_, rfl⟩
  have I0 : Hid (ChI w c gv rv 0 w0) := Lib.hid (by
    have b1 : Below w.heap.size w (w.alloc (.cells (c.cells gv rv) 37)) := (Below.refl _ _).alloc (Nat.le_refl _) _
    have b2 : Below (w.alloc (.cells (c.cells gv rv) 37)).heap.size (w.alloc (.cells (c.cells gv rv) 37)) w0 := by rw [hw0]; exact (Below.refl _ _).alloc (Nat.le_refl _) _
    have b := b1.trans (b2.mono (by simp))
    refine ⟨?_, b, (CB.new w c gv rv _).on b2, hE.on b, hin.on b⟩
    have := heap_alloc_new (w.alloc (.cells (c.cells gv rv) 37)) (.cells #[.int .i64 0] 96)
    rw [World.size_alloc, ← hw0] at this
    exact this)
  have hw9 : 9 ≤ w.heap.size + 1 := by have := hE.size; omega
  have LD := Lib.hid (I0.out.cb.all OK.out)
  have CK := Lib.hid (check_any w0 c gv rv I0.out.inp I0.out.env)
  rw [← hp0] at CK
  obtain ⟨cs, hcs⟩ : ∃ cs, cs = c.cells gv rv := ⟨_, rfl⟩
  have HCS := Lib.hid hcs
  rw [← hcs] at hw0 LD CK ⊢
  have HW := Lib.hid hw0
  clear hcs hw0 hin hE hF hp0 hp1 hp2 hp3 ERR
  go_enter Tryz.func19, Tryz.ntmps19
  go_upto_region 2 with fail
  rw [← HW.out]
  clear HW
  refine wp_region_list ?_
  simp only []
  refine wpList_load 37 rfl _ rfl ⟨_, _, rfl, LD.out, ?_⟩
  go_wp2_with fail
  refine CK.out.mono ?_
  rintro e w1 ⟨rfl, hb⟩
  have I1 := Lib.hid (I0.out.on hb)
  clear hb I0 LD CK
  have K := Lib.hid (take_any w1 (w.heap.size + 1) _ I1.out.ck p0)
  go_wp2_with fail
  refine K.out.mono ?_
  rintro e w2 ⟨⟨v2, rfl⟩, h, f⟩
  have I2 := Lib.hid (I1.out.step HIN.out HE.out h f)
  clear h f I1 K
  have cg : w2.cell? ⟨w.heap.size, 18, none⟩ = some gv := I2.out.cb.at (cn_18 OK.out gv rv)
  have FL := Lib.hid (flist_any w2 gv c.groups I2.out.inp.srow HIN.out.gl HIN.out.gz I2.out.env)
  rw [← HP1.out] at FL
  go_wp2_with fail
  refine FL.out.mono ?_
  rintro e w3 ⟨tg, rfl, htg, htg2, hb⟩
  have TG := Lib.hid htg
  have I3 := Lib.hid (I2.out.on hb)
  clear hb I2 FL cg htg htg2
  have K := Lib.hid (take_any w3 (w.heap.size + 1) _ I3.out.ck p1)
  go_wp2_with fail
  refine K.out.mono ?_
  rintro e w4 ⟨⟨v4, rfl⟩, h, f⟩
  have I4 := Lib.hid (I3.out.step HIN.out HE.out h f)
  clear h f I3 K
  have cr : w4.cell? ⟨w.heap.size, 20, none⟩ = some rv := I4.out.cb.at (cn_20 OK.out gv rv)
  have RP := Lib.hid (rprint_any w4 rv c.refs I4.out.inp.irow HIN.out.rl OK.out.refs)
  rw [← HP2.out] at RP
  go_wp2_with fail
  refine RP.out.mono ?_
  rintro e w5 ⟨tr, rfl, htr, htr2, hb⟩
  have TR := Lib.hid htr
  have I5 := Lib.hid (I4.out.on hb)
  clear hb I4 RP cr htr htr2
  have K := Lib.hid (take_any w5 (w.heap.size + 1) _ I5.out.ck p2)
  go_wp2_with fail
  refine K.out.mono ?_
  rintro e w6 ⟨⟨v6, rfl⟩, h, f⟩
  have I6 := Lib.hid (I5.out.step HIN.out HE.out h f)
  clear h f I5 K
  have LD := Lib.hid (I6.out.cb.all OK.out)
  have KT := Lib.hid (ktext_any w6 c OK.out gv rv I6.out.env)
  rw [← HCS.out] at LD KT
  go_upto_region 7 with fail
  refine wp_region_list ?_
  simp only []
  refine wpList_load 37 rfl _ rfl ⟨_, _, rfl, LD.out, ?_⟩
  go_wp2_with fail
  refine KT.out.mono ?_
  rintro e w7 ⟨tk, rfl, htk, htk2, hb⟩
  rw [← HP3.out]
  have TK := Lib.hid htk
  have I7 := Lib.hid (I6.out.on hb)
  clear hb I6 KT LD htk htk2
  have K := Lib.hid (take_any w7 (w.heap.size + 1) _ I7.out.ck p3)
  go_wp2_with fail
  refine K.out.mono ?_
  rintro e w8 ⟨⟨v8, rfl⟩, h, f⟩
  have h8 := I7.out.step HIN.out HE.out h f
  rw [ERR2.out] at h8
  have I8 := Lib.hid h8
  clear h f I7 K h8
  have ce := I8.out.ck.cell
  by_cases h0 : p0 = 0
  · subst h0
    have hz : ((((0 : Nat) : Int)) != 0) = false := rfl
    obtain ⟨da, hda⟩ : ∃ s, s = strN (hexF c.author) := ⟨_, rfl⟩
    obtain ⟨d1, hd1⟩ : ∃ s, s = strN (digI c.date) := ⟨_, rfl⟩
    obtain ⟨op, hop⟩ : ∃ s, s = strN (optF c.sup) := ⟨_, rfl⟩
    obtain ⟨d2, hd2⟩ : ∃ s, s = strN (digI c.leaf) := ⟨_, rfl⟩
    obtain ⟨au, hau⟩ : ∃ s, s = idA c.author := ⟨_, rfl⟩
    obtain ⟨sp, hsp⟩ : ∃ s, s = idA c.sup := ⟨_, rfl⟩
    have LDA : Hid (∀ wx, CB wx w.heap.size c gv rv 37 → (loadVar 33 ⟨w.heap.size, 1, none⟩).run Tryz.prog wx = .ok (.agg au) wx) := Lib.hid (fun wx h => by rw [hau]; exact CB.author h OK.out)
    have LDS : Hid (∀ wx, CB wx w.heap.size c gv rv 37 → (loadVar 26 ⟨w.heap.size, 21, none⟩).run Tryz.prog wx = .ok (.agg sp) wx) := Lib.hid (fun wx h => by rw [hsp]; exact CB.sup h OK.out)
    have C4 : Hid (∀ wx, Env wx → Calls Tryz.prog 55 #[.agg au] wx fun e w' => e = .returned (.string da) ∧ Below wx.heap.size wx w') := Lib.hid (fun wx _ => by rw [hau, hda]; exact author_any wx OK.out.author)
    have C7 : Hid (∀ wx, Env wx → Calls Tryz.prog 56 #[.int .i64 c.date] wx fun e w' => e = .returned (.string d1) ∧ Below wx.heap.size wx w') := Lib.hid (fun wx he => by rw [hd1]; exact (digNs_any c.date (i64_of OK.out.date).1 (i64_of OK.out.date).2 wx he).mono (fun _ _ h => dg_strN h))
    have C14 : Hid (∀ wx, Env wx → Calls Tryz.prog 57 #[.agg sp] wx fun e w' => e = .returned (.string op) ∧ Below wx.heap.size wx w') := Lib.hid (fun wx _ => by rw [hsp, hop]; exact optid_any wx OK.out.sup)
    have C22 : Hid (∀ wx, Env wx → Calls Tryz.prog 56 #[.int .i64 c.leaf] wx fun e w' => e = .returned (.string d2) ∧ Below wx.heap.size wx w') := Lib.hid (fun wx he => by rw [hd2]; exact (digNs_any c.leaf (i64_of OK.out.leaf).1 (i64_of OK.out.leaf).2 wx he).mono (fun _ _ h => dg_strN h))
    obtain ⟨vs, hvs⟩ : ∃ vs, vs = vA [c.name, da, d1, tg, c.subject, tr, op, c.ctl, c.dist, tk, d2] := ⟨_, rfl⟩
    have VSZ : Hid (vs.size = 11) := Lib.hid (by rw [hvs]; rfl)
    have VON : Hid (vs.all (·.oneCell') = true) := Lib.hid (by rw [hvs]; exact vA_one _)
    have BLD : Hid (∀ w, (Instr.build 101 #[(0, .string c.name), (1, .string da), (2, .string d1), (3, .string tg), (4, .string c.subject), (5, .string tr), (6, .string op), (7, .string c.ctl), (8, .string c.dist), (9, .string tk), (10, .string d2)]).run Tryz.prog w = .ok (.agg vs) w) := Lib.hid (fun w => by rw [hvs]; exact build_s11 w _ _ _ _ _ _ _ _ _ _ _)
    have HVS := Lib.hid hvs; have HDA := Lib.hid hda; have HD1 := Lib.hid hd1; have HOP := Lib.hid hop; have HD2 := Lib.hid hd2
    clear hvs hda hd1 hop hd2 hau hsp
    go_upto_region 11 with fail
    go_cut [9] (fun p wx => ∃ p', p = .pointer (some ⟨p', 0, none⟩) ∧ Hid (wx.heap[p']? = some (.cells vs 101 (0, 0))) ∧ Hid (ChI w c gv rv 0 wx))
    case first =>
      have ID := Lib.hid (I8.out.on (Dr.below ⟨1, rfl⟩ : Below w8.heap.size w8 w8.drew))
      refine wp_region_held (S := fun wx => CB wx w.heap.size c gv rv 37) (by kernel_rfl) ?_
      change wpAnyH _ _ _ _ _ _ _ _ w8.drew
      obtain ⟨wd, hwd⟩ : ∃ wd, wd = w8.drew := ⟨_, rfl⟩
      rw [← hwd] at ID ⊢
      clear hwd I8 ce
      have hB : (fun wx : World => CB wx w.heap.size c gv rv 37) wd := ID.out.cb
      refine takeV 0 (.pointer (some ⟨w.heap.size, 0, none⟩)) rfl (fun _ _ => by go_simp) hB ?_
      refine takeV 1 (.string c.name) rfl (fun w' hw' => by have cl := hw'.at (cn_0 c gv rv); go_simp) hB ?_
      refine takeV 2 (.pointer (some ⟨w.heap.size, 1, none⟩)) rfl (fun _ _ => by go_simp) hB ?_
      refine takeV 3 (.agg au) rfl (fun w' hw' => exec_load (ty := 33) (x := .tmp 46) (ad := ⟨w.heap.size, 1, none⟩) rfl (by kernel_rfl) (LDA.out w' hw')) hB ?_
      refine takeV 5 (.pointer (some ⟨w.heap.size, 17, none⟩)) rfl (fun _ _ => by go_simp) hB ?_
      refine takeV 6 (.int .i64 c.date) rfl (fun w' hw' => by have cl := hw'.at (cn_17 OK.out gv rv); go_simp) hB ?_
      refine takeV 8 (.string tg) rfl (fun _ _ => by go_simp) hB ?_
      refine takeV 9 (.pointer (some ⟨w.heap.size, 19, none⟩)) rfl (fun _ _ => by go_simp) hB ?_
      refine takeV 10 (.string c.subject) rfl (fun w' hw' => by have cl := hw'.at (cn_19 OK.out gv rv); go_simp) hB ?_
      refine takeV 11 (.string tr) rfl (fun _ _ => by go_simp) hB ?_
      refine takeV 12 (.pointer (some ⟨w.heap.size, 21, none⟩)) rfl (fun _ _ => by go_simp) hB ?_
      refine takeV 13 (.agg sp) rfl (fun w' hw' => exec_load (ty := 26) (x := .tmp 56) (ad := ⟨w.heap.size, 21, none⟩) rfl (by kernel_rfl) (LDS.out w' hw')) hB ?_
      refine takeV 15 (.pointer (some ⟨w.heap.size, 53, none⟩)) rfl (fun _ _ => by go_simp) hB ?_
      refine takeV 16 (.string c.ctl) rfl (fun w' hw' => by have cl := hw'.at (cn_53 OK.out gv rv); go_simp) hB ?_
      refine takeV 17 (.pointer (some ⟨w.heap.size, 54, none⟩)) rfl (fun _ _ => by go_simp) hB ?_
      refine takeV 18 (.string c.dist) rfl (fun w' hw' => by have cl := hw'.at (cn_54 OK.out gv rv); go_simp) hB ?_
      refine takeV 19 (.string tk) rfl (fun _ _ => by go_simp) hB ?_
      refine takeV 20 (.pointer (some ⟨w.heap.size, 73, none⟩)) rfl (fun _ _ => by go_simp) hB ?_
      refine takeV 21 (.int .i64 c.leaf) rfl (fun w' hw' => by have cl := hw'.at (cn_73 OK.out gv rv); go_simp) hB ?_
      refine anyH_two (i := 4) (k := 24) (by kernel_rfl) ?_ ?_
      · skip
        refine any_call (f := 55) (args := #[.agg au]) rfl rfl (by kernel_rfl) ?_
        refine (C4.out wd ID.out.env).mono ?_
        rintro e y1 ⟨rfl, hb⟩
        have J0 := Lib.hid (ID.out.on hb)
        clear hb
        refine ⟨_, rfl, J0.out.cb, ?_⟩
        refine anyH_two (i := 7) (k := 24) (by kernel_rfl) ?_ ?_
        · skip
          refine any_call (f := 56) (args := #[.int .i64 c.date]) rfl rfl (by kernel_rfl) ?_
          refine (C7.out y1 J0.out.env).mono ?_
          rintro e y2 ⟨rfl, hb⟩
          have J1 := Lib.hid (J0.out.on hb)
          clear hb
          refine ⟨_, rfl, J1.out.cb, ?_⟩
          refine anyH_two (i := 14) (k := 24) (by kernel_rfl) ?_ ?_
          · skip
            refine any_call (f := 57) (args := #[.agg sp]) rfl rfl (by kernel_rfl) ?_
            refine (C14.out y2 J1.out.env).mono ?_
            rintro e y3 ⟨rfl, hb⟩
            have J2 := Lib.hid (J1.out.on hb)
            clear hb
            refine ⟨_, rfl, J2.out.cb, ?_⟩
            refine anyH_two (i := 22) (k := 24) (by kernel_rfl) ?_ ?_
            · skip
              refine any_call (f := 56) (args := #[.int .i64 c.leaf]) rfl rfl (by kernel_rfl) ?_
              refine (C22.out y3 J2.out.env).mono ?_
              rintro e y4 ⟨rfl, hb⟩
              have J3 := Lib.hid (J2.out.on hb)
              clear hb
              refine ⟨_, rfl, J3.out.cb, ?_⟩
              have hB := J3.out.cb
              refine takeV 23 (.agg vs) rfl (fun _ _ => by go_simp; exact HVS.out.symm) hB ?_
              refine anyH_one (i := 24) (by kernel_rfl) ?_
              refine any_valW rfl rfl (exec_allocS y4 rfl) ?_
              have HP' := J3.out.ck.lt
              obtain ⟨y5, hy5⟩ : ∃ x, x = y4.alloc (.cells #[.string ⟨#[]⟩, .string ⟨#[]⟩, .string ⟨#[]⟩, .string ⟨#[]⟩, .string ⟨#[]⟩, .string ⟨#[]⟩, .string ⟨#[]⟩, .string ⟨#[]⟩, .string ⟨#[]⟩, .string ⟨#[]⟩, .string ⟨#[]⟩] 101) := ⟨_, rfl⟩
              rw [← hy5]
              have A0 : Hid (ChI w c gv rv 0 y5) := Lib.hid (by rw [hy5]; exact J3.out.on ((Below.refl _ _).alloc (Nat.le_refl _) _))
              have AB : Hid (y5.heap[y4.heap.size]? = some (.cells #[.string ⟨#[]⟩, .string ⟨#[]⟩, .string ⟨#[]⟩, .string ⟨#[]⟩, .string ⟨#[]⟩, .string ⟨#[]⟩, .string ⟨#[]⟩, .string ⟨#[]⟩, .string ⟨#[]⟩, .string ⟨#[]⟩, .string ⟨#[]⟩] 101 (0, 0))) := Lib.hid (by rw [hy5]; exact heap_alloc_last y4 _)
              clear hy5
              refine ⟨A0.out.cb, ?_⟩
              refine anyH_one (i := 25) (by kernel_rfl) ?_
              have IF := Lib.hid (A0.out.row HIN.out HE.out (p' := y4.heap.size) (by omega) vs)
              have W2 := Lib.hid (setRow_heap y5 y4.heap.size _ vs _ _ AB.out)
              have STR := Lib.hid (run_storeVar_row (P := Tryz.prog) y5 y4.heap.size _ 101 _ vs AB.out (by rw [VSZ.out]; exact size_s11) (by rw [VSZ.out]; rfl) VON.out)
              refine any_skip rfl rfl (exec_store (t := 101) (x := .tmp 9) (y := .tmp 67) (ad := ⟨y4.heap.size, 0, none⟩) (u := .agg vs) rfl (by kernel_rfl) (by kernel_rfl) STR.out) ?_
              refine ⟨IF.out.cb, ?_⟩
              refine wpAnyH_done (by kernel_rfl) ?_ _
              go_simp
              clear hB
              refine ‹∀ (a : Act) (w_1 : World), _ → _› _ _ ?_
              go_meet
              exact ⟨_, rfl, W2, IF⟩
            · skip
              refine any_valW rfl rfl (exec_allocS y3 rfl) ?_
              have HP' := J2.out.ck.lt
              obtain ⟨y6, hy6⟩ : ∃ x, x = y3.alloc (.cells #[.string ⟨#[]⟩, .string ⟨#[]⟩, .string ⟨#[]⟩, .string ⟨#[]⟩, .string ⟨#[]⟩, .string ⟨#[]⟩, .string ⟨#[]⟩, .string ⟨#[]⟩, .string ⟨#[]⟩, .string ⟨#[]⟩, .string ⟨#[]⟩] 101) := ⟨_, rfl⟩
              rw [← hy6]
              have A0 : Hid (ChI w c gv rv 0 y6) := Lib.hid (by rw [hy6]; exact J2.out.on ((Below.refl _ _).alloc (Nat.le_refl _) _))
              have AB : Hid (y6.heap[y3.heap.size]? = some (.cells #[.string ⟨#[]⟩, .string ⟨#[]⟩, .string ⟨#[]⟩, .string ⟨#[]⟩, .string ⟨#[]⟩, .string ⟨#[]⟩, .string ⟨#[]⟩, .string ⟨#[]⟩, .string ⟨#[]⟩, .string ⟨#[]⟩, .string ⟨#[]⟩] 101 (0, 0))) := Lib.hid (by rw [hy6]; exact heap_alloc_last y3 _)
              clear hy6
              refine ⟨A0.out.cb, ?_⟩
              refine anyH_one (i := 22) (by kernel_rfl) ?_
              refine any_call (f := 56) (args := #[.int .i64 c.leaf]) rfl rfl (by kernel_rfl) ?_
              refine (C22.out y6 A0.out.env).mono ?_
              rintro e y7 ⟨rfl, hb⟩
              have A4 := Lib.hid (A0.out.on hb)
              replace AB := Lib.hid ((hb.block _ (lt_of_block AB.out)).trans AB.out)
              clear hb
              refine ⟨_, rfl, A4.out.cb, ?_⟩
              have hB := A4.out.cb
              refine takeV 23 (.agg vs) rfl (fun _ _ => by go_simp; exact HVS.out.symm) hB ?_
              refine anyH_one (i := 25) (by kernel_rfl) ?_
              have IF := Lib.hid (A4.out.row HIN.out HE.out (p' := y3.heap.size) (by omega) vs)
              have W2 := Lib.hid (setRow_heap y7 y3.heap.size _ vs _ _ AB.out)
              have STR := Lib.hid (run_storeVar_row (P := Tryz.prog) y7 y3.heap.size _ 101 _ vs AB.out (by rw [VSZ.out]; exact size_s11) (by rw [VSZ.out]; rfl) VON.out)
              refine any_skip rfl rfl (exec_store (t := 101) (x := .tmp 9) (y := .tmp 67) (ad := ⟨y3.heap.size, 0, none⟩) (u := .agg vs) rfl (by kernel_rfl) (by kernel_rfl) STR.out) ?_
              refine ⟨IF.out.cb, ?_⟩
              refine wpAnyH_done (by kernel_rfl) ?_ _
              go_simp
              clear hB
              refine ‹∀ (a : Act) (w_1 : World), _ → _› _ _ ?_
              go_meet
              exact ⟨_, rfl, W2, IF⟩
          · skip
            refine any_valW rfl rfl (exec_allocS y2 rfl) ?_
            have HP' := J1.out.ck.lt
            obtain ⟨y8, hy8⟩ : ∃ x, x = y2.alloc (.cells #[.string ⟨#[]⟩, .string ⟨#[]⟩, .string ⟨#[]⟩, .string ⟨#[]⟩, .string ⟨#[]⟩, .string ⟨#[]⟩, .string ⟨#[]⟩, .string ⟨#[]⟩, .string ⟨#[]⟩, .string ⟨#[]⟩, .string ⟨#[]⟩] 101) := ⟨_, rfl⟩
            rw [← hy8]
            have A0 : Hid (ChI w c gv rv 0 y8) := Lib.hid (by rw [hy8]; exact J1.out.on ((Below.refl _ _).alloc (Nat.le_refl _) _))
            have AB : Hid (y8.heap[y2.heap.size]? = some (.cells #[.string ⟨#[]⟩, .string ⟨#[]⟩, .string ⟨#[]⟩, .string ⟨#[]⟩, .string ⟨#[]⟩, .string ⟨#[]⟩, .string ⟨#[]⟩, .string ⟨#[]⟩, .string ⟨#[]⟩, .string ⟨#[]⟩, .string ⟨#[]⟩] 101 (0, 0))) := Lib.hid (by rw [hy8]; exact heap_alloc_last y2 _)
            clear hy8
            refine ⟨A0.out.cb, ?_⟩
            refine anyH_one (i := 14) (by kernel_rfl) ?_
            refine any_call (f := 57) (args := #[.agg sp]) rfl rfl (by kernel_rfl) ?_
            refine (C14.out y8 A0.out.env).mono ?_
            rintro e y9 ⟨rfl, hb⟩
            have A3 := Lib.hid (A0.out.on hb)
            replace AB := Lib.hid ((hb.block _ (lt_of_block AB.out)).trans AB.out)
            clear hb
            refine ⟨_, rfl, A3.out.cb, ?_⟩
            refine anyH_one (i := 22) (by kernel_rfl) ?_
            refine any_call (f := 56) (args := #[.int .i64 c.leaf]) rfl rfl (by kernel_rfl) ?_
            refine (C22.out y9 A3.out.env).mono ?_
            rintro e y10 ⟨rfl, hb⟩
            have A4 := Lib.hid (A3.out.on hb)
            replace AB := Lib.hid ((hb.block _ (lt_of_block AB.out)).trans AB.out)
            clear hb
            refine ⟨_, rfl, A4.out.cb, ?_⟩
            have hB := A4.out.cb
            refine takeV 23 (.agg vs) rfl (fun _ _ => by go_simp; exact HVS.out.symm) hB ?_
            refine anyH_one (i := 25) (by kernel_rfl) ?_
            have IF := Lib.hid (A4.out.row HIN.out HE.out (p' := y2.heap.size) (by omega) vs)
            have W2 := Lib.hid (setRow_heap y10 y2.heap.size _ vs _ _ AB.out)
            have STR := Lib.hid (run_storeVar_row (P := Tryz.prog) y10 y2.heap.size _ 101 _ vs AB.out (by rw [VSZ.out]; exact size_s11) (by rw [VSZ.out]; rfl) VON.out)
            refine any_skip rfl rfl (exec_store (t := 101) (x := .tmp 9) (y := .tmp 67) (ad := ⟨y2.heap.size, 0, none⟩) (u := .agg vs) rfl (by kernel_rfl) (by kernel_rfl) STR.out) ?_
            refine ⟨IF.out.cb, ?_⟩
            refine wpAnyH_done (by kernel_rfl) ?_ _
            go_simp
            clear hB
            refine ‹∀ (a : Act) (w_1 : World), _ → _› _ _ ?_
            go_meet
            exact ⟨_, rfl, W2, IF⟩
        · skip
          refine any_valW rfl rfl (exec_allocS y1 rfl) ?_
          have HP' := J0.out.ck.lt
          obtain ⟨y11, hy11⟩ : ∃ x, x = y1.alloc (.cells #[.string ⟨#[]⟩, .string ⟨#[]⟩, .string ⟨#[]⟩, .string ⟨#[]⟩, .string ⟨#[]⟩, .string ⟨#[]⟩, .string ⟨#[]⟩, .string ⟨#[]⟩, .string ⟨#[]⟩, .string ⟨#[]⟩, .string ⟨#[]⟩] 101) := ⟨_, rfl⟩
          rw [← hy11]
          have A0 : Hid (ChI w c gv rv 0 y11) := Lib.hid (by rw [hy11]; exact J0.out.on ((Below.refl _ _).alloc (Nat.le_refl _) _))
          have AB : Hid (y11.heap[y1.heap.size]? = some (.cells #[.string ⟨#[]⟩, .string ⟨#[]⟩, .string ⟨#[]⟩, .string ⟨#[]⟩, .string ⟨#[]⟩, .string ⟨#[]⟩, .string ⟨#[]⟩, .string ⟨#[]⟩, .string ⟨#[]⟩, .string ⟨#[]⟩, .string ⟨#[]⟩] 101 (0, 0))) := Lib.hid (by rw [hy11]; exact heap_alloc_last y1 _)
          clear hy11
          refine ⟨A0.out.cb, ?_⟩
          refine anyH_one (i := 7) (by kernel_rfl) ?_
          refine any_call (f := 56) (args := #[.int .i64 c.date]) rfl rfl (by kernel_rfl) ?_
          refine (C7.out y11 A0.out.env).mono ?_
          rintro e y12 ⟨rfl, hb⟩
          have A2 := Lib.hid (A0.out.on hb)
          replace AB := Lib.hid ((hb.block _ (lt_of_block AB.out)).trans AB.out)
          clear hb
          refine ⟨_, rfl, A2.out.cb, ?_⟩
          refine anyH_one (i := 14) (by kernel_rfl) ?_
          refine any_call (f := 57) (args := #[.agg sp]) rfl rfl (by kernel_rfl) ?_
          refine (C14.out y12 A2.out.env).mono ?_
          rintro e y13 ⟨rfl, hb⟩
          have A3 := Lib.hid (A2.out.on hb)
          replace AB := Lib.hid ((hb.block _ (lt_of_block AB.out)).trans AB.out)
          clear hb
          refine ⟨_, rfl, A3.out.cb, ?_⟩
          refine anyH_one (i := 22) (by kernel_rfl) ?_
          refine any_call (f := 56) (args := #[.int .i64 c.leaf]) rfl rfl (by kernel_rfl) ?_
          refine (C22.out y13 A3.out.env).mono ?_
          rintro e y14 ⟨rfl, hb⟩
          have A4 := Lib.hid (A3.out.on hb)
          replace AB := Lib.hid ((hb.block _ (lt_of_block AB.out)).trans AB.out)
          clear hb
          refine ⟨_, rfl, A4.out.cb, ?_⟩
          have hB := A4.out.cb
          refine takeV 23 (.agg vs) rfl (fun _ _ => by go_simp; exact HVS.out.symm) hB ?_
          refine anyH_one (i := 25) (by kernel_rfl) ?_
          have IF := Lib.hid (A4.out.row HIN.out HE.out (p' := y1.heap.size) (by omega) vs)
          have W2 := Lib.hid (setRow_heap y14 y1.heap.size _ vs _ _ AB.out)
          have STR := Lib.hid (run_storeVar_row (P := Tryz.prog) y14 y1.heap.size _ 101 _ vs AB.out (by rw [VSZ.out]; exact size_s11) (by rw [VSZ.out]; rfl) VON.out)
          refine any_skip rfl rfl (exec_store (t := 101) (x := .tmp 9) (y := .tmp 67) (ad := ⟨y1.heap.size, 0, none⟩) (u := .agg vs) rfl (by kernel_rfl) (by kernel_rfl) STR.out) ?_
          refine ⟨IF.out.cb, ?_⟩
          refine wpAnyH_done (by kernel_rfl) ?_ _
          go_simp
          clear hB
          refine ‹∀ (a : Act) (w_1 : World), _ → _› _ _ ?_
          go_meet
          exact ⟨_, rfl, W2, IF⟩
      · skip
        refine any_valW rfl rfl (exec_allocS wd rfl) ?_
        have HP' := ID.out.ck.lt
        obtain ⟨y15, hy15⟩ : ∃ x, x = wd.alloc (.cells #[.string ⟨#[]⟩, .string ⟨#[]⟩, .string ⟨#[]⟩, .string ⟨#[]⟩, .string ⟨#[]⟩, .string ⟨#[]⟩, .string ⟨#[]⟩, .string ⟨#[]⟩, .string ⟨#[]⟩, .string ⟨#[]⟩, .string ⟨#[]⟩] 101) := ⟨_, rfl⟩
        rw [← hy15]
        have A0 : Hid (ChI w c gv rv 0 y15) := Lib.hid (by rw [hy15]; exact ID.out.on ((Below.refl _ _).alloc (Nat.le_refl _) _))
        have AB : Hid (y15.heap[wd.heap.size]? = some (.cells #[.string ⟨#[]⟩, .string ⟨#[]⟩, .string ⟨#[]⟩, .string ⟨#[]⟩, .string ⟨#[]⟩, .string ⟨#[]⟩, .string ⟨#[]⟩, .string ⟨#[]⟩, .string ⟨#[]⟩, .string ⟨#[]⟩, .string ⟨#[]⟩] 101 (0, 0))) := Lib.hid (by rw [hy15]; exact heap_alloc_last wd _)
        clear hy15
        refine ⟨A0.out.cb, ?_⟩
        refine anyH_one (i := 4) (by kernel_rfl) ?_
        refine any_call (f := 55) (args := #[.agg au]) rfl rfl (by kernel_rfl) ?_
        refine (C4.out y15 A0.out.env).mono ?_
        rintro e y16 ⟨rfl, hb⟩
        have A1 := Lib.hid (A0.out.on hb)
        replace AB := Lib.hid ((hb.block _ (lt_of_block AB.out)).trans AB.out)
        clear hb
        refine ⟨_, rfl, A1.out.cb, ?_⟩
        refine anyH_one (i := 7) (by kernel_rfl) ?_
        refine any_call (f := 56) (args := #[.int .i64 c.date]) rfl rfl (by kernel_rfl) ?_
        refine (C7.out y16 A1.out.env).mono ?_
        rintro e y17 ⟨rfl, hb⟩
        have A2 := Lib.hid (A1.out.on hb)
        replace AB := Lib.hid ((hb.block _ (lt_of_block AB.out)).trans AB.out)
        clear hb
        refine ⟨_, rfl, A2.out.cb, ?_⟩
        refine anyH_one (i := 14) (by kernel_rfl) ?_
        refine any_call (f := 57) (args := #[.agg sp]) rfl rfl (by kernel_rfl) ?_
        refine (C14.out y17 A2.out.env).mono ?_
        rintro e y18 ⟨rfl, hb⟩
        have A3 := Lib.hid (A2.out.on hb)
        replace AB := Lib.hid ((hb.block _ (lt_of_block AB.out)).trans AB.out)
        clear hb
        refine ⟨_, rfl, A3.out.cb, ?_⟩
        refine anyH_one (i := 22) (by kernel_rfl) ?_
        refine any_call (f := 56) (args := #[.int .i64 c.leaf]) rfl rfl (by kernel_rfl) ?_
        refine (C22.out y18 A3.out.env).mono ?_
        rintro e y19 ⟨rfl, hb⟩
        have A4 := Lib.hid (A3.out.on hb)
        replace AB := Lib.hid ((hb.block _ (lt_of_block AB.out)).trans AB.out)
        clear hb
        refine ⟨_, rfl, A4.out.cb, ?_⟩
        have hB := A4.out.cb
        refine takeV 23 (.agg vs) rfl (fun _ _ => by go_simp; exact HVS.out.symm) hB ?_
        refine anyH_one (i := 25) (by kernel_rfl) ?_
        have IF := Lib.hid (A4.out.row HIN.out HE.out (p' := wd.heap.size) (by omega) vs)
        have W2 := Lib.hid (setRow_heap y19 wd.heap.size _ vs _ _ AB.out)
        have STR := Lib.hid (run_storeVar_row (P := Tryz.prog) y19 wd.heap.size _ 101 _ vs AB.out (by rw [VSZ.out]; exact size_s11) (by rw [VSZ.out]; rfl) VON.out)
        refine any_skip rfl rfl (exec_store (t := 101) (x := .tmp 9) (y := .tmp 67) (ad := ⟨wd.heap.size, 0, none⟩) (u := .agg vs) rfl (by kernel_rfl) (by kernel_rfl) STR.out) ?_
        refine ⟨IF.out.cb, ?_⟩
        refine wpAnyH_done (by kernel_rfl) ?_ _
        go_simp
        clear hB
        refine ‹∀ (a : Act) (w_1 : World), _ → _› _ _ ?_
        go_meet
        exact ⟨_, rfl, W2, IF⟩
    case rest =>
    obtain ⟨w9, hw9'⟩ : ∃ x, x = wc := ⟨_, rfl⟩
    rw [← hw9'] at hcut ⊢
    obtain ⟨p', rfl, AB, I9⟩ := hcut
    clear hw9'
    have VD : Hid ((V0 c da d1 tg tr op tk d2).map bs = fVals c.p) := Lib.hid (by
      have h0 := HP0.out.symm
      obtain ⟨q1, q2, q3⟩ := chk_parts h0
      have vd := vd_of h0
      exact v0_bs c da d1 tg tr op tk d2 OK.out vd HDA.out HD1.out HOP.out HD2.out (TG.out (by rw [HP1.out]; exact q1)) (TR.out (by rw [HP2.out]; exact q2)) (TK.out q3))
    have FL : Hid ((formF c.p).length ≤ 10000000) := Lib.hid (HF.out HP0.out.symm)
    obtain ⟨w10, hw10⟩ : ∃ x, x = w9.alloc (.cells #[.pointer none, .slice none 0 0] 80) := ⟨_, rfl⟩
    have B10 : Hid (BD w w9.heap.size (linesN fWords (fVals c.p) 0) w10) := Lib.hid (by rw [hw10]; exact BD.new I9.out.fr)
    have C10 : Hid (CB w10 w.heap.size c gv rv 37) := Lib.hid (I9.out.cb.on (by rw [hw10]; exact (Below.refl _ _).alloc (Nat.le_refl _) _))
    have A10 : Hid (w10.heap[p']? = some (.cells vs 101 (0, 0))) := Lib.hid (by rw [hw10]; exact alloc_block AB.out)
    have LD11 := Lib.hid (run_loadVar_row (P := Tryz.prog) w10 p' _ 101 vs _ _ A10.out Tryz.underlying101 rfl (by rw [VSZ.out]; exact size_s11))
    have CLT : Hid (w.heap.size < w9.heap.size) := Lib.hid I9.out.cb.lt
    have HW10 := Lib.hid hw10
    clear hw10 AB I9 BLD C4 C7 C14 C22 LDA LDS A10 HDA HD1 HOP HD2 TG TR TK HP1 HP2 HP3 ERR2 hz
    go_upto_region 13 with fail
    rw [← HW10.out]
    clear HW10
    obtain ⟨q, hq⟩ : ∃ q, q = w9.heap.size := ⟨_, rfl⟩
    rw [← hq] at B10 CLT ⊢
    clear hq
    refine wp_region_list ?_
    simp only []
    refine wpList_load 101 rfl _ rfl ⟨_, _, rfl, LD11.out, ?_⟩
    clear LD11
    go_wp2_with fail
    go_loopg [11, 12, 69] 11 (fun k v11 v12 i wr => ∃ j : Nat, j ≤ 11 ∧ k = 11 - j ∧ i = .int .i64 (j : Int) ∧ Hid (BD w q (linesN fWords (fVals c.p) j) wr) ∧ Hid (CB wr w.heap.size c gv rv 37))
    case atStart => exact ⟨0, by omega, rfl, rfl, B10, C10⟩
    case round =>
      clear B10 C10
      obtain ⟨j, hj, rfl, rfl, bd, cb⟩ := hrel
      by_cases hlt : j < 11
      · obtain ⟨s, hs, hsb⟩ := vals_at VD.out j hlt
        have ix : ∀ w, (Instr.index 101 (.agg vs) (.int .i64 (j : Int))).run Tryz.prog w = .ok (.string s) w := fun w => by rw [HVS.out]; exact idx_s11 rfl j hlt s hs w
        obtain ⟨fw, hfw⟩ : ∃ f, f = strN (fWords.getD j []) := ⟨_, rfl⟩
        have cf : wr.cell? ⟨0, j, none⟩ = some (.string fw) := by rw [hfw]; exact (HE.out.below bd.out.bel HE.out.size).fw j hlt
        have fz : fw.size ≤ 20 := by rw [hfw, strN_size]; exact fWords_len j hlt
        have LS := linesN_succ (ws := fWords) (vs := fVals c.p) (j := j) (by show j < 11; exact hlt) (by show j < 11; exact hlt)
        have LE := linesN_le fWords (fVals c.p) (j + 1)
        have LF : ((fWords.zip (fVals c.p)).flatMap fun p => p.1 ++ 32 :: p.2 ++ [10]).length ≤ (formF c.p).length := by unfold formF; rw [List.length_append]; omega
        have sz : s.size ≤ 10000000 := by
          have := FL.out
          rw [LS] at LE
          rw [← bs_length, hsb]
          simp only [List.length_append, List.length_cons] at LE
          omega
        have lz : (linesN fWords (fVals c.p) j).length ≤ 10000000 := by
          have := FL.out
          rw [LS] at LE
          simp only [List.length_append] at LE
          omega
        have z1 : (fw ++ (⟨#[32]⟩ : ByteArray)).size ≤ 21 := by rw [ByteArray.size_append]; show fw.size + 1 ≤ 21; omega
        have z2 : (fw ++ (⟨#[32]⟩ : ByteArray) ++ s).size ≤ 10000100 := by rw [ByteArray.size_append]; omega
        have z3 : (fw ++ (⟨#[32]⟩ : ByteArray) ++ s ++ (⟨#[10]⟩ : ByteArray)).size ≤ 10000101 := by rw [ByteArray.size_append]; show _ + 1 ≤ _; omega
        have TX : Hid (linesN fWords (fVals c.p) j ++ bs (fw ++ (⟨#[32]⟩ : ByteArray) ++ s ++ (⟨#[10]⟩ : ByteArray)) = linesN fWords (fVals c.p) (j + 1)) := Lib.hid (by
          rw [LS, bs_app, bs_app, bs_app, hsb, hfw, bs_strN _ (fWords_lt j hlt)]
          simp [bs])
        have WR := Lib.hid (bd.out.write (fw ++ (⟨#[32]⟩ : ByteArray) ++ s ++ (⟨#[10]⟩ : ByteArray)) (by omega))
        have CB' := Lib.hid cb.out
        rw [TX.out] at WR
        clear hs hsb hfw LS LE LF TX bd cb
        go_wp2_with fail
        refine WR.out.mono ?_
        rintro e w2 ⟨rfl, b2, k2⟩
        have B2 := Lib.hid b2
        have C2 : Hid (CB w2 w.heap.size c gv rv 37) := Lib.hid (k2.same _ _ _ _ (by have := CLT.out; omega) (by decide) CB'.out)
        clear b2 k2 WR CB' cf ix
        go_wp2_with fail
        go_roundg (11 - (j + 1))
        case measure => omega
        case rel => exact ⟨j + 1, by omega, rfl, by go_num, B2, C2⟩
      · obtain rfl : j = 11 := by omega
        have cb74 : wr.cell? ⟨w.heap.size, 74, none⟩ = some (.string c.body) := cb.out.at (cn_74 OK.out gv rv)
        have FE : linesN fWords (fVals c.p) 11 ++ bs ((⟨#[10]⟩ : ByteArray) ++ c.body) = formF c.p := by rw [bs_app]; rfl
        have bz : c.body.size ≤ 1000000 := HIN.out.body
        have z1 : ((⟨#[10]⟩ : ByteArray) ++ c.body).size ≤ 1000001 := by rw [ByteArray.size_append]; show 1 + c.body.size ≤ _; omega
        have lz : (linesN fWords (fVals c.p) 11).length ≤ 10000000 := by
          have := FL.out
          rw [← FE, List.length_append] at this
          omega
        have WR := Lib.hid (bd.out.write ((⟨#[10]⟩ : ByteArray) ++ c.body) (by omega))
        rw [FE] at WR
        clear FE bd cb hlt
        go_wp2_with fail
        refine WR.out.mono ?_
        rintro e w2 ⟨rfl, b2, k2⟩
        have TX := Lib.hid (b2.text (form_lt VD.out) (by have := FL.out; omega))
        clear b2 k2 WR cb74
        go_wp2_with fail
        refine TX.out.mono ?_
        rintro e w3 ⟨rfl, hb3⟩
        have B3 := Lib.hid hb3
        clear TX hb3
        go_wp2_with fail
        go_ret2
        exact (FX.out _ _).2 ⟨by rw [if_pos HP0.out.symm, ← HP0.out]; rfl, B3.out⟩
  · have hz : ((p0 : Int) != 0) = true := int_neq (by omega)
    have FR := Lib.hid (I8.out.fr.trans ((Dr.below ⟨1, rfl⟩ : Below w8.heap.size w8 w8.drew).mono I8.out.fr.size))
    have N0 := Lib.hid h0
    clear h0
    go_upto_region 10 with fail
    go_quiet (fail)
    go_wp2_with fail
    go_ret2
    exact (FX.out _ _).2 ⟨by rw [← HP0.out, if_neg N0.out]; rfl, I8.out.fr.trans ((Dr.below ⟨nq, rfl⟩).mono I8.out.fr.size)⟩
end Go.Proofs.YtohmdledkhgdaaaGreatDoor
