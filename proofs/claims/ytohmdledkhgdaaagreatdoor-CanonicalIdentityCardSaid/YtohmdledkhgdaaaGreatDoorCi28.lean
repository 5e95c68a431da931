/- canonical.Id. -/
import Derived.Test.YtohmdledkhgdaaaGreatDoorCi27
import Derived.Lib.SliceRun
namespace Go.Proofs.YtohmdledkhgdaaaGreatDoor
open Go.RowKit
set_option linter.unusedVariables false
set_option maxRecDepth 100000

/-- '[]byte(s)'. -/
theorem conv_bytes (w : World) (s : ByteArray) (hs : s.size ≤ 10000000) : ∃ cap w', (convert 9 62 (.string s)).run Tryz.prog w = .ok (.slice (some ⟨w.heap.size, 0, none⟩) s.size cap) w' ∧ s.size ≤ cap ∧ cap ≤ maxLen ∧ Rd w' (some ⟨w.heap.size, 0, none⟩) (bs s) ∧ Below w.heap.size w w' := by
  refine ⟨_, _, run_bytes_of_string (P := Tryz.prog) w 9 62 5 s Tryz.underlying9 Tryz.underlying62 Tryz.underlying5, grownCap_ge w s.size 0 _, grownCap_le_maxLen w s.size 0 _ (by unfold maxLen; omega), ⟨bs_lt s, fun h0 => ⟨w.heap.size, 0, rfl, ?_, fun i hi => ?_⟩⟩, ?_⟩
  · simp
  · rw [cell_of_row _ w.heap.size (0 + i) _ _ _ (heap_alloc_new w.drew _), Nat.zero_add]
    rw [bs_length] at hi
    unfold bytesRow
    rw [Array.getElem?_append_left (by rw [Array.size_map]; exact hi), Array.getElem?_map]
    have hi2 : i < s.data.size := hi
    rw [Array.getElem?_eq_getElem hi2]
    simp [bs, U]
  · exact ((Below.refl w.heap.size w).drew).alloc (Nat.le_refl _) _
theorem exec_convert {P : Program} {o : Oper} {a : Act} {w w' : World} {s d : TypeId} {x : Operand} {u v : Value} (ho : o.op = .convert s d x) (hx : a.eval x = u) (h : (convert s d u).run P w = .ok v w') : (execOp a.eval o).run P w = .ok (.value v) w' := by
  unfold execOp
  rw [ho]
  simp only [hx]
  rw [Sem.run_bind, h]
  rfl
theorem wpList_conv {P : Program} {ops : Array Oper} {rest : List Oper} {o : Oper} {a : Act} {w : World} {Q : Exit → Act → World → Prop} (s d : TypeId) (hgd : o.guard = none) (x : Operand) (ho : o.op = .convert s d x) (h : ∃ u v w', a.eval x = u ∧ (convert s d u).run P w = .ok v w' ∧ wpList P ops Q rest (a.put o.dst v) w') : wpList P ops Q (o :: rest) a w := by
  obtain ⟨u, v, w', h1, h2, h3⟩ := h
  exact wpList_run hgd (exec_convert ho h1 h2) h3
theorem form_lt256 {c : Cn} (ok : c.Ok) (h : chkF c.p = 0) : ∀ x ∈ formF c.p, x < 256 := by
  have vd := vd_of h
  have jl : ∀ (s : Nat) (l : List (List Nat)), s < 256 → (∀ y ∈ l, ∀ x ∈ y, x < 256) → ∀ x ∈ joinF [s] l, x < 256 := fun s l hs hl x hx => by
    rcases join_mem s l x hx with rfl | ⟨y, hy, hx⟩
    · exact hs
    · exact hl y hy x hx
  have vl : ∀ v ∈ fVals c.p, ∀ x ∈ v, x < 256 := by
    intro v hv x hx
    unfold fVals at hv
    simp only [List.mem_cons, List.not_mem_nil, or_false] at hv
    rcases hv with rfl | rfl | rfl | rfl | rfl | rfl | rfl | rfl | rfl | rfl | rfl
    · exact bs_lt c.name x hx
    · have := hexF_mem ok.author.lt x hx; omega
    · have := digI_mem (n := c.date) vd.date.1 x hx; omega
    · exact jl 44 _ (by decide) (fun y hy z hz => by obtain ⟨g, _, rfl⟩ := List.mem_map.1 (show y ∈ c.groups.map bs from hy); exact bs_lt g z hz) x hx
    · exact bs_lt c.subject x hx
    · exact jl 32 _ (by decide) (fun y hy z hz => by obtain ⟨g, hg, rfl⟩ := List.mem_map.1 (show y ∈ c.refs.map midF from hy); have := midF_mem (ok.refs g hg).lt z hz; omega) x hx
    · unfold optF at hx
      split at hx
      · cases hx
      · have := midF_mem (l := c.sup) ok.sup.lt x hx; omega
    · exact bs_lt c.ctl x hx
    · exact bs_lt c.dist x hx
    · unfold keyF at hx
      rw [List.mem_append, List.mem_cons] at hx
      rcases hx with hx | rfl | hx
      · have := digI_mem (n := c.number) vd.number.1 x hx; omega
      · decide
      · exact encF_lt _ x hx
    · have := digI_mem (n := c.leaf) vd.leaf.1 x hx; omega
  intro x hx
  unfold formF at hx
  rw [List.mem_append, List.mem_cons] at hx
  rcases hx with hx | rfl | hx
  · obtain ⟨p, hp, hx⟩ := List.mem_flatMap.1 hx
    rw [List.mem_append, List.mem_append, List.mem_cons, List.mem_singleton] at hx
    rcases hx with (hx | rfl | hx) | rfl
    · have h1 := (List.of_mem_zip hp).1
      have : ∀ l ∈ fWords, ∀ x ∈ l, x < 256 := by decide
      exact this _ h1 x hx
    · decide
    · exact vl _ (List.of_mem_zip hp).2 x hx
    · decide
  · decide
  · exact bs_lt c.body x hx
/-- The identity that Id returns. -/
def idV (c : Cont) : List Nat := if chkF c = 0 then idF c else zero32
/-- What Id returns. -/
def IdP (c : Cont) (w : World) (e : Ending) (w' : World) : Prop :=
  e = .returned (.tuple #[.agg (idA (idV c)), .int .i64 ((chkF c : Nat) : Int)]) ∧ Below w.heap.size w w'
set_option maxHeartbeats 2000000 in
theorem id_any (w : World) (c : Cn) (gv rv : Value) (hin : CnIn w c gv rv) (hF : chkF c.p = 0 → (formF c.p).length ≤ 10000000) (hE : Env w) :
    Calls Tryz.prog 11 #[.agg (c.cells gv rv)] w (IdP c.p w) := by
  have FX : Hid (∀ e w', IdP c.p w e w' ↔ e = .returned (.tuple #[.agg (idA (idV c.p)), .int .i64 ((chkF c.p : Nat) : Int)]) ∧ Below w.heap.size w w') := Lib.hid (fun _ _ => Iff.rfl)
  obtain ⟨zs, hzs⟩ : ∃ zs, zs = idA zero32 := ⟨_, rfl⟩
  have Z0 : Hid (zs = #[.int .u8 0, .int .u8 0, .int .u8 0, .int .u8 0, .int .u8 0, .int .u8 0, .int .u8 0, .int .u8 0, .int .u8 0, .int .u8 0, .int .u8 0, .int .u8 0, .int .u8 0, .int .u8 0, .int .u8 0, .int .u8 0, .int .u8 0, .int .u8 0, .int .u8 0, .int .u8 0, .int .u8 0, .int .u8 0, .int .u8 0, .int .u8 0, .int .u8 0, .int .u8 0, .int .u8 0, .int .u8 0, .int .u8 0, .int .u8 0, .int .u8 0, .int .u8 0]) := Lib.hid (by rw [hzs]; rfl)
  obtain ⟨w0, hw0⟩ : ∃ w0, w0 = (w.alloc (.cells (c.cells gv rv) 37)).alloc (.cells zs 26) := ⟨_, rfl⟩
  have B0 : Hid (Below w.heap.size w w0) := Lib.hid (by rw [hw0]; exact ((Below.refl _ _).alloc (Nat.le_refl _) _).alloc (by simp) _)
  have C0 : CB w0 w.heap.size c gv rv 37 := by unfold CB; rw [hw0]; exact alloc_block (heap_alloc_last w _)
  have R0 : Hid (IB w0 (w.heap.size + 1) 26 zero32) := Lib.hid (by
    unfold IB; rw [hw0, ← hzs]; have := heap_alloc_last (w.alloc (.cells (c.cells gv rv) 37)) (.cells zs 26); rw [World.size_alloc] at this; exact this)
  have SZ0 : w0.heap.size = w.heap.size + 2 := by rw [hw0]; simp
  have LD := Lib.hid (C0.all hin.ok)
  have FM := Lib.hid (form_any w0 c gv rv (hin.on B0.out) hF (hE.on B0.out))
  have HF := Lib.hid hF; have HE := Lib.hid hE
  have FLT : Hid (chkF c.p = 0 → ∀ x ∈ formF c.p, x < 256) := Lib.hid (fun h => form_lt256 hin.ok h)
  obtain ⟨cs, hcs⟩ : ∃ cs, cs = c.cells gv rv := ⟨_, rfl⟩
  rw [← hcs] at hw0 LD FM ⊢
  have HW := Lib.hid hw0
  clear hw0 hcs hin hF hE C0
  go_enter Tryz.func11, Tryz.ntmps11
  go_upto_region 1 with fail
  have W' := HW.out
  rw [Z0.out] at W'
  rw [← W']
  clear W' HW
  refine wp_region_list ?_
  simp only []
  refine wpList_load 37 rfl _ rfl ⟨_, _, rfl, LD.out, ?_⟩
  go_wp2_with fail
  refine FM.out.mono ?_
  rintro e w1 ⟨rfl, hb1⟩
  have B1 := Lib.hid (B0.out.trans (hb1.mono B0.out.size))
  have R1 : Hid (IB w1 (w.heap.size + 1) 26 zero32) := Lib.hid (R0.out.below hb1)
  clear hb1 FM LD R0 B0 SZ0
  obtain ⟨tx, htx⟩ : ∃ t, t = strN (if chkF c.p = 0 then formF c.p else []) := ⟨_, rfl⟩
  rw [← htx]
  obtain ⟨p0, hp0⟩ : ∃ p, p = chkF c.p := ⟨_, rfl⟩
  rw [← hp0]
  have HP0 := Lib.hid hp0; have HTX := Lib.hid htx
  clear hp0 htx
  have PW : Hid (∀ w5 (l : List Nat), l.length = 32 → IB w5 (w.heap.size + 1) 26 zero32 → Below w.heap.size w w5 → (storeVar 26 ⟨w.heap.size + 1, 0, none⟩ (.agg (idA l))).run Tryz.prog w5 = .ok () (w5.setRow (w.heap.size + 1) (idA l)) ∧ IB (w5.setRow (w.heap.size + 1) (idA l)) (w.heap.size + 1) 26 l ∧ Below w.heap.size w (w5.setRow (w.heap.size + 1) (idA l))) := Lib.hid (fun w5 l hl hi hb =>
    ⟨run_storeVar_row w5 (w.heap.size + 1) _ 26 _ _ hi (by rw [idA_size, hl]; exact size23) (by rw [idA_size, idA_size, hl]; rfl) (idA_one _), setRow_heap w5 _ _ _ _ _ hi, below_setRow hb (Nat.le_succ _) _⟩)
  have SZ : Hid (∀ l : List Nat, l.length = 32 → (Tryz.prog.info? 26).map (·.size) = some (idA l).size) := Lib.hid (fun l hl => by rw [idA_size, hl]; exact size23)
  by_cases h0 : p0 = 0
  · subst h0
    have hz : ((((0 : Nat) : Int)) != 0) = false := rfl
    have FL := HF.out HP0.out.symm
    have TXE : tx = strN (formF c.p) := by rw [HTX.out, if_pos HP0.out.symm]
    have tz : tx.size ≤ 10000000 := by rw [TXE, strN_size]; exact FL
    obtain ⟨cap, w2, cv, hc1, hc2, rd, hb2⟩ := conv_bytes w1 tx tz
    have CV := Lib.hid cv
    have B2 := B1.out.trans (hb2.mono B1.out.size)
    have SH := sha_any w2 (some ⟨w1.heap.size, 0, none⟩) cap (bs tx) rd (by rw [bs_length]; exact tz) (by rw [bs_length]; exact hc1) hc2 (HE.out.on B2)
    rw [bs_length] at SH
    have SHH := Lib.hid SH
    have R2 := R1.out.below hb2
    have IDV : Hid (idV c.p = shaF (bs tx)) := Lib.hid (by
      unfold idV idF
      rw [if_pos HP0.out.symm, TXE]
      by_cases hlt : ∀ x ∈ formF c.p, x < 256
      · rw [bs_strN _ hlt]
      · exact absurd (FLT.out HP0.out.symm) hlt)
    have SL : (shaF (bs tx)).length = 32 := dgF_len _
    have FIN : Hid (∀ w5, Below w2.heap.size w2 w5 → (storeVar 26 ⟨w.heap.size + 1, 0, none⟩ (.agg (idA (shaF (bs tx))))).run Tryz.prog w5 = .ok () (w5.setRow (w.heap.size + 1) (idA (shaF (bs tx)))) ∧ IB (w5.setRow (w.heap.size + 1) (idA (shaF (bs tx)))) (w.heap.size + 1) 26 (shaF (bs tx)) ∧ Below w.heap.size w (w5.setRow (w.heap.size + 1) (idA (shaF (bs tx))))) := Lib.hid (fun w5 hb => PW.out w5 _ SL (R2.below hb) (B2.trans (hb.mono B2.size)))
    have SZ2 := Lib.hid (SZ.out _ SL)
    obtain ⟨rs, hrs⟩ : ∃ rs, rs = idA (shaF (bs tx)) := ⟨_, rfl⟩
    have HRS : Hid (idA (idV c.p) = rs) := Lib.hid (by rw [hrs, IDV.out])
    have HRS2 := Lib.hid hrs
    rw [← hrs] at SHH FIN SZ2
    clear hrs FL TXE cv hc1 hc2 rd hb2 B2 SH R2 SL PW SZ
    go_wp2_with ((with_reducible refine wpList_conv 9 62 rfl _ rfl ?_); refine ⟨_, _, _, rfl, CV.out, ?_⟩)
    refine SHH.out.mono ?_
    rintro e w5 ⟨rfl, hb5⟩
    obtain ⟨f0, f1, f2⟩ := FIN.out w5 hb5
    have F0 := Lib.hid f0; have F1 := Lib.hid f1; have F2 := Lib.hid f2
    clear f0 f1 f2 hb5 FIN SHH CV
    go_wp2_with ((with_reducible refine wpList_store 26 rfl _ _ rfl ?_); refine ⟨_, _, _, rfl, rfl, F0.out, ?_⟩)
    have f1 := F1.out
    unfold IB at f1
    rw [← HRS2.out] at f1
    exact bodyPost_ret (results_cell_tmp1 Tryz.results11 _ _ (w.heap.size + 1) _ _ _ _ rfl f1 Tryz.underlying26 rfl SZ2.out) rfl ((FX.out _ _).2 ⟨by rw [HRS.out, ← HP0.out]; rfl, F2.out⟩)
  · have hz : ((p0 : Int) != 0) = true := int_neq (by omega)
    have Z32 : zero32.length = 32 := by simp [zero32]
    obtain ⟨f0, f1, f2⟩ := PW.out w1 zero32 Z32 R1.out B1.out
    have F0 := Lib.hid f0; have F1 := Lib.hid f1; have F2 := Lib.hid f2
    have BZ : Hid (∀ w, (Instr.build 26 #[]).run Tryz.prog w = .ok (.agg zs) w) := Lib.hid (fun w => by rw [Z0.out]; kernel_rfl)
    have SZ2 := Lib.hid (SZ.out _ Z32)
    have IDV : Hid (idV c.p = zero32) := Lib.hid (by unfold idV; rw [if_neg (by rw [← HP0.out]; exact h0)])
    rw [← hzs] at F0 F1 F2 SZ2
    have HZS := Lib.hid hzs
    clear f0 f1 f2 PW SZ hzs h0 Z32
    go_wp2_with (first
      | ((with_reducible refine wpList_build0 26 rfl rfl ?_); refine ⟨_, BZ.out _, ?_⟩)
      | ((with_reducible refine wpList_store 26 rfl _ _ rfl ?_); refine ⟨_, _, _, rfl, rfl, F0.out, ?_⟩))
    have f1 := F1.out
    unfold IB at f1
    rw [← HZS.out] at f1
    exact bodyPost_ret (results_cell_tmp1 Tryz.results11 _ _ (w.heap.size + 1) _ _ _ _ rfl f1 Tryz.underlying26 rfl SZ2.out) rfl ((FX.out _ _).2 ⟨by rw [IDV.out, ← HZS.out, ← HP0.out]; rfl, F2.out⟩)
end Go.Proofs.YtohmdledkhgdaaaGreatDoor
/- slices.Equal at lists of identities. -/
namespace Go.Proofs.YtohmdledkhgdaaaGreatDoor
open Go.RowKit
set_option linter.unusedVariables false
set_option maxRecDepth 100000

theorem drA {w w' : World} (h : Dr w w') : Below w.heap.size w w' := Dr.below h
set_option maxHeartbeats 2000000 in
theorem ideq_any (w : World) (v1 v2 : Value) (l1 l2 : List (List Nat)) (h1 : IRow w v1 l1) (h2 : IRow w v2 l2) (hn1 : l1.length ≤ 1000000) (hn2 : l2.length ≤ 1000000) (o1 : ∀ x ∈ l1, IdOk x) (o2 : ∀ x ∈ l2, IdOk x) :
    Calls Tryz.prog 29 #[v1, v2] w fun e w' => e = .returned (.bool (decide (l1 = l2))) ∧ Dr w w' := by
  obtain ⟨a1, c1, rfl, hc1, r1⟩ := h1
  obtain ⟨a2, c2, rfl, hc2, r2⟩ := h2
  obtain ⟨n, hn⟩ : ∃ n, n = l1.length := ⟨_, rfl⟩
  obtain ⟨m, hm⟩ : ∃ m, m = l2.length := ⟨_, rfl⟩
  rw [← hn] at hn1 ⊢
  rw [← hm] at hn2 ⊢
  have HN := Lib.hid hn; have HM := Lib.hid hm
  have R1 := Lib.hid r1; have R2 := Lib.hid r2; have O1 := Lib.hid o1; have O2 := Lib.hid o2
  clear hn hm r1 r2 o1 o2 hc1 hc2
  by_cases hnm : n = m
  · have hz : ((n : Int) != (m : Int)) = false := by rw [hnm]; simp
    have HNM := Lib.hid hnm
    clear hnm
    go_enter Tryz.func29, Tryz.ntmps29
    go_wp2_with fail
    go_loopg [5, 13] n (fun k v5 i wr => ∃ j : Nat, j ≤ n ∧ k = n - j ∧ i = .int .i64 (j : Int) ∧ Hid (∀ q (h : q < l1.length) (h' : q < l2.length), q < j → l1[q] = l2[q]) ∧ Hid (Dr w wr))
    case atStart => exact ⟨0, by omega, rfl, rfl, Lib.hid (fun q _ _ hq => by omega), Lib.hid (Dr.refl w)⟩
    case round =>
      obtain ⟨j, hj, rfl, rfl, hg, hdr⟩ := hrel
      by_cases hlt : j < n
      · have hl1 : j < l1.length := by rw [← HN.out]; exact hlt
        have hl2 : j < l2.length := by rw [← HM.out, ← HNM.out]; exact hlt
        obtain ⟨b1, f1, rfl, _, e1⟩ := R1.out (fun e => by rw [e] at hl1; simp at hl1)
        obtain ⟨b2, f2, rfl, _, e2⟩ := R2.out (fun e => by rw [e] at hl2; simp at hl2)
        have ok1 := O1.out _ (List.getElem_mem hl1)
        have ok2 := O2.out _ (List.getElem_mem hl2)
        have hlt2 : j < m := by rw [← HNM.out]; exact hlt
        have LD1 : Hid (∀ q, (loadVar 26 ⟨b1, f1 + j * 32, none⟩).run Tryz.prog (wr.drewN q) = .ok (.agg (idA l1[j])) (wr.drewN q)) := Lib.hid (fun q => by
          obtain ⟨p, hp⟩ := hdr.out
          rw [hp]
          exact run_loadVar_cells _ b1 (f1 + j * 32) 26 _ _ Tryz.underlying26 rfl (by rw [idA_size, ok1.len]; exact size23) (fun k u hu => e1 j hl1 k u hu))
        have LD2 : Hid (∀ q, (loadVar 26 ⟨b2, f2 + j * 32, none⟩).run Tryz.prog (wr.drewN q) = .ok (.agg (idA l2[j])) (wr.drewN q)) := Lib.hid (fun q => by
          obtain ⟨p, hp⟩ := hdr.out
          rw [hp]
          exact run_loadVar_cells _ b2 (f2 + j * 32) 26 _ _ Tryz.underlying26 rfl (by rw [idA_size, ok2.len]; exact size23) (fun k u hu => e2 j hl2 k u hu))
        have EQ : Hid (∀ w, (Op.equal 26 (.agg (idA l1[j])) (.agg (idA l2[j]))).run Tryz.prog w = .ok (decide (l1[j] = l2[j])) w) := Lib.hid (fun w => eq_id w ok1 ok2)
        obtain ⟨x1, hx1⟩ : ∃ x, x = idA l1[j] := ⟨_, rfl⟩
        obtain ⟨x2, hx2⟩ : ∃ x, x = idA l2[j] := ⟨_, rfl⟩
        obtain ⟨r, hr⟩ : ∃ r, r = decide (l1[j] = l2[j]) := ⟨_, rfl⟩
        rw [← hx1] at LD1 EQ
        rw [← hx2] at LD2 EQ
        rw [← hr] at EQ
        have HR := Lib.hid hr
        clear hx1 hx2 hr ok1 ok2 e1 e2
        go_upto_region 6 with fail
        refine wp_region_quiet_lit (by kernel_rfl) (by kernel_rfl) ?_
        quiet_step (fail)
        quiet_step (fail)
        quiet_step (fail)
        refine wpQuiet_load 26 rfl _ rfl ⟨_, .agg x1, rfl, ?_, ?_⟩
        · rintro w2 ⟨q, rfl⟩
          exact LD1.out q
        quiet_step (fail)
        quiet_step (fail)
        quiet_step (fail)
        refine wpQuiet_load 26 rfl _ rfl ⟨_, .agg x2, rfl, ?_, ?_⟩
        · rintro w2 ⟨q, rfl⟩
          exact LD2.out q
        refine wpQuiet_neq 26 rfl _ _ rfl guard23 ⟨_, _, _, rfl, rfl, EQ.out, ?_⟩
        refine wpQuiet_nil ?_
        rintro _ ⟨nq, rfl⟩
        clear LD1 LD2 EQ
        cases r
        · have NE : Hid (decide (l1 = l2) = false) := Lib.hid (by
            rw [decide_eq_false_iff_not]
            intro e
            have := of_decide_eq_false HR.out.symm
            subst e
            exact this rfl)
          clear HR hl1 hl2
          go_wp2_with fail
          go_ret
          obtain ⟨p, hp⟩ := hdr.out
          exact ⟨by rw [NE.out]; rfl, p + nq, by rw [hp, drewN_drewN]⟩
        · have G2 : Hid (∀ q (h : q < l1.length) (h' : q < l2.length), q < j + 1 → l1[q] = l2[q]) := Lib.hid (fun q h h' hq => by
            by_cases e : q = j
            · subst e; exact of_decide_eq_true HR.out.symm
            · exact hg.out q h h' (by omega))
          clear HR hl1 hl2 hg
          go_wp2_with fail
          go_roundg (n - (j + 1))
          case measure => omega
          case rel =>
            obtain ⟨p, hp⟩ := hdr.out
            exact ⟨j + 1, by omega, rfl, by go_num, G2, Lib.hid ⟨p + nq, by rw [hp, drewN_drewN]⟩⟩
      · obtain rfl : j = n := by omega
        have EQ : Hid (decide (l1 = l2) = true) := Lib.hid (by
          rw [decide_eq_true_iff]
          exact List.ext_getElem (by rw [← HN.out, ← HM.out]; exact HNM.out) (fun q h h' => hg.out q h h' (by rw [HN.out]; exact h)))
        clear hg
        go_wp2_with fail
        go_ret
        exact ⟨by rw [EQ.out]; rfl, hdr.out⟩
  · have hz : ((n : Int) != (m : Int)) = true := by simp; omega
    have NE : Hid (decide (l1 = l2) = false) := Lib.hid (by
      rw [decide_eq_false_iff_not]
      intro e
      exact hnm (by rw [HN.out, HM.out, e]))
    clear hnm
    go_enter Tryz.func29, Tryz.ntmps29
    go_wp2_with fail
    go_ret
    exact ⟨by rw [NE.out]; rfl, Dr.refl w⟩
end Go.Proofs.YtohmdledkhgdaaaGreatDoor
/- slices.Clone at lists of texts and of identities; slices.Equal at lists of texts (printed by gen_clone.py). -/
namespace Go.Proofs.YtohmdledkhgdaaaGreatDoor
open Go.RowKit
set_option linter.unusedVariables false
set_option maxRecDepth 100000

/-- The cells of identities in a row. -/
def idCells (l : List (List Nat)) : List Value := l.flatMap fun x => x.map U
theorem idCells_len : ∀ (l : List (List Nat)), (∀ x ∈ l, IdOk x) → (idCells l).length = l.length * 32
  | [], _ => rfl
  | x :: l, h => by
    show (x.map U ++ idCells l).length = _
    rw [List.length_append, List.length_map, (h x (List.mem_cons_self ..)).len, idCells_len l (fun y hy => h y (List.mem_cons_of_mem _ hy)), List.length_cons]
    omega
theorem idCells_at : ∀ (l : List (List Nat)) (q k : Nat) (hq : q < l.length), (∀ x ∈ l, IdOk x) → k < 32 → (idCells l)[q * 32 + k]? = ((l[q]).map U)[k]?
  | x :: l, 0, k, _, h, hk => by
    show (x.map U ++ idCells l)[0 * 32 + k]? = _
    rw [List.getElem?_append_left (by rw [List.length_map, (h x (List.mem_cons_self ..)).len]; omega), Nat.zero_mul, Nat.zero_add]
    rfl
  | x :: l, q + 1, k, hq, h, hk => by
    show (x.map U ++ idCells l)[(q + 1) * 32 + k]? = _
    rw [List.getElem?_append_right (by rw [List.length_map, (h x (List.mem_cons_self ..)).len]; omega), List.length_map, (h x (List.mem_cons_self ..)).len, show (q + 1) * 32 + k - 32 = q * 32 + k by omega]
    exact idCells_at l q k (by simpa using hq) (fun y hy => h y (List.mem_cons_of_mem _ hy)) hk
theorem idCells_one (l : List (List Nat)) : ∀ u ∈ idCells l, u.oneCell' = true := by
  intro u hu
  obtain ⟨x, _, hx⟩ := List.mem_flatMap.1 hu
  obtain ⟨y, _, rfl⟩ := List.mem_map.1 hx
  rfl
theorem ownI_row {w : World} {base : Nat} {v : Value} {l : List (List Nat)} (ho : ∀ x ∈ l, IdOk x) (h : w.ownsRow base 26 32 v l.length (idCells l)) : IRow w v l := by
  rcases h.2 with ⟨rfl, h0⟩ | ⟨g, cap, cur, rfl, hb, hg, hc, _, hs, ht⟩
  · exact ⟨none, 0, by rw [h0], by rw [h0]; exact Nat.le_refl _, fun hne => absurd (List.length_eq_zero_iff.1 h0) hne⟩
  · refine ⟨some ⟨g, 0, none⟩, cap, rfl, hc, fun _ => ⟨g, 0, rfl, lt_of_block hg, fun j hj k u hu => ?_⟩⟩
    have hk : k < 32 := by
      have := (Array.getElem?_eq_some_iff.1 hu).1
      rw [idA_size, (ho _ (List.getElem_mem hj)).len] at this
      exact this
    rw [Nat.zero_add, cell_of_row w g _ _ _ _ hg]
    have e1 : (cur.toList.take (l.length * 32))[j * 32 + k]? = some u := by
      rw [ht, idCells_at l j k hj ho hk]
      unfold idA at hu
      rw [List.getElem?_toArray] at hu
      exact hu
    rw [List.getElem?_take, if_pos (by omega)] at e1
    simpa using e1
theorem IRow.cells {w : World} {b off n c : Nat} {l : List (List Nat)} (ho : ∀ x ∈ l, IdOk x) (h : ∀ j (h : j < l.length) k u, (idA l[j])[k]? = some u → w.cell? ⟨b, off + j * 32 + k, none⟩ = some u) : ∀ j u, (idCells l)[j]? = some u → w.cell? ((⟨b, off, none⟩ : Addr).add j) = some u := by
  intro j u hu
  have hj : j < l.length * 32 := by rw [← idCells_len l ho]; exact (List.getElem?_eq_some_iff.1 hu).1
  obtain ⟨q, hq⟩ : ∃ q, q = j / 32 := ⟨_, rfl⟩
  obtain ⟨k, hk⟩ : ∃ k, k = j % 32 := ⟨_, rfl⟩
  have e : j = q * 32 + k := by omega
  have hql : q < l.length := by omega
  rw [e, idCells_at l q k hql ho (by omega)] at hu
  rw [Addr.add_mid, e, ← Nat.add_assoc]
  exact h q hql k u (by unfold idA; rw [List.getElem?_toArray]; exact hu)
theorem SRow.cells {w : World} {b off : Nat} {l : List ByteArray} (h : ∀ j (h : j < l.length), w.cell? ⟨b, off + j, none⟩ = some (.string l[j])) : ∀ j u, (l.map Value.string)[j]? = some u → w.cell? ((⟨b, off, none⟩ : Addr).add j) = some u := by
  intro j u hu
  have hj : j < l.length := by have := (List.getElem?_eq_some_iff.1 hu).1; simpa using this
  rw [List.getElem?_map, List.getElem?_eq_getElem hj] at hu
  cases hu
  rw [Addr.add_mid]
  exact h j hj
theorem infoI32 : (Tryz.prog.info? 26).map (fun i => (i.zero, i.size, i.bytes)) = some (some (.agg (idA zero32)), 32, 32) := by kernel_rfl
theorem own_empty (w : World) (base : Nat) (e : TypeId) (size : Nat) (hb : base ≤ w.heap.size) : (w.alloc (.cells #[] e)).ownsRow base e size (.slice (some ⟨w.heap.size, 0, none⟩) 0 0) 0 [] :=
  ⟨by simp, .inr ⟨w.heap.size, 0, #[], rfl, hb, heap_alloc_new w _, Nat.le_refl _, Nat.zero_le _, by simp, by simp⟩⟩
set_option maxHeartbeats 2000000 in
theorem clS_any (w : World) (v : Value) (l : List ByteArray) (hr : SRow w v l) (hn : l.length ≤ 1000000) :
    Calls Tryz.prog 37 #[v] w fun e w' => ∃ v', e = .returned v' ∧ SRow w' v' l ∧ w'.ownsRow w.heap.size 9 1 v' l.length (List.map Value.string l) ∧ Below w.heap.size w w' := by
  obtain ⟨i0, hi0, hz0, hz1, hz2⟩ := info_parts infoS
  obtain ⟨a, c, rfl, hc, r⟩ := hr
  obtain ⟨n, hnn⟩ : ∃ n, n = l.length := ⟨_, rfl⟩
  have HN := Lib.hid hnn
  rw [← hnn] at hn hc ⊢
  have R := Lib.hid r
  have HR : Hid (SRow w (.slice a n c) l) := Lib.hid ⟨a, c, by rw [hnn], by rw [← hnn]; exact hc, r⟩
  clear hnn r
  cases a with
  | none =>
    have hl : l = [] := by
      cases l with
      | nil => rfl
      | cons x y => obtain ⟨b, off, e, _⟩ := R.out (by simp); cases e
    have FIN : Hid (∀ v' w', v' = .slice none 0 0 → w' = w → SRow w' v' l ∧ w'.ownsRow w.heap.size 9 1 v' n (List.map Value.string l) ∧ Below w.heap.size w w') := Lib.hid (fun v' w' e1 e2 => by
      subst e1 e2
      have h0 : n = 0 := by rw [HN.out, hl]; rfl
      subst hl
      rw [h0]
      exact ⟨⟨none, 0, rfl, Nat.le_refl _, fun h => absurd rfl h⟩, World.ownsRow_nil _ _ _ _, Below.refl _ _⟩)
    have q0 := fun (w : World) => Lib.run_eql_slice_nil (P := Tryz.prog) w 23 _ none n c 0 0 Tryz.underlying23
    clear hl HR
    go_enter Tryz.func37, Tryz.ntmps37
    go_wp2_with fail
    go_ret
    exact ⟨_, rfl, FIN.out _ _ rfl rfl⟩
  | some ad =>
    have OE := Lib.hid (own_empty w w.heap.size 9 1 (Nat.le_refl _))
    have BE : Hid (Below w.heap.size w (w.alloc (.cells #[] 9))) := Lib.hid ((Below.refl _ _).alloc (Nat.le_refl _) _)
    have SRC : Hid (∀ j u, (List.map Value.string l)[j]? = some u → (w.alloc (.cells #[] 9)).cell? (ad.add j) = some u) := Lib.hid (fun j u hu => by
      have hne : l ≠ [] := fun e => by subst e; cases hu
      obtain ⟨b, off, e, hb, hcell⟩ := R.out hne
      cases e
      have := SRow.cells hcell j u hu
      rw [Addr.add_mid] at this ⊢
      exact (BE.out.cell (p := ⟨b, off + j, none⟩) hb).trans this)
    have CL : Hid ((List.map Value.string l).length = n * 1) := Lib.hid (by rw [HN.out]; simp)
    have ONE : Hid (∀ u ∈ List.map Value.string l, u.oneCell' = true) := Lib.hid (fun u hu => by obtain ⟨y, _, rfl⟩ := List.mem_map.1 hu; rfl)
    have FIN : Hid (∀ v' w', w'.ownsRow w.heap.size 9 1 v' n (List.map Value.string l) → (w.alloc (.cells #[] 9)).grownBy w' (Value.slice (some ⟨w.heap.size, 0, none⟩) 0 0).ownBlock → SRow w' v' l ∧ w'.ownsRow w.heap.size 9 1 v' n (List.map Value.string l) ∧ Below w.heap.size w w') := Lib.hid (fun v' w' h1 h2 =>
      ⟨by have h1' := h1; rw [HN.out] at h1'; exact ownS_row h1', h1, Below.grown BE.out h2 (by simp) (fun k hk => (OE.out.lt k hk).1)⟩)
    obtain ⟨xs, hxs⟩ : ∃ xs, xs = List.map Value.string l := ⟨_, rfl⟩
    rw [← hxs] at SRC CL ONE FIN ⊢
    have q0 := fun (w : World) => Lib.run_eql_slice_nil (P := Tryz.prog) w 23 _ (some ad) n c 0 0 Tryz.underlying23
    clear hxs HR
    go_enter Tryz.func37, Tryz.ntmps37
    go_upto_region 3 with fail
    go_wp2_with (at_builtin; refine wpList_append_own _ rfl _ _ 23 rfl w.heap.size 9 i0 (.string ⟨#[]⟩) 1 16 Tryz.underlying23 hi0 hz0 hz1 hz2 rfl (by decide) _ 0 [] rfl OE.out ad n c xs rfl CL.out SRC.out ONE.out (by unfold maxLen; omega) (by omega) (by simp) ?_; intro v' w3 hown' hgrow _)
    rw [Nat.zero_add, List.nil_append] at hown'
    have F := Lib.hid (FIN.out _ w3 hown' hgrow)
    clear hown' hgrow FIN
    go_wp2_with fail
    go_ret
    exact ⟨_, rfl, F.out⟩
set_option maxHeartbeats 2000000 in
theorem clI_any (w : World) (v : Value) (l : List (List Nat)) (hr : IRow w v l) (hn : l.length ≤ 1000000) (hok : ∀ x ∈ l, IdOk x) :
    Calls Tryz.prog 38 #[v] w fun e w' => ∃ v', e = .returned v' ∧ IRow w' v' l ∧ w'.ownsRow w.heap.size 26 32 v' l.length (idCells l) ∧ Below w.heap.size w w' := by
  obtain ⟨i0, hi0, hz0, hz1, hz2⟩ := info_parts infoI32
  obtain ⟨a, c, rfl, hc, r⟩ := hr
  obtain ⟨n, hnn⟩ : ∃ n, n = l.length := ⟨_, rfl⟩
  have HN := Lib.hid hnn
  rw [← hnn] at hn hc ⊢
  have R := Lib.hid r
  have HR : Hid (IRow w (.slice a n c) l) := Lib.hid ⟨a, c, by rw [hnn], by rw [← hnn]; exact hc, r⟩
  have OK := Lib.hid hok
  clear hok
  clear hnn r
  cases a with
  | none =>
    have hl : l = [] := by
      cases l with
      | nil => rfl
      | cons x y => obtain ⟨b, off, e, _⟩ := R.out (by simp); cases e
    have FIN : Hid (∀ v' w', v' = .slice none 0 0 → w' = w → IRow w' v' l ∧ w'.ownsRow w.heap.size 26 32 v' n (idCells l) ∧ Below w.heap.size w w') := Lib.hid (fun v' w' e1 e2 => by
      subst e1 e2
      have h0 : n = 0 := by rw [HN.out, hl]; rfl
      subst hl
      rw [h0]
      exact ⟨⟨none, 0, rfl, Nat.le_refl _, fun h => absurd rfl h⟩, World.ownsRow_nil _ _ _ _, Below.refl _ _⟩)
    have q0 := fun (w : World) => Lib.run_eql_slice_nil (P := Tryz.prog) w 24 _ none n c 0 0 Tryz.underlying24
    clear hl HR
    go_enter Tryz.func38, Tryz.ntmps38
    go_wp2_with fail
    go_ret
    exact ⟨_, rfl, FIN.out _ _ rfl rfl⟩
  | some ad =>
    have OE := Lib.hid (own_empty w w.heap.size 26 32 (Nat.le_refl _))
    have BE : Hid (Below w.heap.size w (w.alloc (.cells #[] 26))) := Lib.hid ((Below.refl _ _).alloc (Nat.le_refl _) _)
    have SRC : Hid (∀ j u, (idCells l)[j]? = some u → (w.alloc (.cells #[] 26)).cell? (ad.add j) = some u) := Lib.hid (fun j u hu => by
      have hne : l ≠ [] := fun e => by subst e; cases hu
      obtain ⟨b, off, e, hb, hcell⟩ := R.out hne
      cases e
      have := IRow.cells (n := 0) (c := 0) OK.out hcell j u hu
      rw [Addr.add_mid] at this ⊢
      exact (BE.out.cell (p := ⟨b, off + j, none⟩) hb).trans this)
    have CL : Hid ((idCells l).length = n * 32) := Lib.hid (by rw [HN.out]; exact idCells_len l OK.out)
    have ONE : Hid (∀ u ∈ idCells l, u.oneCell' = true) := Lib.hid (idCells_one l)
    have FIN : Hid (∀ v' w', w'.ownsRow w.heap.size 26 32 v' n (idCells l) → (w.alloc (.cells #[] 26)).grownBy w' (Value.slice (some ⟨w.heap.size, 0, none⟩) 0 0).ownBlock → IRow w' v' l ∧ w'.ownsRow w.heap.size 26 32 v' n (idCells l) ∧ Below w.heap.size w w') := Lib.hid (fun v' w' h1 h2 =>
      ⟨by have h1' := h1; rw [HN.out] at h1'; exact ownI_row OK.out h1', h1, Below.grown BE.out h2 (by simp) (fun k hk => (OE.out.lt k hk).1)⟩)
    obtain ⟨xs, hxs⟩ : ∃ xs, xs = idCells l := ⟨_, rfl⟩
    rw [← hxs] at SRC CL ONE FIN ⊢
    have q0 := fun (w : World) => Lib.run_eql_slice_nil (P := Tryz.prog) w 24 _ (some ad) n c 0 0 Tryz.underlying24
    clear hxs HR
    go_enter Tryz.func38, Tryz.ntmps38
    go_upto_region 3 with fail
    go_wp2_with (at_builtin; refine wpList_append_own _ rfl _ _ 24 rfl w.heap.size 26 i0 (.agg (idA zero32)) 32 32 Tryz.underlying24 hi0 hz0 hz1 hz2 rfl (by decide) _ 0 [] rfl OE.out ad n c xs rfl CL.out SRC.out ONE.out (by unfold maxLen; omega) (by omega) (by simp) ?_; intro v' w3 hown' hgrow _)
    rw [Nat.zero_add, List.nil_append] at hown'
    have F := Lib.hid (FIN.out _ w3 hown' hgrow)
    clear hown' hgrow FIN
    go_wp2_with fail
    go_ret
    exact ⟨_, rfl, F.out⟩
end Go.Proofs.YtohmdledkhgdaaaGreatDoor
/- slices.Equal at lists of texts. -/
namespace Go.Proofs.YtohmdledkhgdaaaGreatDoor
open Go.RowKit
set_option linter.unusedVariables false
set_option maxRecDepth 100000

set_option maxHeartbeats 2000000 in
theorem seq_any (w : World) (v1 v2 : Value) (l1 l2 : List ByteArray) (h1 : SRow w v1 l1) (h2 : SRow w v2 l2) (hn1 : l1.length ≤ 1000000) (hn2 : l2.length ≤ 1000000) :
    Calls Tryz.prog 28 #[v1, v2] w fun e w' => e = .returned (.bool (decide (l1 = l2))) ∧ Dr w w' := by
  obtain ⟨a1, c1, rfl, hc1, r1⟩ := h1
  obtain ⟨a2, c2, rfl, hc2, r2⟩ := h2
  obtain ⟨n, hn⟩ : ∃ n, n = l1.length := ⟨_, rfl⟩
  obtain ⟨m, hm⟩ : ∃ m, m = l2.length := ⟨_, rfl⟩
  rw [← hn] at hn1 ⊢
  rw [← hm] at hn2 ⊢
  have HN := Lib.hid hn; have HM := Lib.hid hm
  have R1 := Lib.hid r1; have R2 := Lib.hid r2
  clear hn hm r1 r2 hc1 hc2
  by_cases hnm : n = m
  · have hz : ((n : Int) != (m : Int)) = false := by rw [hnm]; simp
    have HNM := Lib.hid hnm
    clear hnm
    go_enter Tryz.func28, Tryz.ntmps28
    go_wp2_with fail
    go_loopg [5, 13] n (fun k v5 i wr => ∃ j : Nat, j ≤ n ∧ k = n - j ∧ i = .int .i64 (j : Int) ∧ Hid (∀ q (h : q < l1.length) (h' : q < l2.length), q < j → l1[q] = l2[q]) ∧ Hid (Dr w wr))
    case atStart => exact ⟨0, by omega, rfl, rfl, Lib.hid (fun q _ _ hq => by omega), Lib.hid (Dr.refl w)⟩
    case round =>
      obtain ⟨j, hj, rfl, rfl, hg, hdr⟩ := hrel
      by_cases hlt : j < n
      · have hl1 : j < l1.length := by rw [← HN.out]; exact hlt
        have hl2 : j < l2.length := by rw [← HM.out, ← HNM.out]; exact hlt
        obtain ⟨b1, f1, rfl, _, e1⟩ := R1.out (fun e => by rw [e] at hl1; simp at hl1)
        obtain ⟨b2, f2, rfl, _, e2⟩ := R2.out (fun e => by rw [e] at hl2; simp at hl2)
        have hlt2 : j < m := by rw [← HNM.out]; exact hlt
        obtain ⟨x1, hx1⟩ : ∃ x, x = l1[j] := ⟨_, rfl⟩
        obtain ⟨x2, hx2⟩ : ∃ x, x = l2[j] := ⟨_, rfl⟩
        have k1 : wr.cell? ⟨b1, f1 + j, none⟩ = some (.string x1) := by obtain ⟨p, hp⟩ := hdr.out; rw [hp, hx1]; exact e1 j hl1
        have k2 : wr.cell? ⟨b2, f2 + j, none⟩ = some (.string x2) := by obtain ⟨p, hp⟩ := hdr.out; rw [hp, hx2]; exact e2 j hl2
        have HX1 := Lib.hid hx1; have HX2 := Lib.hid hx2
        clear hx1 hx2 e1 e2
        by_cases hx : x1 = x2
        · have G2 : Hid (∀ q (h : q < l1.length) (h' : q < l2.length), q < j + 1 → l1[q] = l2[q]) := Lib.hid (fun q h h' hq => by
            by_cases e : q = j
            · subst e; rw [← HX1.out, ← HX2.out]; exact hx
            · exact hg.out q h h' (by omega))
          have e : (x1.toList == x2.toList) = true := by rw [hx]; exact beq_self_eq_true _
          clear HX1 HX2 hx hg hl1 hl2
          go_upto_region 6 with fail
          go_quiet (fail)
          go_wp2_with fail
          go_roundg (n - (j + 1))
          case measure => omega
          case rel =>
            obtain ⟨p, hp⟩ := hdr.out
            exact ⟨j + 1, by omega, rfl, by go_num, G2, Lib.hid ⟨p + nq, by rw [hp, drewN_drewN]⟩⟩
        · have NE : Hid (decide (l1 = l2) = false) := Lib.hid (by
            rw [decide_eq_false_iff_not]
            intro e
            subst e
            exact hx (HX1.out.trans HX2.out.symm))
          have e : (x1.toList == x2.toList) = false := by
            rw [beq_eq_false_iff_ne, ByteArray.toList_eq, ByteArray.toList_eq]
            exact fun h => hx (ByteArray.ext (Array.toList_inj.1 h))
          clear HX1 HX2 hx hg hl1 hl2
          go_upto_region 6 with fail
          go_quiet (fail)
          go_wp2_with fail
          go_ret
          obtain ⟨p, hp⟩ := hdr.out
          exact ⟨by rw [NE.out]; rfl, p + nq, by rw [hp, drewN_drewN]⟩
      · obtain rfl : j = n := by omega
        have EQ : Hid (decide (l1 = l2) = true) := Lib.hid (by
          rw [decide_eq_true_iff]
          exact List.ext_getElem (by rw [← HN.out, ← HM.out]; exact HNM.out) (fun q h h' => hg.out q h h' (by rw [HN.out]; exact h)))
        clear hg
        go_wp2_with fail
        go_ret
        exact ⟨by rw [EQ.out]; rfl, hdr.out⟩
  · have hz : ((n : Int) != (m : Int)) = true := by simp; omega
    have NE : Hid (decide (l1 = l2) = false) := Lib.hid (by
      rw [decide_eq_false_iff_not]
      intro e
      exact hnm (by rw [HN.out, HM.out, e]))
    clear hnm
    go_enter Tryz.func28, Tryz.ntmps28
    go_wp2_with fail
    go_ret
    exact ⟨by rw [NE.out]; rfl, Dr.refl w⟩
end Go.Proofs.YtohmdledkhgdaaaGreatDoor
/- Comparisons of arrays of bytes and of public keys. -/
namespace Go.Proofs.YtohmdledkhgdaaaGreatDoor
open Go.RowKit Go.Maps
set_option linter.unusedVariables false
set_option maxRecDepth 100000

theorem lits_arr {T : TypeId} {n : Nat} (hu : Tryz.prog.underlying T = some (.array n 5)) (hc : Tryz.prog.cellsOf T = n) (D : Nat) {l : List Nat} (hl : l.length = n) (hx : ∀ x ∈ l, x < 256) : Tryz.prog.keyLits (D + 2) T (l.map U) = some (byteLits l) := by
  rw [keyLits_array hu, if_pos (by rw [List.length_map, hl, hc])]
  rw [mapM_some _ (fun i => [Lit.int .u8 (l.getD i 0 : Int)])]
  · simp only [Option.map_some, Option.some.injEq]
    unfold byteLits
    have : (List.range n).map (fun i => [Lit.int .u8 (l.getD i 0 : Int)]) = (l.map fun n : Nat => [Lit.int .u8 (n : Int)]) := by
      apply List.ext_getElem
      · simp [hl]
      · intro i h1 h2
        simp at h1
        simp [List.getD, List.getElem?_eq_getElem (show i < l.length by rw [hl]; exact h1)]
    rw [this]
    clear this hx hl
    induction l with
    | nil => rfl
    | cons x l ih => simp [ih]
  · intro i hi
    have hi' : i < l.length := by rw [hl]; exact List.mem_range.1 hi
    have hx := hx _ (List.getElem_mem hi')
    have e : ((l.map U).drop (i * Tryz.prog.cellsOf 5)).take (Tryz.prog.cellsOf 5) = [Value.int .u8 (l[i] : Int)] := by
      rw [cells5, Nat.mul_one, List.drop_eq_getElem_cons (by simpa using hi')]
      simp [U]
    rw [e, keyLits_int Tryz.underlying5 (by simp [Lit.wf, IntKind.min, IntKind.max, IntKind.signed, IntKind.bits]; omega)]
    simp [List.getD, List.getElem?_eq_getElem hi']
theorem eq_arr {T : TypeId} {n : Nat} (hu : Tryz.prog.underlying T = some (.array n 5)) (hc : Tryz.prog.cellsOf T = n) (hk : Tryz.prog.keyTypeAt 3 T = true) (w : World) {l m : List Nat} (hl : l.length = n) (hlx : ∀ x ∈ l, x < 256) (hm : m.length = n) (hmx : ∀ x ∈ m, x < 256) :
    (Op.equal T (.agg (idA l)) (.agg (idA m))).run Tryz.prog w = .ok (decide (l = m)) w := by
  obtain ⟨r, hr, hiff⟩ := run_equalIn_deep (P := Tryz.prog) 9997 3 T hk w 2 2 (.agg (idA l)) (.agg (idA m)) (byteLits l) (byteLits m) (by simp [Value.formed, hu, hc, idA_size, hl]) (by simp [Value.formed, hu, hc, idA_size, hm]) (lits_arr hu hc 0 hl hlx) (lits_arr hu hc 0 hm hmx)
  have e : r = decide (l = m) := by
    rw [Bool.eq_iff_iff, hiff, decide_eq_true_iff]
    exact ⟨byteLits_inj, fun e => by rw [e]⟩
  rw [← e]
  exact hr
theorem eq_author (w : World) {l m : List Nat} (hl : B16 l) (hm : B16 m) : (Op.equal 33 (.agg (idA l)) (.agg (idA m))).run Tryz.prog w = .ok (decide (l = m)) w :=
  eq_arr Tryz.underlying33 (by kernel_rfl) (by kernel_rfl) w hl.len hl.lt hm.len hm.lt
theorem eq_b16 (w : World) {l m : List Nat} (hl : B16 l) (hm : B16 m) : (Op.equal 22 (.agg (idA l)) (.agg (idA m))).run Tryz.prog w = .ok (decide (l = m)) w :=
  eq_arr Tryz.underlying22 (by kernel_rfl) (by kernel_rfl) w hl.len hl.lt hm.len hm.lt
theorem eq_digest (w : World) {l m : List Nat} (hl : IdOk l) (hm : IdOk m) : (Op.equal 60 (.agg (idA l)) (.agg (idA m))).run Tryz.prog w = .ok (decide (l = m)) w :=
  eq_arr Tryz.underlying60 (by kernel_rfl) (by kernel_rfl) w hl.len hl.lt hm.len hm.lt
theorem guard_author : Tryz.prog.eqGuardType Tryz.prog.depth 33 = false := by kernel_rfl
theorem guard_b16 : Tryz.prog.eqGuardType Tryz.prog.depth 22 = false := by kernel_rfl
theorem guard_dig : Tryz.prog.eqGuardType Tryz.prog.depth 60 = false := by kernel_rfl
theorem guard_pk : Tryz.prog.eqGuardType Tryz.prog.depth 35 = false := by kernel_rfl
theorem lits_pk (D : Nat) {h : Int} (hh : (Lit.int .i64 h).wf = true) {r : List Nat} (hr : B16 r) : Tryz.prog.keyLits (D + 3) 35 (pkC h r).toList = some (Lit.int .i64 h :: byteLits r) := by
  rw [keyLits_struct Tryz.underlying35, if_pos ⟨by rw [Array.length_toList, pkC_size hr.len]; kernel_rfl, by kernel_rfl⟩]
  have h1 : Tryz.prog.keyLits (D + 2) 3 [.int .i64 h] = some [.int .i64 h] := keyLits_int Tryz.underlying3 hh
  have h2 := lits_arr (T := 22) Tryz.underlying22 (by kernel_rfl) D hr.len hr.lt
  have c1 : Tryz.prog.cellsOf 3 = 1 := by kernel_rfl
  have c2 : Tryz.prog.cellsOf 22 = 16 := by kernel_rfl
  have e1 : ((pkC h r).toList.drop 0).take 1 = [.int .i64 h] := rfl
  have e2 : ((pkC h r).toList.drop 1).take 16 = r.map U := by
    show (r.map U).take 16 = _
    exact List.take_of_length_le (by rw [List.length_map, hr.len]; exact Nat.le_refl _)
  simp only [List.mapM_cons, List.mapM_nil, c1, c2, e1, e2, h1, h2]
  simp
theorem eq_pk (w : World) {h g : Int} (hh : (Lit.int .i64 h).wf = true) (hg : (Lit.int .i64 g).wf = true) {l m : List Nat} (hl : B16 l) (hm : B16 m) : (Op.equal 35 (.agg (pkC h l)) (.agg (pkC g m))).run Tryz.prog w = .ok (decide (h = g) && decide (l = m)) w := by
  obtain ⟨r, hr, hiff⟩ := run_equalIn_deep (P := Tryz.prog) 9996 4 35 (by kernel_rfl) w 3 3 (.agg (pkC h l)) (.agg (pkC g m)) _ _ (by simp [Value.formed, Tryz.underlying35, pkC_size hl.len]; kernel_rfl) (by simp [Value.formed, Tryz.underlying35, pkC_size hm.len]; kernel_rfl) (lits_pk 0 hh hl) (lits_pk 0 hg hm)
  have e : r = (decide (h = g) && decide (l = m)) := by
    rw [Bool.eq_iff_iff, hiff, Bool.and_eq_true, decide_eq_true_iff, decide_eq_true_iff]
    constructor
    · intro e
      injection e with e1 e2
      injection e1 with _ e3
      exact ⟨e3, byteLits_inj e2⟩
    · rintro ⟨rfl, rfl⟩; rfl
  rw [← e]
  exact hr
end Go.Proofs.YtohmdledkhgdaaaGreatDoor
