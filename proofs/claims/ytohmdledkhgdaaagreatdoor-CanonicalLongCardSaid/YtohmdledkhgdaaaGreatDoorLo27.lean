/- canonical.Id. -/
import Derived.Test.YtohmdledkhgdaaaGreatDoorLo26
import Derived.Lib.SliceRun
namespace Go.Proofs.YtohmdledkhgdaaaGreatDoor
open Go.RowKit
set_option linter.unusedVariables false
set_option maxRecDepth 100000
/-- '[]byte(s)'. -/
theorem conv_bytes (w : World) (s : ByteArray) (hs : s.size ≤ 10000000) : ∃ cap w', (convert 9 62 (.string s)).run Tryz.prog w = .ok (.slice (some ⟨w.heap.size, 0, none⟩) s.size cap) w' ∧ s.size ≤ cap ∧ cap ≤ maxLen ∧ Rd w' (some ⟨w.heap.size, 0, none⟩) (bs s) ∧ Below w.heap.size w w' := by
  refine ⟨_, _, run_bytes_of_string (P := Tryz.prog) w 9 62 5 s Tryz.underlying9 Tryz.underlying62 Tryz.underlying5, grownCap_ge w s.size 0 _, grownCap_le_maxLen w s.size 0 _ (by unfold maxLen; omega), ⟨bs_lt s, fun h0 => ⟨w.heap.size, 0, rfl, ?_, fun i hi => ?_⟩⟩, ?_⟩
  · simp
  · rw [cell_of_row _ w.heap.size (0 + i) _ _ _ (heap_alloc_new w.drew _), Nat.zero_add]
    rw [bs_length] at hi
    unfold bytesRow
    rw [Array.getElem?_append_left (by rw [Array.size_map]; exact hi), Array.getElem?_map]
    have hi2 : i < s.data.size := hi
    rw [Array.getElem?_eq_getElem hi2]
    simp [bs, U]
  · exact ((Below.refl w.heap.size w).drew).alloc (Nat.le_refl _) _
theorem exec_convert {P : Program} {o : Oper} {a : Act} {w w' : World} {s d : TypeId} {x : Operand} {u v : Value} (ho : o.op = .convert s d x) (hx : a.eval x = u) (h : (convert s d u).run P w = .ok v w') : (execOp a.eval o).run P w = .ok (.value v) w' := by
  unfold execOp
  rw [ho]
  simp only [hx]
  rw [Sem.run_bind, h]
  rfl
theorem wpList_conv {P : Program} {ops : Array Oper} {rest : List Oper} {o : Oper} {a : Act} {w : World} {Q : Exit → Act → World → Prop} (s d : TypeId) (hgd : o.guard = none) (x : Operand) (ho : o.op = .convert s d x) (h : ∃ u v w', a.eval x = u ∧ (convert s d u).run P w = .ok v w' ∧ wpList P ops Q rest (a.put o.dst v) w') : wpList P ops Q (o :: rest) a w := by
  obtain ⟨u, v, w', h1, h2, h3⟩ := h
  exact wpList_run hgd (exec_convert ho h1 h2) h3
theorem form_lt256 {c : Cn} (ok : c.Ok) (h : chkF c.p = 0) : ∀ x ∈ formF c.p, x < 256 := by
  have vd := vd_of h
  have jl : ∀ (s : Nat) (l : List (List Nat)), s < 256 → (∀ y ∈ l, ∀ x ∈ y, x < 256) → ∀ x ∈ joinF [s] l, x < 256 := fun s l hs hl x hx => by
    rcases join_mem s l x hx with rfl | ⟨y, hy, hx⟩
    · exact hs
    · exact hl y hy x hx
  have vl : ∀ v ∈ fVals c.p, ∀ x ∈ v, x < 256 := by
    intro v hv x hx
    unfold fVals at hv
    simp only [List.mem_cons, List.not_mem_nil, or_false] at hv
    rcases hv with rfl | rfl | rfl | rfl | rfl | rfl | rfl | rfl | rfl | rfl | rfl
    · exact bs_lt c.name x hx
    · have := hexF_mem ok.author.lt x hx; omega
    · have := digI_mem (n := c.date) vd.date.1 x hx; omega
    · exact jl 44 _ (by decide) (fun y hy z hz => by obtain ⟨g, _, rfl⟩ := List.mem_map.1 (show y ∈ c.groups.map bs from hy); exact bs_lt g z hz) x hx
    · exact bs_lt c.subject x hx
    · exact jl 32 _ (by decide) (fun y hy z hz => by obtain ⟨g, hg, rfl⟩ := List.mem_map.1 (show y ∈ c.refs.map midF from hy); have := midF_mem (ok.refs g hg).lt z hz; omega) x hx
    · unfold optF at hx
      split at hx
      · cases hx
      · have := midF_mem (l := c.sup) ok.sup.lt x hx; omega
    · exact bs_lt c.ctl x hx
    · exact bs_lt c.dist x hx
    · unfold keyF at hx
      rw [List.mem_append, List.mem_cons] at hx
      rcases hx with hx | rfl | hx
      · have := digI_mem (n := c.number) vd.number.1 x hx; omega
      · decide
      · exact encF_lt _ x hx
    · have := digI_mem (n := c.leaf) vd.leaf.1 x hx; omega
  intro x hx
  unfold formF at hx
  rw [List.mem_append, List.mem_cons] at hx
  rcases hx with hx | rfl | hx
  · obtain ⟨p, hp, hx⟩ := List.mem_flatMap.1 hx
    rw [List.mem_append, List.mem_append, List.mem_cons, List.mem_singleton] at hx
    rcases hx with (hx | rfl | hx) | rfl
    · have h1 := (List.of_mem_zip hp).1
      have : ∀ l ∈ fWords, ∀ x ∈ l, x < 256 := by decide
      exact this _ h1 x hx
    · decide
    · exact vl _ (List.of_mem_zip hp).2 x hx
    · decide
  · decide
  · exact bs_lt c.body x hx
/-- The identity that Id returns. -/
def idV (c : Cont) : List Nat := if chkF c = 0 then idF c else zero32
/-- What Id returns. -/
def IdP (c : Cont) (w : World) (e : Ending) (w' : World) : Prop :=
  e = .returned (.tuple #[.agg (idA (idV c)), .int .i64 ((chkF c : Nat) : Int)]) ∧ Below w.heap.size w w'
set_option maxHeartbeats 2000000 in
theorem id_any (w : World) (c : Cn) (gv rv : Value) (hin : CnIn w c gv rv) (hF : chkF c.p = 0 → (formF c.p).length ≤ 10000000) (hE : Env w) :
    Calls Tryz.prog 11 #[.agg (c.cells gv rv)] w (IdP c.p w) := by
  have FX : Hid (∀ e w', IdP c.p w e w' ↔ e = .returned (.tuple #[.agg (idA (idV c.p)), .int .i64 ((chkF c.p : Nat) : Int)]) ∧ Below w.heap.size w w') := Lib.hid (fun _ _ => Iff.rfl)
  obtain ⟨zs, hzs⟩ : ∃ zs, zs = idA zero32 := ⟨_, rfl⟩
  have Z0 : Hid (zs = #[.int .u8 0, .int .u8 0, .int .u8 0, .int .u8 0, .int .u8 0, .int .u8 0, .int .u8 0, .int .u8 0, .int .u8 0, .int .u8 0, .int .u8 0, .int .u8 0, .int .u8 0, .int .u8 0, .int .u8 0, .int .u8 0, .int .u8 0, .int .u8 0, .int .u8 0, .int .u8 0, .int .u8 0, .int .u8 0, .int .u8 0, .int .u8 0, .int .u8 0, .int .u8 0, .int .u8 0, .int .u8 0, .int .u8 0, .int .u8 0, .int .u8 0, .int .u8 0]) := Lib.hid (by rw [hzs]; rfl)
  obtain ⟨w0, hw0⟩ : ∃ w0, w0 = (w.alloc (.cells (c.cells gv rv) 37)).alloc (.cells zs 26) := ⟨_, rfl⟩
  have B0 : Hid (Below w.heap.size w w0) := Lib.hid (by rw [hw0]; exact ((Below.refl _ _).alloc (Nat.le_refl _) _).alloc (by simp) _)
  have C0 : CB w0 w.heap.size c gv rv 37 := by unfold CB; rw [hw0]; exact alloc_block (heap_alloc_last w _)
  have R0 : Hid (IB w0 (w.heap.size + 1) 26 zero32) := Lib.hid (by
    unfold IB; rw [hw0, ← hzs]; have := heap_alloc_last (w.alloc (.cells (c.cells gv rv) 37)) (.cells zs 26); rw [World.size_alloc] at this; exact this)
  have SZ0 : w0.heap.size = w.heap.size + 2 := by rw [hw0]; simp
  have LD := Lib.hid (C0.all hin.ok)
  have FM := Lib.hid (form_any w0 c gv rv (hin.on B0.out) hF (hE.on B0.out))
  have HF := Lib.hid hF; have HE := Lib.hid hE
  have FLT : Hid (chkF c.p = 0 → ∀ x ∈ formF c.p, x < 256) := Lib.hid (fun h => form_lt256 hin.ok h)
  obtain ⟨cs, hcs⟩ : ∃ cs, cs = c.cells gv rv := ⟨_, rfl⟩
  rw [← hcs] at hw0 LD FM ⊢
  have HW := Lib.hid hw0
  clear hw0 hcs hin hF hE C0
  go_enter Tryz.func11, Tryz.ntmps11
  go_upto_region 1 with fail
  have W' := HW.out
  rw [Z0.out] at W'
  rw [← W']
  clear W' HW
  refine wp_region_list ?_
  simp only []
  refine wpList_load 37 rfl _ rfl ⟨_, _, rfl, LD.out, ?_⟩
  go_wp2_with fail
  refine FM.out.mono ?_
  rintro e w1 ⟨rfl, hb1⟩
  have B1 := Lib.hid (B0.out.trans (hb1.mono B0.out.size))
  have R1 : Hid (IB w1 (w.heap.size + 1) 26 zero32) := Lib.hid (R0.out.below hb1)
  clear hb1 FM LD R0 B0 SZ0
  obtain ⟨tx, htx⟩ : ∃ t, t = strN (if chkF c.p = 0 then formF c.p else []) := ⟨_, rfl⟩
  rw [← htx]
  obtain ⟨p0, hp0⟩ : ∃ p, p = chkF c.p := ⟨_, rfl⟩
  rw [← hp0]
  have HP0 := Lib.hid hp0; have HTX := Lib.hid htx
  clear hp0 htx
  have PW : Hid (∀ w5 (l : List Nat), l.length = 32 → IB w5 (w.heap.size + 1) 26 zero32 → Below w.heap.size w w5 → (storeVar 26 ⟨w.heap.size + 1, 0, none⟩ (.agg (idA l))).run Tryz.prog w5 = .ok () (w5.setRow (w.heap.size + 1) (idA l)) ∧ IB (w5.setRow (w.heap.size + 1) (idA l)) (w.heap.size + 1) 26 l ∧ Below w.heap.size w (w5.setRow (w.heap.size + 1) (idA l))) := Lib.hid (fun w5 l hl hi hb =>
    ⟨run_storeVar_row w5 (w.heap.size + 1) _ 26 _ _ hi (by rw [idA_size, hl]; exact size23) (by rw [idA_size, idA_size, hl]; rfl) (idA_one _), setRow_heap w5 _ _ _ _ _ hi, below_setRow hb (Nat.le_succ _) _⟩)
  have SZ : Hid (∀ l : List Nat, l.length = 32 → (Tryz.prog.info? 26).map (·.size) = some (idA l).size) := Lib.hid (fun l hl => by rw [idA_size, hl]; exact size23)
  by_cases h0 : p0 = 0
  · subst h0
    have hz : ((((0 : Nat) : Int)) != 0) = false := rfl
    have FL := HF.out HP0.out.symm
    have TXE : tx = strN (formF c.p) := by rw [HTX.out, if_pos HP0.out.symm]
    have tz : tx.size ≤ 10000000 := by rw [TXE, strN_size]; exact FL
    obtain ⟨cap, w2, cv, hc1, hc2, rd, hb2⟩ := conv_bytes w1 tx tz
    have CV := Lib.hid cv
    have B2 := B1.out.trans (hb2.mono B1.out.size)
    have SH := sha_any w2 (some ⟨w1.heap.size, 0, none⟩) cap (bs tx) rd (by rw [bs_length]; exact tz) (by rw [bs_length]; exact hc1) hc2 (HE.out.on B2)
    rw [bs_length] at SH
    have SHH := Lib.hid SH
    have R2 := R1.out.below hb2
    have IDV : Hid (idV c.p = shaF (bs tx)) := Lib.hid (by
      unfold idV idF
      rw [if_pos HP0.out.symm, TXE]
      by_cases hlt : ∀ x ∈ formF c.p, x < 256
      · rw [bs_strN _ hlt]
      · exact absurd (FLT.out HP0.out.symm) hlt)
    have SL : (shaF (bs tx)).length = 32 := dgF_len _
    have FIN : Hid (∀ w5, Below w2.heap.size w2 w5 → (storeVar 26 ⟨w.heap.size + 1, 0, none⟩ (.agg (idA (shaF (bs tx))))).run Tryz.prog w5 = .ok () (w5.setRow (w.heap.size + 1) (idA (shaF (bs tx)))) ∧ IB (w5.setRow (w.heap.size + 1) (idA (shaF (bs tx)))) (w.heap.size + 1) 26 (shaF (bs tx)) ∧ Below w.heap.size w (w5.setRow (w.heap.size + 1) (idA (shaF (bs tx))))) := Lib.hid (fun w5 hb => PW.out w5 _ SL (R2.below hb) (B2.trans (hb.mono B2.size)))
    have SZ2 := Lib.hid (SZ.out _ SL)
    obtain ⟨rs, hrs⟩ : ∃ rs, rs = idA (shaF (bs tx)) := ⟨_, rfl⟩
    have HRS : Hid (idA (idV c.p) = rs) := Lib.hid (by rw [hrs, IDV.out])
    have HRS2 := Lib.hid hrs
    rw [← hrs] at SHH FIN SZ2
    clear hrs FL TXE cv hc1 hc2 rd hb2 B2 SH R2 SL PW SZ
    go_wp2_with ((with_reducible refine wpList_conv 9 62 rfl _ rfl ?_); refine ⟨_, _, _, rfl, CV.out, ?_⟩)
    refine SHH.out.mono ?_
    rintro e w5 ⟨rfl, hb5⟩
    obtain ⟨f0, f1, f2⟩ := FIN.out w5 hb5
    have F0 := Lib.hid f0; have F1 := Lib.hid f1; have F2 := Lib.hid f2
    clear f0 f1 f2 hb5 FIN SHH CV
    go_wp2_with ((with_reducible refine wpList_store 26 rfl _ _ rfl ?_); refine ⟨_, _, _, rfl, rfl, F0.out, ?_⟩)
    have f1 := F1.out
    unfold IB at f1
    rw [← HRS2.out] at f1
    exact bodyPost_ret (results_cell_tmp1 Tryz.results11 _ _ (w.heap.size + 1) _ _ _ _ rfl f1 Tryz.underlying26 rfl SZ2.out) rfl ((FX.out _ _).2 ⟨by rw [HRS.out, ← HP0.out]; rfl, F2.out⟩)
  · have hz : ((p0 : Int) != 0) = true := int_neq (by omega)
    have Z32 : zero32.length = 32 := by simp [zero32]
    obtain ⟨f0, f1, f2⟩ := PW.out w1 zero32 Z32 R1.out B1.out
    have F0 := Lib.hid f0; have F1 := Lib.hid f1; have F2 := Lib.hid f2
    have BZ : Hid (∀ w, (Instr.build 26 #[]).run Tryz.prog w = .ok (.agg zs) w) := Lib.hid (fun w => by rw [Z0.out]; kernel_rfl)
    have SZ2 := Lib.hid (SZ.out _ Z32)
    have IDV : Hid (idV c.p = zero32) := Lib.hid (by unfold idV; rw [if_neg (by rw [← HP0.out]; exact h0)])
    rw [← hzs] at F0 F1 F2 SZ2
    have HZS := Lib.hid hzs
    clear f0 f1 f2 PW SZ hzs h0 Z32
    go_wp2_with (first
      | ((with_reducible refine wpList_build0 26 rfl rfl ?_); refine ⟨_, BZ.out _, ?_⟩)
      | ((with_reducible refine wpList_store 26 rfl _ _ rfl ?_); refine ⟨_, _, _, rfl, rfl, F0.out, ?_⟩))
    have f1 := F1.out
    unfold IB at f1
    rw [← HZS.out] at f1
    exact bodyPost_ret (results_cell_tmp1 Tryz.results11 _ _ (w.heap.size + 1) _ _ _ _ rfl f1 Tryz.underlying26 rfl SZ2.out) rfl ((FX.out _ _).2 ⟨by rw [IDV.out, ← HZS.out, ← HP0.out]; rfl, F2.out⟩)
/-- The cells of identities in a row. -/
def idCells (l : List (List Nat)) : List Value := l.flatMap fun x => x.map U
theorem idCells_len : ∀ (l : List (List Nat)), (∀ x ∈ l, IdOk x) → (idCells l).length = l.length * 32
  | [], _ => rfl
  | x :: l, h => by
    show (x.map U ++ idCells l).length = _
    rw [List.length_append, List.length_map, (h x (List.mem_cons_self ..)).len, idCells_len l (fun y hy => h y (List.mem_cons_of_mem _ hy)), List.length_cons]
    omega
theorem idCells_at : ∀ (l : List (List Nat)) (q k : Nat) (hq : q < l.length), (∀ x ∈ l, IdOk x) → k < 32 → (idCells l)[q * 32 + k]? = ((l[q]).map U)[k]?
  | x :: l, 0, k, _, h, hk => by
    show (x.map U ++ idCells l)[0 * 32 + k]? = _
    rw [List.getElem?_append_left (by rw [List.length_map, (h x (List.mem_cons_self ..)).len]; omega), Nat.zero_mul, Nat.zero_add]
    rfl
  | x :: l, q + 1, k, hq, h, hk => by
    show (x.map U ++ idCells l)[(q + 1) * 32 + k]? = _
    rw [List.getElem?_append_right (by rw [List.length_map, (h x (List.mem_cons_self ..)).len]; omega), List.length_map, (h x (List.mem_cons_self ..)).len, show (q + 1) * 32 + k - 32 = q * 32 + k by omega]
    exact idCells_at l q k (by simpa using hq) (fun y hy => h y (List.mem_cons_of_mem _ hy)) hk
theorem idCells_one (l : List (List Nat)) : ∀ u ∈ idCells l, u.oneCell' = true := by
  intro u hu
  obtain ⟨x, _, hx⟩ := List.mem_flatMap.1 hu
  obtain ⟨y, _, rfl⟩ := List.mem_map.1 hx
  rfl
theorem ownI_row {w : World} {base : Nat} {v : Value} {l : List (List Nat)} (ho : ∀ x ∈ l, IdOk x) (h : w.ownsRow base 26 32 v l.length (idCells l)) : IRow w v l := by
  rcases h.2 with ⟨rfl, h0⟩ | ⟨g, cap, cur, rfl, hb, hg, hc, _, hs, ht⟩
  · exact ⟨none, 0, by rw [h0], by rw [h0]; exact Nat.le_refl _, fun hne => absurd (List.length_eq_zero_iff.1 h0) hne⟩
  · refine ⟨some ⟨g, 0, none⟩, cap, rfl, hc, fun _ => ⟨g, 0, rfl, lt_of_block hg, fun j hj k u hu => ?_⟩⟩
    have hk : k < 32 := by
      have := (Array.getElem?_eq_some_iff.1 hu).1
      rw [idA_size, (ho _ (List.getElem_mem hj)).len] at this
      exact this
    rw [Nat.zero_add, cell_of_row w g _ _ _ _ hg]
    have e1 : (cur.toList.take (l.length * 32))[j * 32 + k]? = some u := by
      rw [ht, idCells_at l j k hj ho hk]
      unfold idA at hu
      rw [List.getElem?_toArray] at hu
      exact hu
    rw [List.getElem?_take, if_pos (by omega)] at e1
    simpa using e1
theorem IRow.cells {w : World} {b off n c : Nat} {l : List (List Nat)} (ho : ∀ x ∈ l, IdOk x) (h : ∀ j (h : j < l.length) k u, (idA l[j])[k]? = some u → w.cell? ⟨b, off + j * 32 + k, none⟩ = some u) : ∀ j u, (idCells l)[j]? = some u → w.cell? ((⟨b, off, none⟩ : Addr).add j) = some u := by
  intro j u hu
  have hj : j < l.length * 32 := by rw [← idCells_len l ho]; exact (List.getElem?_eq_some_iff.1 hu).1
  obtain ⟨q, hq⟩ : ∃ q, q = j / 32 := ⟨_, rfl⟩
  obtain ⟨k, hk⟩ : ∃ k, k = j % 32 := ⟨_, rfl⟩
  have e : j = q * 32 + k := by omega
  have hql : q < l.length := by omega
  rw [e, idCells_at l q k hql ho (by omega)] at hu
  rw [Addr.add_mid, e, ← Nat.add_assoc]
  exact h q hql k u (by unfold idA; rw [List.getElem?_toArray]; exact hu)
theorem SRow.cells {w : World} {b off : Nat} {l : List ByteArray} (h : ∀ j (h : j < l.length), w.cell? ⟨b, off + j, none⟩ = some (.string l[j])) : ∀ j u, (l.map Value.string)[j]? = some u → w.cell? ((⟨b, off, none⟩ : Addr).add j) = some u := by
  intro j u hu
  have hj : j < l.length := by have := (List.getElem?_eq_some_iff.1 hu).1; simpa using this
  rw [List.getElem?_map, List.getElem?_eq_getElem hj] at hu
  cases hu
  rw [Addr.add_mid]
  exact h j hj
theorem infoI32 : (Tryz.prog.info? 26).map (fun i => (i.zero, i.size, i.bytes)) = some (some (.agg (idA zero32)), 32, 32) := by kernel_rfl
theorem own_empty (w : World) (base : Nat) (e : TypeId) (size : Nat) (hb : base ≤ w.heap.size) : (w.alloc (.cells #[] e)).ownsRow base e size (.slice (some ⟨w.heap.size, 0, none⟩) 0 0) 0 [] :=
  ⟨by simp, .inr ⟨w.heap.size, 0, #[], rfl, hb, heap_alloc_new w _, Nat.le_refl _, Nat.zero_le _, by simp, by simp⟩⟩
end Go.Proofs.YtohmdledkhgdaaaGreatDoor
/- Comparisons of arrays of bytes and of public keys. -/
namespace Go.Proofs.YtohmdledkhgdaaaGreatDoor
open Go.RowKit Go.Maps
set_option linter.unusedVariables false
set_option maxRecDepth 100000
theorem lits_arr {T : TypeId} {n : Nat} (hu : Tryz.prog.underlying T = some (.array n 5)) (hc : Tryz.prog.cellsOf T = n) (D : Nat) {l : List Nat} (hl : l.length = n) (hx : ∀ x ∈ l, x < 256) : Tryz.prog.keyLits (D + 2) T (l.map U) = some (byteLits l) := by
  rw [keyLits_array hu, if_pos (by rw [List.length_map, hl, hc])]
  rw [mapM_some _ (fun i => [Lit.int .u8 (l.getD i 0 : Int)])]
  · simp only [Option.map_some, Option.some.injEq]
    unfold byteLits
    have : (List.range n).map (fun i => [Lit.int .u8 (l.getD i 0 : Int)]) = (l.map fun n : Nat => [Lit.int .u8 (n : Int)]) := by
      apply List.ext_getElem
      · simp [hl]
      · intro i h1 h2
        simp at h1
        simp [List.getD, List.getElem?_eq_getElem (show i < l.length by rw [hl]; exact h1)]
    rw [this]
    clear this hx hl
    induction l with
    | nil => rfl
    | cons x l ih => simp [ih]
  · intro i hi
    have hi' : i < l.length := by rw [hl]; exact List.mem_range.1 hi
    have hx := hx _ (List.getElem_mem hi')
    have e : ((l.map U).drop (i * Tryz.prog.cellsOf 5)).take (Tryz.prog.cellsOf 5) = [Value.int .u8 (l[i] : Int)] := by
      rw [cells5, Nat.mul_one, List.drop_eq_getElem_cons (by simpa using hi')]
      simp [U]
    rw [e, keyLits_int Tryz.underlying5 (by simp [Lit.wf, IntKind.min, IntKind.max, IntKind.signed, IntKind.bits]; omega)]
    simp [List.getD, List.getElem?_eq_getElem hi']
theorem eq_arr {T : TypeId} {n : Nat} (hu : Tryz.prog.underlying T = some (.array n 5)) (hc : Tryz.prog.cellsOf T = n) (hk : Tryz.prog.keyTypeAt 3 T = true) (w : World) {l m : List Nat} (hl : l.length = n) (hlx : ∀ x ∈ l, x < 256) (hm : m.length = n) (hmx : ∀ x ∈ m, x < 256) :
    (Op.equal T (.agg (idA l)) (.agg (idA m))).run Tryz.prog w = .ok (decide (l = m)) w := by
  obtain ⟨r, hr, hiff⟩ := run_equalIn_deep (P := Tryz.prog) 9997 3 T hk w 2 2 (.agg (idA l)) (.agg (idA m)) (byteLits l) (byteLits m) (by simp [Value.formed, hu, hc, idA_size, hl]) (by simp [Value.formed, hu, hc, idA_size, hm]) (lits_arr hu hc 0 hl hlx) (lits_arr hu hc 0 hm hmx)
  have e : r = decide (l = m) := by
    rw [Bool.eq_iff_iff, hiff, decide_eq_true_iff]
    exact ⟨byteLits_inj, fun e => by rw [e]⟩
  rw [← e]
  exact hr
end Go.Proofs.YtohmdledkhgdaaaGreatDoor
/- canonical.Equal (printed by gen_ceq.py). -/
namespace Go.Proofs.YtohmdledkhgdaaaGreatDoor
open Go.RowKit
set_option linter.unusedVariables false
set_option maxRecDepth 100000
theorem wpList_runG {P : Program} {ops : Array Oper} {rest : List Oper} {o : Oper} {a : Act} {w w' : World} {Q : Exit → Act → World → Prop} {v : Value} (hw : Region.wanted o (yielded ops a.tmps) = true) (h : (execOp a.eval o).run P w = .ok (.value v) w') (hk : wpList P ops Q rest (a.put o.dst v) w') : wpList P ops Q (o :: rest) a w := by
  refine wpList_step fun K hK => ?_
  rw [if_pos hw]
  unfold Oper.wp
  rw [h]
  exact hK _ _ hk
theorem wpList_neqG {P : Program} {ops : Array Oper} {rest : List Oper} {o : Oper} {a : Act} {w : World} {Q : Exit → Act → World → Prop} (t : TypeId) {t' : TypeId} (x y : Operand) (ho : o.op = .binOp .neq t x y t') (hw : Region.wanted o (yielded ops a.tmps) = true) (hm : P.eqGuardType P.depth t = false)
    (h : ∃ xs ys r, a.eval x = .agg xs ∧ a.eval y = .agg ys ∧ (Op.equal t (.agg xs) (.agg ys)).run P w = .ok r w ∧ wpList P ops Q rest (a.put o.dst (.bool !r)) w) : wpList P ops Q (o :: rest) a w := by
  obtain ⟨xs, ys, r, h1, h2, h3, h4⟩ := h
  exact wpList_runG hw (exec_neq ho h1 h2 hm h3) h4
theorem wpList_loadG {P : Program} {ops : Array Oper} {rest : List Oper} {o : Oper} {a : Act} {w : World} {Q : Exit → Act → World → Prop} (ty : TypeId) (x : Operand) (ho : o.op = .load ty x) (hw : Region.wanted o (yielded ops a.tmps) = true) (h : ∃ ad v, a.eval x = .pointer (some ad) ∧ (loadVar ty ad).run P w = .ok v w ∧ wpList P ops Q rest (a.put o.dst v) w) : wpList P ops Q (o :: rest) a w := by
  obtain ⟨ad, v, h1, h2, h3⟩ := h
  exact wpList_runG hw (exec_load ho h1 h2) h3
theorem toList_eq {x y : ByteArray} (h : x = y) : (x.toList == y.toList) = true := by rw [h]; exact beq_self_eq_true _
theorem toList_ne {x y : ByteArray} (h : ¬ x = y) : (x.toList == y.toList) = false := by
  rw [beq_eq_false_iff_ne, ByteArray.toList_eq, ByteArray.toList_eq]
  exact fun e => h (ByteArray.ext (Array.toList_inj.1 e))
theorem dr_tr {u v w : World} (h : Dr u v) (h' : Dr v w) : Dr u w := by
  obtain ⟨p, rfl⟩ := h
  obtain ⟨q, rfl⟩ := h'
  exact ⟨p + q, drewN_drewN _ _ _⟩
/-- The content with nothing in it. -/
def cn0 : Cn := ⟨⟨#[]⟩, List.replicate 16 0, 0, [], ⟨#[]⟩, [], zero32, ⟨#[]⟩, ⟨#[]⟩, 0, 0, List.replicate 16 0, 0, ⟨#[]⟩⟩
theorem cn0_cells : cn0.cells (.slice none 0 0) (.slice none 0 0) = Tryz.zeroCells37 := by kernel_rfl
theorem cn0_ok : cn0.Ok := ⟨⟨by simp [cn0], fun x hx => by simp [cn0] at hx; omega⟩, ⟨by simp [cn0], fun x hx => by simp [cn0] at hx; omega⟩, ⟨by simp [cn0, zero32], fun x hx => by simp [cn0, zero32] at hx; omega⟩, fun x hx => (by cases hx), by decide, by decide, by decide, by decide⟩
theorem list_set_at (X : List Value) (u v : Value) (Y : List Value) (n : Nat) (hn : X.length = n) : (X ++ (u :: Y)).toArray.setIfInBounds n v = (X ++ (v :: Y)).toArray := by
  subst hn
  simp
theorem CB.setC {w : World} {b k : Nat} {c : Cn} {gv rv : Value} {T : TypeId} (h : CB w k c gv rv T) (j : Nat) (u : Value) (hne : k ≠ b) : CB (w.setCell ⟨b, j, none⟩ u) k c gv rv T := (otherB w b j k u hne).trans h
theorem all_one (l : List Value) (h : ∀ v ∈ l, v.oneCell' = true) : l.toArray.all (·.oneCell') = true := by
  rw [Array.all_eq_true']
  intro x hx
  exact h x (by simpa using hx)
theorem cells_one (c : Cn) (gv rv : Value) (hg : gv.oneCell' = true) (hr : rv.oneCell' = true) : (c.cells gv rv).all (·.oneCell') = true := by
  refine all_one _ (fun v hv => ?_)
  simp only [List.mem_append, List.mem_cons, List.not_mem_nil, or_false, List.mem_map] at hv
  rcases hv with rfl | ⟨y, _, rfl⟩ | (rfl | rfl | rfl | rfl) | ⟨y, _, rfl⟩ | (rfl | rfl | rfl | rfl) | ⟨y, _, rfl⟩ | (rfl | rfl)
  all_goals first | rfl | assumption
theorem ownsU {w w' : World} {base b : Nat} {e : TypeId} {size n : Nat} {v : Value} {xs : List Value} (h : w.ownsRow base e size v n xs) (hb : Below w.heap.size w w') : w'.ownsRow base e size v n xs := by
  rcases h.2 with ⟨rfl, h0⟩ | ⟨g, cap, cur, rfl, hg, hgb, r⟩
  · exact ⟨h.1, .inl ⟨rfl, h0⟩⟩
  · exact ⟨h.1, .inr ⟨g, cap, cur, rfl, hg, (hb.block g (lt_of_block hgb)).trans hgb, r⟩⟩
theorem owns_fr1 {w w' : World} {base b : Nat} {e : TypeId} {size n : Nat} {v : Value} {xs : List Value} (h : w.ownsRow base e size v n xs) (hf : Fr1 b w w') (hb : b < base) : w'.ownsRow base e size v n xs := by
  rcases h.2 with ⟨rfl, h0⟩ | ⟨g, cap, cur, rfl, hg, hgb, r⟩
  · exact ⟨h.1, .inl ⟨rfl, h0⟩⟩
  · exact ⟨h.1, .inr ⟨g, cap, cur, rfl, hg, (hf.other g (lt_of_block hgb) (by omega)).trans hgb, r⟩⟩
theorem owns_base {w : World} {base base' : Nat} {e : TypeId} {size n : Nat} {v : Value} {xs : List Value} (h : w.ownsRow base e size v n xs) (hb : base' ≤ base) : w.ownsRow base' e size v n xs := by
  rcases h.2 with ⟨rfl, h0⟩ | ⟨g, cap, cur, rfl, hg, r⟩
  · exact ⟨h.1, .inl ⟨rfl, h0⟩⟩
  · exact ⟨h.1, .inr ⟨g, cap, cur, rfl, by omega, r⟩⟩
theorem own_slice {w : World} {base : Nat} {e : TypeId} {size n : Nat} {v : Value} {xs : List Value} (h : w.ownsRow base e size v n xs) : ∃ a m c, v = .slice a m c := by
  rcases h.2 with ⟨e, _⟩ | ⟨g, cap, _, e, _⟩
  · exact ⟨_, _, _, e⟩
  · exact ⟨_, _, _, e⟩
/-- What a clone returns. -/
def CloP (c : Cn) (w : World) (e : Ending) (w' : World) : Prop :=
  ∃ gv rv, e = .returned (.agg (c.cells gv rv)) ∧ w'.ownsRow w.heap.size 9 1 gv c.groups.length (c.groups.map Value.string) ∧ w'.ownsRow w.heap.size 26 32 rv c.refs.length (idCells c.refs) ∧ Below w.heap.size w w'
theorem size_rc : (Tryz.prog.info? 28).map (·.size) = some 75 := by kernel_rfl
theorem size_r16 : (Tryz.prog.info? 22).map (·.size) = some 16 := by kernel_rfl
theorem CB.author16 {w : World} {b : Nat} {c : Cn} {gv rv : Value} {T : TypeId} (h : CB w b c gv rv T) (hc : c.Ok) : (loadVar 22 ⟨b, 1, none⟩).run Tryz.prog w = .ok (.agg (idA c.author)) w := run_loadVar_cells w b 1 22 _ _ Tryz.underlying22 rfl (by rw [idA_size, hc.author.len]; exact size_r16) (h.part 1 (cn_author c gv rv))
theorem CB.root16 {w : World} {b : Nat} {c : Cn} {gv rv : Value} {T : TypeId} (h : CB w b c gv rv T) (hc : c.Ok) : (loadVar 22 ⟨b, 57, none⟩).run Tryz.prog w = .ok (.agg (idA c.root)) w := run_loadVar_cells w b 57 22 _ _ Tryz.underlying22 rfl (by rw [idA_size, hc.root.len]; exact size_r16) (h.part 57 (cn_root hc gv rv))
theorem CB.allR {w : World} {b : Nat} {c : Cn} {gv rv : Value} {T : TypeId} (h : CB w b c gv rv T) (hc : c.Ok) : (loadVar 28 ⟨b, 0, none⟩).run Tryz.prog w = .ok (.agg (c.cells gv rv)) w :=
  run_loadVar_cells w b 0 28 _ _ Tryz.underlying28 rfl (by rw [cn_size hc]; exact size_rc) (cells_self w b T _ _ h)
end Go.Proofs.YtohmdledkhgdaaaGreatDoor
