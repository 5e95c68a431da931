/- bulletinlaw18.Own, Back (printed by gen_own.py). -/
import Derived.Test.YtohmdledkhgdaaaGreatDoorLo27
import Derived.Laws.OwnMore
namespace Go.Proofs.YtohmdledkhgdaaaGreatDoor
open Go.RowKit
set_option linter.unusedVariables false
set_option maxRecDepth 100000
theorem exec_buildM {P : Program} {o : Oper} {a : Act} {w : World} {v : Value} {t : TypeId} {ps : Array (Nat × Operand)} {vs : Array (Nat × Value)} (ho : o.op = .build t ps) (hv : ps.map (fun (i, x) => (i, a.eval x)) = vs) (h : (Instr.build t vs).run P w = .ok v w) : (execOp a.eval o).run P w = .ok (.value v) w := by
  subst hv
  exact exec_build ho h
theorem exec_append {P : Program} {o : Oper} {a : Act} {w w' : World} {s x : Operand} {t : TypeId} {v u v' : Value} (ho : o.op = .call { callee := .builtin .append, args := #[s, x], argTypes := #[t, t] }) (hs : a.eval s = v) (hx : a.eval x = u) (h : (Builtin.append_ #[t, t] o.type #[v, u]).run P w = .ok v' w') : (execOp a.eval o).run P w = .ok (.value v') w' := by
  unfold execOp
  simp only [ho, resolve, invoke, builtin, Sem.run_bind, Sem.run_pure, Result.andThen_ok, List.map_toArray, List.map_cons, List.map_nil, hs, hx, h]
theorem exec_bs0 {P : Program} {o : Oper} {a : Act} (w : World) {t e : TypeId} (ho : o.op = .buildSlice t 0 #[]) (h : (Instr.buildSlice t 0 #[]).run P w = .ok (.slice (some ⟨w.heap.size, 0, none⟩) 0 0) (w.alloc (.cells #[] e))) : (execOp a.eval o).run P w = .ok (.value (.slice (some ⟨w.heap.size, 0, none⟩) 0 0)) (w.alloc (.cells #[] e)) := by
  unfold execOp
  rw [ho]
  simp only [List.map_toArray, List.map_nil]
  rw [Sem.run_bind, h]
  rfl
theorem bs0_s (w : World) : (Instr.buildSlice 23 0 #[]).run Tryz.prog w = .ok (.slice (some ⟨w.heap.size, 0, none⟩) 0 0) (w.alloc (.cells #[] 9)) := by kernel_rfl
theorem bs0_i (w : World) : (Instr.buildSlice 24 0 #[]).run Tryz.prog w = .ok (.slice (some ⟨w.heap.size, 0, none⟩) 0 0) (w.alloc (.cells #[] 26)) := by kernel_rfl
theorem app_none {P : Program} (w : World) (t ty e : TypeId) (i : TypeInfo) (ht : P.underlying t = some (.slice e)) (hi : P.info? e = some i) (g c : Nat) : (Builtin.append_ #[t, t] ty #[.slice (some ⟨g, 0, none⟩) 0 0, .slice none 0 c]).run P w = .ok (.slice (some ⟨g, 0, none⟩) 0 0) w := by
  simp [Builtin.append_, run_underlying ht, sizeOf, typeInfo, hi, Builtin.lenOf, Builtin.firstCells, storeCells]
theorem app_S (w : World) (base g : Nat) (sv : Value) (l : List ByteArray) (ty : TypeId) (ho : w.ownsRow base 9 1 (.slice (some ⟨g, 0, none⟩) 0 0) 0 []) (hr : SRow w sv l) (hl : l.length ≤ 1000000) (hb : base ≤ w.heap.size) :
    ∃ v' w', (Builtin.append_ #[23, 23] ty #[.slice (some ⟨g, 0, none⟩) 0 0, sv]).run Tryz.prog w = .ok v' w' ∧ w'.ownsRow base 9 1 v' l.length (l.map Value.string) ∧ w.grownBy w' (some g) := by
  obtain ⟨i0, hi0, hz0, hz1, hz2⟩ := info_parts infoS
  obtain ⟨a, c, rfl, hc, r⟩ := hr
  cases a with
  | none =>
    have h0 : l = [] := by
      cases l with
      | nil => rfl
      | cons x y => obtain ⟨b, off, e, _⟩ := r (by simp); cases e
    subst h0
    exact ⟨_, _, app_none w 23 ty 9 i0 Tryz.underlying23 hi0 g c, ho, ⟨rfl, rfl, rfl, Nat.le_refl _, fun k _ _ => rfl⟩⟩
  | some ad =>
    obtain ⟨v', w', h1, h2, h3, _⟩ := run_append_own (P := Tryz.prog) w base 23 ty 9 i0 (.string ⟨#[]⟩) 1 16 Tryz.underlying23 hi0 hz0 hz1 hz2 rfl (by decide) _ 0 [] ho ad l.length c (l.map Value.string) (by simp) (fun j u hu => by
      have hne : l ≠ [] := fun e => by subst e; cases hu
      obtain ⟨b, off, e, hb, hcell⟩ := r hne
      cases e
      exact SRow.cells hcell j u hu) (fun u hu => by obtain ⟨y, _, rfl⟩ := List.mem_map.1 hu; rfl) (by unfold maxLen; omega) (by omega) hb
    rw [Nat.zero_add, List.nil_append] at h2
    exact ⟨v', w', h1, h2, h3⟩
theorem app_I (w : World) (base g : Nat) (sv : Value) (l : List (List Nat)) (ty : TypeId) (ho : w.ownsRow base 26 32 (.slice (some ⟨g, 0, none⟩) 0 0) 0 []) (hr : IRow w sv l) (hok : ∀ x ∈ l, IdOk x) (hl : l.length ≤ 1000000) (hb : base ≤ w.heap.size) :
    ∃ v' w', (Builtin.append_ #[24, 24] ty #[.slice (some ⟨g, 0, none⟩) 0 0, sv]).run Tryz.prog w = .ok v' w' ∧ w'.ownsRow base 26 32 v' l.length (idCells l) ∧ w.grownBy w' (some g) := by
  obtain ⟨i0, hi0, hz0, hz1, hz2⟩ := info_parts infoI32
  obtain ⟨a, c, rfl, hc, r⟩ := hr
  cases a with
  | none =>
    have h0 : l = [] := by
      cases l with
      | nil => rfl
      | cons x y => obtain ⟨b, off, e, _⟩ := r (by simp); cases e
    subst h0
    exact ⟨_, _, app_none w 24 ty 26 i0 Tryz.underlying24 hi0 g c, ho, ⟨rfl, rfl, rfl, Nat.le_refl _, fun k _ _ => rfl⟩⟩
  | some ad =>
    obtain ⟨v', w', h1, h2, h3, _⟩ := run_append_own (P := Tryz.prog) w base 24 ty 26 i0 (.agg (idA zero32)) 32 32 Tryz.underlying24 hi0 hz0 hz1 hz2 rfl (by decide) _ 0 [] ho ad l.length c (idCells l) (idCells_len l hok) (fun j u hu => by
      have hne : l ≠ [] := fun e => by subst e; cases hu
      obtain ⟨b, off, e, hb, hcell⟩ := r hne
      cases e
      exact IRow.cells (n := 0) (c := 0) hok hcell j u hu) (idCells_one l) (by unfold maxLen; omega) (by omega) hb
    rw [Nat.zero_add, List.nil_append] at h2
    exact ⟨v', w', h1, h2, h3⟩
theorem build_cn1 (w : World) (nm su ct di bo : ByteArray) (da nu he le : Int) (ga ra : Option Addr) (gn gc rn rc : Nat) : ∀ (au sp ro : List Value), au.length = 16 → sp.length = 32 → ro.length = 16 →
    (Instr.build 37 #[(0, .string nm), (1, .agg au.toArray), (2, .int .i64 da), (3, .slice ga gn gc), (4, .string su), (5, .slice ra rn rc), (6, .agg sp.toArray), (7, .string ct), (8, .string di), (9, .int .i64 nu), (10, .agg (Value.int .i64 he :: ro).toArray), (11, .int .i64 le), (12, .string bo)]).run Tryz.prog w =
      .ok (.agg (([Value.string nm] : List Value) ++ (au ++ (([.int .i64 da, .slice ga gn gc, .string su, .slice ra rn rc] : List Value) ++ (sp ++ (([.string ct, .string di, .int .i64 nu, .int .i64 he] : List Value) ++ (ro ++ ([.int .i64 le, .string bo] : List Value))))))).toArray) w
  | [a0, a1, a2, a3, a4, a5, a6, a7, a8, a9, a10, a11, a12, a13, a14, a15], [s0, s1, s2, s3, s4, s5, s6, s7, s8, s9, s10, s11, s12, s13, s14, s15, s16, s17, s18, s19, s20, s21, s22, s23, s24, s25, s26, s27, s28, s29, s30, s31], [r0, r1, r2, r3, r4, r5, r6, r7, r8, r9, r10, r11, r12, r13, r14, r15], _, _, _ => by kernel_rfl
theorem own_apart {w : World} {base1 base2 e1 e2 s1 s2 n1 n2 g c : Nat} {v : Value} {xs ys : List Value} (h1 : w.ownsRow base1 e1 s1 v n1 xs) (h2 : w.ownsRow base2 e2 s2 (.slice (some ⟨g, 0, none⟩) n2 c) n2 ys) (hne : e1 ≠ e2) : v.ownBlock = none ∨ v.ownBlock ≠ some g := by
  rcases h1.2 with ⟨rfl, _⟩ | ⟨g1, c1, cur1, rfl, _, hg1, _⟩
  · exact .inl rfl
  · refine .inr (fun e => ?_)
    simp [Value.ownBlock] at e
    subst e
    rcases h2.2 with ⟨e, _⟩ | ⟨g2, c2, cur2, e, _, hg2, _⟩
    · cases e
    · cases e
      rw [hg1] at hg2
      cases hg2
      exact hne rfl
theorem build_pkO (w : World) (h : Int) {r : List Nat} (hr : r.length = 16) : (Instr.build 35 #[(0, .int .i64 h), (1, .agg (idA r))]).run Tryz.prog w = .ok (.agg (pkC h r)) w := build_pk w h r hr
theorem build_cnC (w : World) (c : Cn) (ok : c.Ok) (ga ra : Option Addr) (gn gc rn rc : Nat) :
    (Instr.build 37 #[(0, .string c.name), (1, .agg (idA c.author)), (2, .int .i64 c.date), (3, .slice ga gn gc), (4, .string c.subject), (5, .slice ra rn rc), (6, .agg (idA c.sup)), (7, .string c.ctl), (8, .string c.dist), (9, .int .i64 c.number), (10, .agg (pkC c.height c.root)), (11, .int .i64 c.leaf), (12, .string c.body)]).run Tryz.prog w = .ok (.agg (c.cells (.slice ga gn gc) (.slice ra rn rc))) w :=
  build_cn1 w c.name c.subject c.ctl c.dist c.body c.date c.number c.height c.leaf ga ra gn gc rn rc (c.author.map U) (c.sup.map U) (c.root.map U) (by simp [ok.author.len]) (by simp [ok.sup.len]) (by simp [ok.root.len])
set_option maxHeartbeats 4000000 in
theorem own_any (w : World) (c : Cn) (gv rv : Value) (hin : CnIn w c gv rv) :
    Calls Tryz.prog 10 #[.agg (c.cells gv rv)] w (CloP c w) := by
  obtain ⟨zs, hzs⟩ : ∃ zs, zs = cn0.cells (.slice none 0 0) (.slice none 0 0) := ⟨_, rfl⟩
  have Z0 : Hid (zs = Tryz.zeroCells37) := Lib.hid (by rw [hzs]; exact cn0_cells)
  obtain ⟨w0, hw0⟩ : ∃ w0, w0 = (w.alloc (.cells (c.cells gv rv) 28)).alloc (.cells zs 37) := ⟨_, rfl⟩
  have B0 : Hid (Below w.heap.size w w0) := Lib.hid (by rw [hw0]; exact ((Below.refl _ _).alloc (Nat.le_refl _) _).alloc (by simp) _)
  have CX : Hid (∀ wx, Below w0.heap.size w0 wx → CB wx w.heap.size c gv rv 28) := Lib.hid (fun wx hb => by
    have : CB w0 w.heap.size c gv rv 28 := by unfold CB; rw [hw0]; exact alloc_block (heap_alloc_last w _)
    exact this.on hb)
  have RX : Hid (∀ wx, Below w0.heap.size w0 wx → CB wx (w.heap.size + 1) cn0 (.slice none 0 0) (.slice none 0 0) 37) := Lib.hid (fun wx hb => by
    have : CB w0 (w.heap.size + 1) cn0 (.slice none 0 0) (.slice none 0 0) 37 := by
      unfold CB; rw [hw0, ← hzs]; have := heap_alloc_last (w.alloc (.cells (c.cells gv rv) 28)) (.cells zs 37); rw [World.size_alloc] at this; exact this
    exact this.on hb)
  have SZ0 : Hid (w0.heap.size = w.heap.size + 2) := Lib.hid (by rw [hw0]; simp)
  have OK := Lib.hid hin.ok; have HIN := Lib.hid hin
  obtain ⟨au, hau⟩ : ∃ s, s = idA c.author := ⟨_, rfl⟩
  obtain ⟨sp, hsp⟩ : ∃ s, s = idA c.sup := ⟨_, rfl⟩
  obtain ⟨ro, hro⟩ : ∃ s, s = idA c.root := ⟨_, rfl⟩
  obtain ⟨pk, hpk⟩ : ∃ s, s = pkC c.height c.root := ⟨_, rfl⟩
  have LDA : Hid (∀ wx, CB wx w.heap.size c gv rv 28 → (loadVar 22 ⟨w.heap.size, 1, none⟩).run Tryz.prog wx = .ok (.agg au) wx) := Lib.hid (fun wx h => by rw [hau]; exact CB.author16 h OK.out)
  have LDS : Hid (∀ wx, CB wx w.heap.size c gv rv 28 → (loadVar 26 ⟨w.heap.size, 21, none⟩).run Tryz.prog wx = .ok (.agg sp) wx) := Lib.hid (fun wx h => by rw [hsp]; exact CB.sup h OK.out)
  have LDR : Hid (∀ wx, CB wx w.heap.size c gv rv 28 → (loadVar 22 ⟨w.heap.size, 57, none⟩).run Tryz.prog wx = .ok (.agg ro) wx) := Lib.hid (fun wx h => by rw [hro]; exact CB.root16 h OK.out)
  have BPK : Hid (∀ w, (Instr.build 35 #[(0, .int .i64 c.height), (1, .agg ro)]).run Tryz.prog w = .ok (.agg pk) w) := Lib.hid (fun w => by rw [hro, hpk]; exact build_pkO w c.height OK.out.root.len)
  have BCN : Hid (∀ w ga gn gc ra rn rc, (Instr.build 37 #[(0, .string c.name), (1, .agg au), (2, .int .i64 c.date), (3, .slice ga gn gc), (4, .string c.subject), (5, .slice ra rn rc), (6, .agg sp), (7, .string c.ctl), (8, .string c.dist), (9, .int .i64 c.number), (10, .agg pk), (11, .int .i64 c.leaf), (12, .string c.body)]).run Tryz.prog w = .ok (.agg (c.cells (.slice ga gn gc) (.slice ra rn rc))) w) := Lib.hid (fun w ga gn gc ra rn rc => by rw [hau, hsp, hpk]; exact build_cnC w c OK.out ga ra gn gc rn rc)
  have SR : Hid (∀ wx, Below w0.heap.size w0 wx → SRow wx gv c.groups) := Lib.hid (fun wx hb => HIN.out.srow.below (B0.out.trans (hb.mono B0.out.size)))
  have IR : Hid (∀ wx, Below w0.heap.size w0 wx → IRow wx rv c.refs) := Lib.hid (fun wx hb => HIN.out.irow.below (B0.out.trans (hb.mono B0.out.size)))
  obtain ⟨cs, hcs⟩ : ∃ cs, cs = c.cells gv rv := ⟨_, rfl⟩
  rw [← hcs] at hw0 ⊢
  have HW := Lib.hid hw0
  clear hw0 hzs hcs hin hau hsp hro hpk
  go_enter Tryz.func10, Tryz.ntmps10
  go_upto_region 1 with fail
  have W' := HW.out
  rw [Z0.out] at W'
  rw [← W']
  clear W' HW
  refine wp_region_held (S := fun wx => CB wx w.heap.size c gv rv 28) (by kernel_rfl) ?_
  change wpAnyH _ _ _ _ _ _ _ _ w0.drew
  obtain ⟨wd, hwd⟩ : ∃ wd, wd = w0.drew := ⟨_, rfl⟩
  rw [← hwd]
  have BD0 : Hid (Below w0.heap.size w0 wd) := Lib.hid (by rw [hwd]; exact (Below.refl _ _).drew)
  clear hwd
  have hB : (fun wx : World => CB wx w.heap.size c gv rv 28) wd := CX.out wd BD0.out
  refine takeV 0 (.pointer (some ⟨w.heap.size, 0, none⟩)) rfl (fun _ _ => by go_simp) hB ?_
  refine takeV 1 (.string c.name) rfl (fun w' hw' => by have cl := hw'.at (cn_0 c gv rv); go_simp) hB ?_
  refine takeV 2 (.pointer (some ⟨w.heap.size, 1, none⟩)) rfl (fun _ _ => by go_simp) hB ?_
  refine takeV 3 (.agg au) rfl (fun w' hw' => exec_load (ty := 22) (x := .tmp 5) (ad := ⟨w.heap.size, 1, none⟩) rfl (by kernel_rfl) (LDA.out w' hw')) hB ?_
  refine takeV 4 (.pointer (some ⟨w.heap.size, 17, none⟩)) rfl (fun _ _ => by go_simp) hB ?_
  refine takeV 5 (.int .i64 c.date) rfl (fun w' hw' => by have cl := hw'.at (cn_17 OK.out gv rv); go_simp) hB ?_
  refine takeV 7 (.pointer (some ⟨w.heap.size, 18, none⟩)) rfl (fun _ _ => by go_simp) hB ?_
  refine takeV 8 (gv) rfl (fun w' hw' => by have cl := hw'.at (cn_18 OK.out gv rv); go_simp) hB ?_
  refine takeV 10 (.pointer (some ⟨w.heap.size, 19, none⟩)) rfl (fun _ _ => by go_simp) hB ?_
  refine takeV 11 (.string c.subject) rfl (fun w' hw' => by have cl := hw'.at (cn_19 OK.out gv rv); go_simp) hB ?_
  refine takeV 13 (.pointer (some ⟨w.heap.size, 20, none⟩)) rfl (fun _ _ => by go_simp) hB ?_
  refine takeV 14 (rv) rfl (fun w' hw' => by have cl := hw'.at (cn_20 OK.out gv rv); go_simp) hB ?_
  refine takeV 16 (.pointer (some ⟨w.heap.size, 21, none⟩)) rfl (fun _ _ => by go_simp) hB ?_
  refine takeV 17 (.agg sp) rfl (fun w' hw' => exec_load (ty := 26) (x := .tmp 19) (ad := ⟨w.heap.size, 21, none⟩) rfl (by kernel_rfl) (LDS.out w' hw')) hB ?_
  refine takeV 18 (.pointer (some ⟨w.heap.size, 53, none⟩)) rfl (fun _ _ => by go_simp) hB ?_
  refine takeV 19 (.string c.ctl) rfl (fun w' hw' => by have cl := hw'.at (cn_53 OK.out gv rv); go_simp) hB ?_
  refine takeV 20 (.pointer (some ⟨w.heap.size, 54, none⟩)) rfl (fun _ _ => by go_simp) hB ?_
  refine takeV 21 (.string c.dist) rfl (fun w' hw' => by have cl := hw'.at (cn_54 OK.out gv rv); go_simp) hB ?_
  refine takeV 22 (.pointer (some ⟨w.heap.size, 55, none⟩)) rfl (fun _ _ => by go_simp) hB ?_
  refine takeV 23 (.int .i64 c.number) rfl (fun w' hw' => by have cl := hw'.at (cn_55 OK.out gv rv); go_simp) hB ?_
  refine takeV 24 (.pointer (some ⟨w.heap.size, 56, none⟩)) rfl (fun _ _ => by go_simp) hB ?_
  refine takeV 25 (.int .i64 c.height) rfl (fun w' hw' => by have cl := hw'.at (cn_56 OK.out gv rv); go_simp) hB ?_
  refine takeV 26 (.pointer (some ⟨w.heap.size, 57, none⟩)) rfl (fun _ _ => by go_simp) hB ?_
  refine takeV 27 (.agg ro) rfl (fun w' hw' => exec_load (ty := 22) (x := .tmp 29) (ad := ⟨w.heap.size, 57, none⟩) rfl (by kernel_rfl) (LDR.out w' hw')) hB ?_
  refine takeV 28 (.agg pk) rfl (fun w' hw' => exec_buildM rfl (by kernel_rfl) (BPK.out w')) hB ?_
  refine takeV 29 (.pointer (some ⟨w.heap.size, 73, none⟩)) rfl (fun _ _ => by go_simp) hB ?_
  refine takeV 30 (.int .i64 c.leaf) rfl (fun w' hw' => by have cl := hw'.at (cn_73 OK.out gv rv); go_simp) hB ?_
  refine takeV 31 (.pointer (some ⟨w.heap.size, 74, none⟩)) rfl (fun _ _ => by go_simp) hB ?_
  refine takeV 32 (.string c.body) rfl (fun w' hw' => by have cl := hw'.at (cn_74 OK.out gv rv); go_simp) hB ?_
  refine anyH_two (i := 6) (k := 12) (by kernel_rfl) ?_ ?_
  · skip
    refine any_valW rfl rfl (exec_bs0 wd rfl (bs0_s wd)) ?_
    obtain ⟨y1, hy1⟩ : ∃ x, x = wd.alloc (.cells #[] 9) := ⟨_, rfl⟩
    rw [← hy1]
    have By1 : Hid (Below w0.heap.size w0 y1) := Lib.hid (by rw [hy1]; exact BD0.out.alloc BD0.out.size _)
    have Os : Hid (y1.ownsRow w0.heap.size 9 1 (.slice (some ⟨wd.heap.size, 0, none⟩) 0 0) 0 []) := Lib.hid (by rw [hy1]; exact own_empty wd w0.heap.size 9 1 BD0.out.size)
    obtain ⟨gs, hgs⟩ : ∃ g, g = wd.heap.size := ⟨_, rfl⟩
    rw [← hgs] at Os ⊢
    clear hy1 hgs
    refine ⟨CX.out y1 By1.out, ?_⟩
    refine anyH_two (i := 9) (k := 12) (by kernel_rfl) ?_ ?_
    · skip
      obtain ⟨gv', y2, hap, how, hgr⟩ := app_S y1 w0.heap.size gs gv c.groups 23 Os.out (SR.out y1 By1.out) HIN.out.gl By1.out.size
      refine any_valW rfl rfl (exec_append (s := .tmp 9) (x := .tmp 11) (t := 23) (v := .slice (some ⟨gs, 0, none⟩) 0 0) (u := gv) rfl (by kernel_rfl) (by kernel_rfl) hap) ?_
      have By2 : Hid (Below w0.heap.size w0 y2) := Lib.hid (Below.grown By1.out hgr By1.out.size (fun k hk => by cases hk; exact (Os.out.lt gs rfl).1))
      have OS := Lib.hid how
      clear hap how hgr
      refine ⟨CX.out y2 By2.out, ?_⟩
      refine anyH_one (i := 12) (by kernel_rfl) ?_
      refine any_valW rfl rfl (exec_bs0 y2 rfl (bs0_i y2)) ?_
      obtain ⟨y3, hy3⟩ : ∃ x, x = y2.alloc (.cells #[] 26) := ⟨_, rfl⟩
      rw [← hy3]
      have By3 : Hid (Below w0.heap.size w0 y3) := Lib.hid (by rw [hy3]; exact By2.out.alloc By2.out.size _)
      have Oi : Hid (y3.ownsRow w0.heap.size 26 32 (.slice (some ⟨y2.heap.size, 0, none⟩) 0 0) 0 []) := Lib.hid (by rw [hy3]; exact own_empty y2 w0.heap.size 26 32 By2.out.size)
      replace OS := Lib.hid (show y3.ownsRow _ _ _ _ _ _ by rw [hy3]; exact OS.out.alloc _)
      obtain ⟨gi, hgi⟩ : ∃ g, g = y2.heap.size := ⟨_, rfl⟩
      rw [← hgi] at Oi ⊢
      clear hy3 hgi
      refine ⟨CX.out y3 By3.out, ?_⟩
      refine anyH_one (i := 15) (by kernel_rfl) ?_
      obtain ⟨rv', y4, hap, how, hgr⟩ := app_I y3 w0.heap.size gi rv c.refs 24 Oi.out (IR.out y3 By3.out) OK.out.refs HIN.out.rl By3.out.size
      refine any_valW rfl rfl (exec_append (s := .tmp 15) (x := .tmp 17) (t := 24) (v := .slice (some ⟨gi, 0, none⟩) 0 0) (u := rv) rfl (by kernel_rfl) (by kernel_rfl) hap) ?_
      have By4 : Hid (Below w0.heap.size w0 y4) := Lib.hid (Below.grown By3.out hgr By3.out.size (fun k hk => by cases hk; exact (Oi.out.lt gi rfl).1))
      replace OS := Lib.hid (OS.out.kept hgr (own_apart OS.out Oi.out (by decide)))
      have OI := Lib.hid how
      clear hap how hgr
      refine ⟨CX.out y4 By4.out, ?_⟩
      obtain ⟨ga, gn, gc, rfl⟩ := own_slice OS.out
      obtain ⟨ra, rn, rc, rfl⟩ := own_slice OI.out
      have hB := CX.out y4 By4.out
      refine takeV 33 (.agg (c.cells (.slice ga gn gc) (.slice ra rn rc))) rfl (fun w' hw' => exec_buildM rfl (by kernel_rfl) (BCN.out w' ga gn gc ra rn rc)) hB ?_
      refine anyH_one (i := 34) (by kernel_rfl) ?_
      have R4 := RX.out y4 By4.out
      have STR := Lib.hid (run_storeVar_row (P := Tryz.prog) y4 (w.heap.size + 1) _ 37 _ (c.cells (.slice ga gn gc) (.slice ra rn rc)) R4 (by rw [cn_size OK.out]; exact size_cn) (by rw [cn_size OK.out, cn_size cn0_ok]) (cells_one c _ _ rfl rfl))
      have W5 := Lib.hid (setRow_heap y4 (w.heap.size + 1) _ (c.cells (.slice ga gn gc) (.slice ra rn rc)) _ _ R4)
      have BW := B0.out.trans (By4.out.mono B0.out.size)
      have FIN : Hid (CloP c w (.returned (.agg (c.cells (.slice ga gn gc) (.slice ra rn rc)))) (y4.setRow (w.heap.size + 1) (c.cells (.slice ga gn gc) (.slice ra rn rc)))) := Lib.hid
        ⟨_, _, rfl, owns_base (owns_fr1 OS.out (fr1_row _ (w.heap.size + 1) _) (by rw [SZ0.out]; omega)) (by rw [SZ0.out]; omega), owns_base (owns_fr1 OI.out (fr1_row _ (w.heap.size + 1) _) (by rw [SZ0.out]; omega)) (by rw [SZ0.out]; omega), below_setRow BW (Nat.le_succ _) _⟩
      have SZ : Hid ((Tryz.prog.info? 37).map (·.size) = some (c.cells (.slice ga gn gc) (.slice ra rn rc)).size) := Lib.hid (by rw [cn_size OK.out]; exact size_cn)
      have CN : CB (y4.setRow (w.heap.size + 1) (c.cells (.slice ga gn gc) (.slice ra rn rc))) w.heap.size c gv rv 28 := (setRow_other y4 (w.heap.size + 1) w.heap.size _ (by omega)).trans hB
      have HCN := Lib.hid CN
      refine any_skip rfl rfl (exec_store (t := 37) (x := .tmp 2) (y := .tmp 36) (ad := ⟨w.heap.size + 1, 0, none⟩) (u := .agg (c.cells (.slice ga gn gc) (.slice ra rn rc))) rfl (by kernel_rfl) (by kernel_rfl) STR.out) ?_
      refine ⟨HCN.out, ?_⟩
      refine wpAnyH_done (by kernel_rfl) ?_ _
      clear R4 BW CN hB
      obtain ⟨ds, hds⟩ : ∃ ds, ds = c.cells (.slice ga gn gc) (.slice ra rn rc) := ⟨_, rfl⟩
      rw [← hds] at W5 FIN SZ STR HCN ⊢
      clear hds
      go_simp
      refine ‹∀ (a : Act) (w_1 : World), _ → _› _ _ ?_
      go_wp2_with fail
      exact bodyPost_ret (results_cell_row Tryz.results10 _ _ (w.heap.size + 1) _ _ _ _ rfl W5.out Tryz.underlying37 rfl SZ.out) rfl FIN.out
    · skip
      refine any_valW rfl rfl (exec_bs0 y1 rfl (bs0_i y1)) ?_
      obtain ⟨y5, hy5⟩ : ∃ x, x = y1.alloc (.cells #[] 26) := ⟨_, rfl⟩
      rw [← hy5]
      have By5 : Hid (Below w0.heap.size w0 y5) := Lib.hid (by rw [hy5]; exact By1.out.alloc By1.out.size _)
      have Oi : Hid (y5.ownsRow w0.heap.size 26 32 (.slice (some ⟨y1.heap.size, 0, none⟩) 0 0) 0 []) := Lib.hid (by rw [hy5]; exact own_empty y1 w0.heap.size 26 32 By1.out.size)
      replace Os := Lib.hid (show y5.ownsRow _ _ _ _ _ _ by rw [hy5]; exact Os.out.alloc _)
      obtain ⟨gi, hgi⟩ : ∃ g, g = y1.heap.size := ⟨_, rfl⟩
      rw [← hgi] at Oi ⊢
      clear hy5 hgi
      refine ⟨CX.out y5 By5.out, ?_⟩
      refine anyH_one (i := 9) (by kernel_rfl) ?_
      obtain ⟨gv', y6, hap, how, hgr⟩ := app_S y5 w0.heap.size gs gv c.groups 23 Os.out (SR.out y5 By5.out) HIN.out.gl By5.out.size
      refine any_valW rfl rfl (exec_append (s := .tmp 9) (x := .tmp 11) (t := 23) (v := .slice (some ⟨gs, 0, none⟩) 0 0) (u := gv) rfl (by kernel_rfl) (by kernel_rfl) hap) ?_
      have By6 : Hid (Below w0.heap.size w0 y6) := Lib.hid (Below.grown By5.out hgr By5.out.size (fun k hk => by cases hk; exact (Os.out.lt gs rfl).1))
      replace Oi := Lib.hid (Oi.out.kept hgr (own_apart Oi.out Os.out (by decide)))
      have OS := Lib.hid how
      clear hap how hgr
      refine ⟨CX.out y6 By6.out, ?_⟩
      refine anyH_one (i := 15) (by kernel_rfl) ?_
      obtain ⟨rv', y7, hap, how, hgr⟩ := app_I y6 w0.heap.size gi rv c.refs 24 Oi.out (IR.out y6 By6.out) OK.out.refs HIN.out.rl By6.out.size
      refine any_valW rfl rfl (exec_append (s := .tmp 15) (x := .tmp 17) (t := 24) (v := .slice (some ⟨gi, 0, none⟩) 0 0) (u := rv) rfl (by kernel_rfl) (by kernel_rfl) hap) ?_
      have By7 : Hid (Below w0.heap.size w0 y7) := Lib.hid (Below.grown By6.out hgr By6.out.size (fun k hk => by cases hk; exact (Oi.out.lt gi rfl).1))
      replace OS := Lib.hid (OS.out.kept hgr (own_apart OS.out Oi.out (by decide)))
      have OI := Lib.hid how
      clear hap how hgr
      refine ⟨CX.out y7 By7.out, ?_⟩
      obtain ⟨ga, gn, gc, rfl⟩ := own_slice OS.out
      obtain ⟨ra, rn, rc, rfl⟩ := own_slice OI.out
      have hB := CX.out y7 By7.out
      refine takeV 33 (.agg (c.cells (.slice ga gn gc) (.slice ra rn rc))) rfl (fun w' hw' => exec_buildM rfl (by kernel_rfl) (BCN.out w' ga gn gc ra rn rc)) hB ?_
      refine anyH_one (i := 34) (by kernel_rfl) ?_
      have R4 := RX.out y7 By7.out
      have STR := Lib.hid (run_storeVar_row (P := Tryz.prog) y7 (w.heap.size + 1) _ 37 _ (c.cells (.slice ga gn gc) (.slice ra rn rc)) R4 (by rw [cn_size OK.out]; exact size_cn) (by rw [cn_size OK.out, cn_size cn0_ok]) (cells_one c _ _ rfl rfl))
      have W5 := Lib.hid (setRow_heap y7 (w.heap.size + 1) _ (c.cells (.slice ga gn gc) (.slice ra rn rc)) _ _ R4)
      have BW := B0.out.trans (By7.out.mono B0.out.size)
      have FIN : Hid (CloP c w (.returned (.agg (c.cells (.slice ga gn gc) (.slice ra rn rc)))) (y7.setRow (w.heap.size + 1) (c.cells (.slice ga gn gc) (.slice ra rn rc)))) := Lib.hid
        ⟨_, _, rfl, owns_base (owns_fr1 OS.out (fr1_row _ (w.heap.size + 1) _) (by rw [SZ0.out]; omega)) (by rw [SZ0.out]; omega), owns_base (owns_fr1 OI.out (fr1_row _ (w.heap.size + 1) _) (by rw [SZ0.out]; omega)) (by rw [SZ0.out]; omega), below_setRow BW (Nat.le_succ _) _⟩
      have SZ : Hid ((Tryz.prog.info? 37).map (·.size) = some (c.cells (.slice ga gn gc) (.slice ra rn rc)).size) := Lib.hid (by rw [cn_size OK.out]; exact size_cn)
      have CN : CB (y7.setRow (w.heap.size + 1) (c.cells (.slice ga gn gc) (.slice ra rn rc))) w.heap.size c gv rv 28 := (setRow_other y7 (w.heap.size + 1) w.heap.size _ (by omega)).trans hB
      have HCN := Lib.hid CN
      refine any_skip rfl rfl (exec_store (t := 37) (x := .tmp 2) (y := .tmp 36) (ad := ⟨w.heap.size + 1, 0, none⟩) (u := .agg (c.cells (.slice ga gn gc) (.slice ra rn rc))) rfl (by kernel_rfl) (by kernel_rfl) STR.out) ?_
      refine ⟨HCN.out, ?_⟩
      refine wpAnyH_done (by kernel_rfl) ?_ _
      clear R4 BW CN hB
      obtain ⟨ds, hds⟩ : ∃ ds, ds = c.cells (.slice ga gn gc) (.slice ra rn rc) := ⟨_, rfl⟩
      rw [← hds] at W5 FIN SZ STR HCN ⊢
      clear hds
      go_simp
      refine ‹∀ (a : Act) (w_1 : World), _ → _› _ _ ?_
      go_wp2_with fail
      exact bodyPost_ret (results_cell_row Tryz.results10 _ _ (w.heap.size + 1) _ _ _ _ rfl W5.out Tryz.underlying37 rfl SZ.out) rfl FIN.out
  · skip
    refine any_valW rfl rfl (exec_bs0 wd rfl (bs0_i wd)) ?_
    obtain ⟨y8, hy8⟩ : ∃ x, x = wd.alloc (.cells #[] 26) := ⟨_, rfl⟩
    rw [← hy8]
    have By8 : Hid (Below w0.heap.size w0 y8) := Lib.hid (by rw [hy8]; exact BD0.out.alloc BD0.out.size _)
    have Oi : Hid (y8.ownsRow w0.heap.size 26 32 (.slice (some ⟨wd.heap.size, 0, none⟩) 0 0) 0 []) := Lib.hid (by rw [hy8]; exact own_empty wd w0.heap.size 26 32 BD0.out.size)
    obtain ⟨gi, hgi⟩ : ∃ g, g = wd.heap.size := ⟨_, rfl⟩
    rw [← hgi] at Oi ⊢
    clear hy8 hgi
    refine ⟨CX.out y8 By8.out, ?_⟩
    refine anyH_one (i := 6) (by kernel_rfl) ?_
    refine any_valW rfl rfl (exec_bs0 y8 rfl (bs0_s y8)) ?_
    obtain ⟨y9, hy9⟩ : ∃ x, x = y8.alloc (.cells #[] 9) := ⟨_, rfl⟩
    rw [← hy9]
    have By9 : Hid (Below w0.heap.size w0 y9) := Lib.hid (by rw [hy9]; exact By8.out.alloc By8.out.size _)
    have Os : Hid (y9.ownsRow w0.heap.size 9 1 (.slice (some ⟨y8.heap.size, 0, none⟩) 0 0) 0 []) := Lib.hid (by rw [hy9]; exact own_empty y8 w0.heap.size 9 1 By8.out.size)
    replace Oi := Lib.hid (show y9.ownsRow _ _ _ _ _ _ by rw [hy9]; exact Oi.out.alloc _)
    obtain ⟨gs, hgs⟩ : ∃ g, g = y8.heap.size := ⟨_, rfl⟩
    rw [← hgs] at Os ⊢
    clear hy9 hgs
    refine ⟨CX.out y9 By9.out, ?_⟩
    refine anyH_one (i := 9) (by kernel_rfl) ?_
    obtain ⟨gv', y10, hap, how, hgr⟩ := app_S y9 w0.heap.size gs gv c.groups 23 Os.out (SR.out y9 By9.out) HIN.out.gl By9.out.size
    refine any_valW rfl rfl (exec_append (s := .tmp 9) (x := .tmp 11) (t := 23) (v := .slice (some ⟨gs, 0, none⟩) 0 0) (u := gv) rfl (by kernel_rfl) (by kernel_rfl) hap) ?_
    have By10 : Hid (Below w0.heap.size w0 y10) := Lib.hid (Below.grown By9.out hgr By9.out.size (fun k hk => by cases hk; exact (Os.out.lt gs rfl).1))
    replace Oi := Lib.hid (Oi.out.kept hgr (own_apart Oi.out Os.out (by decide)))
    have OS := Lib.hid how
    clear hap how hgr
    refine ⟨CX.out y10 By10.out, ?_⟩
    refine anyH_one (i := 15) (by kernel_rfl) ?_
    obtain ⟨rv', y11, hap, how, hgr⟩ := app_I y10 w0.heap.size gi rv c.refs 24 Oi.out (IR.out y10 By10.out) OK.out.refs HIN.out.rl By10.out.size
    refine any_valW rfl rfl (exec_append (s := .tmp 15) (x := .tmp 17) (t := 24) (v := .slice (some ⟨gi, 0, none⟩) 0 0) (u := rv) rfl (by kernel_rfl) (by kernel_rfl) hap) ?_
    have By11 : Hid (Below w0.heap.size w0 y11) := Lib.hid (Below.grown By10.out hgr By10.out.size (fun k hk => by cases hk; exact (Oi.out.lt gi rfl).1))
    replace OS := Lib.hid (OS.out.kept hgr (own_apart OS.out Oi.out (by decide)))
    have OI := Lib.hid how
    clear hap how hgr
    refine ⟨CX.out y11 By11.out, ?_⟩
    obtain ⟨ga, gn, gc, rfl⟩ := own_slice OS.out
    obtain ⟨ra, rn, rc, rfl⟩ := own_slice OI.out
    have hB := CX.out y11 By11.out
    refine takeV 33 (.agg (c.cells (.slice ga gn gc) (.slice ra rn rc))) rfl (fun w' hw' => exec_buildM rfl (by kernel_rfl) (BCN.out w' ga gn gc ra rn rc)) hB ?_
    refine anyH_one (i := 34) (by kernel_rfl) ?_
    have R4 := RX.out y11 By11.out
    have STR := Lib.hid (run_storeVar_row (P := Tryz.prog) y11 (w.heap.size + 1) _ 37 _ (c.cells (.slice ga gn gc) (.slice ra rn rc)) R4 (by rw [cn_size OK.out]; exact size_cn) (by rw [cn_size OK.out, cn_size cn0_ok]) (cells_one c _ _ rfl rfl))
    have W5 := Lib.hid (setRow_heap y11 (w.heap.size + 1) _ (c.cells (.slice ga gn gc) (.slice ra rn rc)) _ _ R4)
    have BW := B0.out.trans (By11.out.mono B0.out.size)
    have FIN : Hid (CloP c w (.returned (.agg (c.cells (.slice ga gn gc) (.slice ra rn rc)))) (y11.setRow (w.heap.size + 1) (c.cells (.slice ga gn gc) (.slice ra rn rc)))) := Lib.hid
      ⟨_, _, rfl, owns_base (owns_fr1 OS.out (fr1_row _ (w.heap.size + 1) _) (by rw [SZ0.out]; omega)) (by rw [SZ0.out]; omega), owns_base (owns_fr1 OI.out (fr1_row _ (w.heap.size + 1) _) (by rw [SZ0.out]; omega)) (by rw [SZ0.out]; omega), below_setRow BW (Nat.le_succ _) _⟩
    have SZ : Hid ((Tryz.prog.info? 37).map (·.size) = some (c.cells (.slice ga gn gc) (.slice ra rn rc)).size) := Lib.hid (by rw [cn_size OK.out]; exact size_cn)
    have CN : CB (y11.setRow (w.heap.size + 1) (c.cells (.slice ga gn gc) (.slice ra rn rc))) w.heap.size c gv rv 28 := (setRow_other y11 (w.heap.size + 1) w.heap.size _ (by omega)).trans hB
    have HCN := Lib.hid CN
    refine any_skip rfl rfl (exec_store (t := 37) (x := .tmp 2) (y := .tmp 36) (ad := ⟨w.heap.size + 1, 0, none⟩) (u := .agg (c.cells (.slice ga gn gc) (.slice ra rn rc))) rfl (by kernel_rfl) (by kernel_rfl) STR.out) ?_
    refine ⟨HCN.out, ?_⟩
    refine wpAnyH_done (by kernel_rfl) ?_ _
    clear R4 BW CN hB
    obtain ⟨ds, hds⟩ : ∃ ds, ds = c.cells (.slice ga gn gc) (.slice ra rn rc) := ⟨_, rfl⟩
    rw [← hds] at W5 FIN SZ STR HCN ⊢
    clear hds
    go_simp
    refine ‹∀ (a : Act) (w_1 : World), _ → _› _ _ ?_
    go_wp2_with fail
    exact bodyPost_ret (results_cell_row Tryz.results10 _ _ (w.heap.size + 1) _ _ _ _ rfl W5.out Tryz.underlying37 rfl SZ.out) rfl FIN.out
def reach : Nat := 140737488355328
/-- A content that came in: its lists in memory, its parts of any size that memory bears. -/
structure CnArg (w : World) (c : Cn) (gv rv : Value) : Prop where
  ok : c.Ok
  name : c.name.size ≤ reach
  subject : c.subject.size ≤ reach
  ctl : c.ctl.size ≤ reach
  dist : c.dist.size ≤ reach
  body : c.body.size ≤ reach
  gl : c.groups.length ≤ reach
  gz : ∀ g ∈ c.groups, g.size ≤ reach
  rl : c.refs.length ≤ reach
  srow : SRow w gv c.groups
  irow : IRow w rv c.refs
theorem CnArg.on {w w' : World} {c : Cn} {gv rv : Value} (h : CnArg w c gv rv) (hb : Below w.heap.size w w') : CnArg w' c gv rv := ⟨h.ok, h.name, h.subject, h.ctl, h.dist, h.body, h.gl, h.gz, h.rl, h.srow.below hb, h.irow.below hb⟩
def tot (l : List ByteArray) : Nat := (l.map ByteArray.size).sum
theorem tot_snoc (l : List ByteArray) (g : ByteArray) : tot (l ++ [g]) = tot l + g.size := by simp [tot]
theorem tot_le : ∀ {l : List ByteArray} {m : Nat}, (∀ g ∈ l, g.size ≤ m) → tot l ≤ l.length * m
  | [], _, _ => by simp [tot]
  | x :: l, m, h => by
    have h1 := h x (List.mem_cons_self ..)
    have h2 := tot_le (l := l) (fun g hg => h g (List.mem_cons_of_mem _ hg))
    show x.size + tot l ≤ (l.length + 1) * m
    rw [Nat.add_mul]; omega
theorem tot_mem {l : List ByteArray} {g : ByteArray} (h : g ∈ l) : g.size ≤ tot l := by
  induction l with
  | nil => cases h
  | cons x l ih =>
    show g.size ≤ x.size + tot l
    rcases List.mem_cons.1 h with rfl | h
    · omega
    · have := ih h; omega
/-- Whether a content is of moderate size. -/
structure FitsP (c : Cn) : Prop where
  gl : c.groups.length ≤ 30
  gt : tot c.groups ≤ 3000
  rl : c.refs.length ≤ 30
  tx : c.name.size + c.subject.size + c.ctl.size + c.dist.size ≤ 2000
  body : c.body.size ≤ 2000
theorem fits_iff (c : Cn) : FitsP c ↔ c.groups.length ≤ 30 ∧ tot c.groups ≤ 3000 ∧ c.refs.length ≤ 30 ∧ c.name.size + c.subject.size + c.ctl.size + c.dist.size ≤ 2000 ∧ c.body.size ≤ 2000 :=
  ⟨fun h => ⟨h.gl, h.gt, h.rl, h.tx, h.body⟩, fun ⟨h1, h2, h3, h4, h5⟩ => ⟨h1, h2, h3, h4, h5⟩⟩
/-- What Fits returns. -/
def FitP (c : Cn) (w : World) (e : Ending) (w' : World) : Prop := (∃ b, e = .returned (.bool b) ∧ (b = true ↔ FitsP c)) ∧ Below w.heap.size w w'
set_option maxHeartbeats 2000000 in
theorem lfits_any (w : World) (c : Cn) (gv rv : Value) (ha : CnArg w c gv rv) :
    Calls Tryz.prog 8 #[.agg (c.cells gv rv)] w (FitP c w) := by
  obtain ⟨w0, hw0⟩ : ∃ w0, w0 = w.alloc (.cells (c.cells gv rv) 28) := ⟨_, rfl⟩
  have B0 : Hid (Below w.heap.size w w0) := Lib.hid (by rw [hw0]; exact (Below.refl _ _).alloc (Nat.le_refl _) _)
  have CX : CB w0 w.heap.size c gv rv 28 := by unfold CB; rw [hw0]; exact heap_alloc_last w _
  have SR := ha.srow.below B0.out
  have IR := ha.irow.below B0.out
  have OK := Lib.hid ha.ok; have HA := Lib.hid ha
  obtain ⟨xa, xc, rfl, hxc, rx⟩ := SR
  obtain ⟨ya, yc, rfl, hyc, ry⟩ := IR
  obtain ⟨n, hn⟩ : ∃ n, n = c.groups.length := ⟨_, rfl⟩
  obtain ⟨m, hm⟩ : ∃ m, m = c.refs.length := ⟨_, rfl⟩
  have c0 := CX.at (cn_0 c (.slice xa c.groups.length xc) (.slice ya c.refs.length yc))
  have c18 := CX.at (cn_18 OK.out (.slice xa c.groups.length xc) (.slice ya c.refs.length yc))
  have c19 := CX.at (cn_19 OK.out (.slice xa c.groups.length xc) (.slice ya c.refs.length yc))
  have c20 := CX.at (cn_20 OK.out (.slice xa c.groups.length xc) (.slice ya c.refs.length yc))
  have c53 := CX.at (cn_53 OK.out (.slice xa c.groups.length xc) (.slice ya c.refs.length yc))
  have c54 := CX.at (cn_54 OK.out (.slice xa c.groups.length xc) (.slice ya c.refs.length yc))
  have c74 := CX.at (cn_74 OK.out (.slice xa c.groups.length xc) (.slice ya c.refs.length yc))
  rw [← hn] at c18
  rw [← hm] at c20
  have HN := Lib.hid hn; have HM := Lib.hid hm; have RX := Lib.hid rx
  have hn2 : n ≤ 140737488355328 := by rw [hn]; exact ha.gl
  have hm2 : m ≤ 140737488355328 := by rw [hm]; exact ha.rl
  have z1 : c.name.size ≤ 140737488355328 := ha.name
  have z2 : c.subject.size ≤ 140737488355328 := ha.subject
  have z3 : c.ctl.size ≤ 140737488355328 := ha.ctl
  have z4 : c.dist.size ≤ 140737488355328 := ha.dist
  have z5 : c.body.size ≤ 140737488355328 := ha.body
  have FI := Lib.hid (fits_iff c)
  obtain ⟨cs, hcs⟩ : ∃ cs, cs = c.cells (.slice xa c.groups.length xc) (.slice ya c.refs.length yc) := ⟨_, rfl⟩
  rw [← hcs] at hw0 ⊢
  have HW := Lib.hid hw0
  clear hw0 hcs ha CX hn hm rx ry hxc hyc
  go_enter Tryz.func8, Tryz.ntmps8
  go_upto_region 1 with fail
  rw [← HW.out]
  clear HW
  go_wp2_with fail
  go_loopg [3, 4] n (fun k s i wr => ∃ (j : Nat) (q : Int), j ≤ n ∧ k = n - j ∧ i = .int .i64 (j : Int) ∧ s = .int .i64 q ∧ Hid (n ≤ 30 → q = (tot (c.groups.take j) : Nat)) ∧ w0 = wr)
  case atStart => exact ⟨0, 0, by omega, rfl, rfl, rfl, Lib.hid (fun _ => rfl), rfl⟩
  case round =>
    obtain ⟨j, q, hj, rfl, rfl, rfl, hq, rfl⟩ := hrel
    by_cases hlt : j < n
    · have hl : j < c.groups.length := by rw [← HN.out]; exact hlt
      obtain ⟨b, off, rfl, _, hcell⟩ := RX.out (fun e => by rw [e] at hl; simp at hl)
      obtain ⟨g, hg⟩ : ∃ g, g = c.groups[j] := ⟨_, rfl⟩
      have k1 : w0.cell? ⟨b, off + j, none⟩ = some (.string g) := by rw [hg]; exact hcell j hl
      have zg : g.size ≤ 140737488355328 := by rw [hg]; exact HA.out.gz _ (List.getElem_mem hl)
      obtain ⟨q2, hq2⟩ : ∃ q2, q2 = IntKind.i64.wrap (q + (g.size : Int)) := ⟨_, rfl⟩
      have Q2 : Hid (n ≤ 30 → q2 = (tot (c.groups.take (j + 1)) : Nat)) := Lib.hid (fun h30 => by
        have e := hq.out h30
        have tl := tot_le (l := c.groups.take j) (m := 140737488355328) (fun x hx => HA.out.gz x (List.mem_of_mem_take hx))
        rw [List.length_take] at tl
        rw [hq2, e, List.take_succ_eq_append_getElem hl, tot_snoc, ← hg]
        have : min j c.groups.length ≤ 30 := by rw [← HN.out]; omega
        have tl2 : tot (c.groups.take j) ≤ 30 * 140737488355328 := Nat.le_trans tl (Nat.mul_le_mul_right _ this)
        rw [IntWalk.i64_in _ (by omega)]
        omega)
      have wq := hq2.symm
      clear hcell hg hq hq2 hl
      go_wp2_with fail
      go_roundg (n - (j + 1))
      case measure => omega
      case rel => exact ⟨j + 1, q2, by omega, rfl, by go_num, rfl, Q2, rfl⟩
    · obtain rfl : j = n := by omega
      have TK : Hid (j ≤ 30 → q = (tot c.groups : Nat)) := Lib.hid (fun h30 => by rw [hq.out h30, List.take_of_length_le (by rw [HN.out]; exact Nat.le_refl _)])
      clear hq hlt
      by_cases h1 : j ≤ 30
      · have q1 := TK.out h1
        obtain ⟨t, ht⟩ : ∃ t, t = tot c.groups := ⟨_, rfl⟩
        rw [← ht] at q1
        subst q1
        have HT := Lib.hid ht
        clear ht TK
        by_cases h2 : t ≤ 3000
        · by_cases h3 : m ≤ 30
          · by_cases h4 : c.name.size + c.subject.size + c.ctl.size + c.dist.size ≤ 2000
            · by_cases h5 : c.body.size ≤ 2000
              · have F : Hid (FitsP c) := Lib.hid (FI.out.2 ⟨by rw [← HN.out]; exact h1, by rw [← HT.out]; exact h2, by rw [← HM.out]; exact h3, h4, h5⟩)
                have d5 : decide ((c.body.size : Int) ≤ 2000) = true := decide_eq_true (by omega)
                go_wp2_with fail
                go_ret
                exact ⟨⟨true, rfl, ⟨fun _ => F.out, fun _ => rfl⟩⟩, B0.out⟩
              · have F : Hid (¬ FitsP c) := Lib.hid (fun h => h5 h.body)
                have d5 : decide ((c.body.size : Int) ≤ 2000) = false := decide_eq_false (by omega)
                go_wp2_with fail
                go_ret
                exact ⟨⟨false, rfl, ⟨fun h => (by cases h), fun h => absurd h F.out⟩⟩, B0.out⟩
            · have F : Hid (¬ FitsP c) := Lib.hid (fun h => h4 h.tx)
              have h4' : ¬ ((c.name.size : Int) + (c.subject.size : Int) + (c.ctl.size : Int) + (c.dist.size : Int) ≤ 2000) := by omega
              go_wp2_with fail
              go_ret
              exact ⟨⟨false, rfl, ⟨fun h => (by cases h), fun h => absurd h F.out⟩⟩, B0.out⟩
          · have F : Hid (¬ FitsP c) := Lib.hid (fun h => h3 (by rw [HM.out]; exact h.rl))
            go_wp2_with fail
            go_ret
            exact ⟨⟨false, rfl, ⟨fun h => (by cases h), fun h => absurd h F.out⟩⟩, B0.out⟩
        · have F : Hid (¬ FitsP c) := Lib.hid (fun h => h2 (by rw [HT.out]; exact h.gt))
          go_wp2_with fail
          go_ret
          exact ⟨⟨false, rfl, ⟨fun h => (by cases h), fun h => absurd h F.out⟩⟩, B0.out⟩
      · have F : Hid (¬ FitsP c) := Lib.hid (fun h => h1 (by rw [HN.out]; exact h.gl))
        clear TK
        go_wp2_with fail
        go_ret
        exact ⟨⟨false, rfl, ⟨fun h => (by cases h), fun h => absurd h F.out⟩⟩, B0.out⟩
end Go.Proofs.YtohmdledkhgdaaaGreatDoor
