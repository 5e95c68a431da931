/- bulletinlaw18.CanonicalIdentity (printed by gen_ci.py). -/
import Derived.Test.YtohmdledkhgdaaaGreatDoorCi38
namespace Go.Proofs.YtohmdledkhgdaaaGreatDoor
open Go.RowKit
set_option linter.unusedVariables false
set_option maxRecDepth 100000

/-- A guarded call that alone may come up (the goal 'wpOp' of a guarded operation must never be met by 'refine': its whnf does not end). -/
theorem anyH_callG {P : Program} {md : Region.Mode} {ops : Array Oper} {Q : Exit → Act → World → Prop} {S : World → Prop} {i : Nat} {fuel : Nat} {listed : Array Bool} {a : Act} {w : World} {o : Oper} {f : FuncId} {args : Array Value} (hr : Region.ready md ops listed = [i])
    (ho : ops[i]? = some o) (hw : Region.wanted o (yielded ops a.tmps) = true) (he : (execOp a.eval o).run P w = .ok (.enter f args) w)
    (hc : Calls P f args w fun e w' => ∃ v, e = .returned v ∧ S w' ∧ wpAnyH P md ops Q S fuel (listed.setIfInBounds i true) (a.put o.dst v) w') : wpAnyH P md ops Q S (fuel + 1) listed a w :=
  anyH_one hr (any_callG ho hw he hc)
structure LcI (wE : World) (q : Nat) (cd : Array Value) (aS : Option Addr) (ng : Nat) (aI : Option Addr) (nr : Nat) (wx : World) : Prop where
  bel : Below wE.heap.size wE wx
  blk : wx.heap[q]? = some (.cells cd 37 (0, 0))
  rs : OwS wx wE.heap.size aS ng
  ri : OwI wx wE.heap.size aI nr
theorem LcI.stepS {wE : World} {q : Nat} {cd : Array Value} {aS : Option Addr} {ng : Nat} {aI : Option Addr} {nr : Nat} {wx : World} (H : LcI wE q cd aS ng aI nr wx) {i : Nat} (hi : i < ng) (s : ByteArray) :
    ∃ h w', aS = some ⟨h, 0, none⟩ ∧ (storeVar 9 ⟨h, i, none⟩ (.string s)).run Tryz.prog wx = .ok () w' ∧ LcI wE q cd aS ng aI nr w' ∧ wx.cell? ⟨h, i, none⟩ ≠ none := by
  obtain ⟨h, cs, old, e, hb, hl, ho, st, H2⟩ := H.rs.step hi s
  obtain ⟨h', cur, e', _, hg, hn⟩ := H.rs (by omega)
  rw [e] at e'
  cases e'
  refine ⟨h, _, e, st, ⟨below_setRow H.bel hb cs, ?_, H2, H.ri.other (by decide) ho⟩, ?_⟩
  · have : q ≠ h := fun e => by subst e; have := H.blk; rw [ho] at this; cases this
    exact (setRow_other wx h q cs this).trans H.blk
  · rw [cell_of_row wx h i _ _ _ hg, Array.getElem?_eq_getElem (by omega)]; simp
theorem LcI.stepI {wE : World} {q : Nat} {cd : Array Value} {aS : Option Addr} {aI : Option Addr} {nr : Nat} {wx : World} (H : LcI wE q cd aS 0 aI nr wx) {i : Nat} (hi : i < nr) :
    ∃ h x, aI = some ⟨h, 0, none⟩ ∧ wx.cell? ⟨h, i * 32, none⟩ = some (.int .u8 x) ∧ ∀ y : Int, ∃ w', (storeVar 5 ⟨h, i * 32, none⟩ (.int .u8 y)).run Tryz.prog wx = .ok () w' ∧ LcI wE q cd aS 0 aI nr w' := by
  obtain ⟨h, x, old, e, hb, hl, ho, hc, st⟩ := H.ri.step hi
  refine ⟨h, x, e, hc, fun y => ?_⟩
  obtain ⟨cs, st, H2⟩ := st y
  refine ⟨_, st, below_setRow H.bel hb cs, ?_, fun h => by omega, H2⟩
  have : q ≠ h := fun e => by subst e; have := H.blk; rw [ho] at this; cases this
  exact (setRow_other wx h q cs this).trans H.blk
theorem LcI.drew {wE : World} {q : Nat} {cd : Array Value} {aS : Option Addr} {ng : Nat} {aI : Option Addr} {nr : Nat} {wx : World} (H : LcI wE q cd aS ng aI nr wx) : LcI wE q cd aS ng aI nr wx.drew := ⟨H.bel.drew, H.blk, H.rs, H.ri⟩
set_option maxHeartbeats 100000000 in
theorem ci_any (w : World) (a b : Cn) (ga ra gb rb : Value) (ha : CnArg w a ga ra) (hb : CnArg w b gb rb) (hE : Env w) :
    Calls Tryz.prog 3 #[.agg (a.cells ga ra), .agg (b.cells gb rb)] w fun e w' => e = .returned (.bool true) ∧ Below w.heap.size w w' := by
  obtain ⟨w0, hw0⟩ : ∃ w0, w0 = (w.alloc (.cells (a.cells ga ra) 28)).alloc (.cells (b.cells gb rb) 28) := ⟨_, rfl⟩
  have B0 : Below w.heap.size w w0 := by rw [hw0]; exact ((Below.refl _ _).alloc (Nat.le_refl _) _).alloc (by simp) _
  have CA0 : CB w0 w.heap.size a ga ra 28 := by unfold CB; rw [hw0]; exact alloc_block (heap_alloc_last w _)
  have CB0 : CB w0 (w.heap.size + 1) b gb rb 28 := by
    unfold CB; rw [hw0]; have := heap_alloc_last (w.alloc (.cells (a.cells ga ra) 28)) (.cells (b.cells gb rb) 28); rw [World.size_alloc] at this; exact this
  have U : ∀ wx, Below w0.heap.size w0 wx → Below w.heap.size w wx := fun wx h => B0.trans (h.mono B0.size)
  obtain ⟨ca, hca⟩ : ∃ x, x = a.cells ga ra := ⟨_, rfl⟩
  obtain ⟨cb, hcb⟩ : ∃ x, x = b.cells gb rb := ⟨_, rfl⟩
  obtain ⟨ia, hia⟩ : ∃ x, x = idA (idV a.p) := ⟨_, rfl⟩
  obtain ⟨ib, hib⟩ : ∃ x, x = idA (idV b.p) := ⟨_, rfl⟩
  obtain ⟨pa, hpa⟩ : ∃ x, x = chkF a.p := ⟨_, rfl⟩
  obtain ⟨pb, hpb⟩ : ∃ x, x = chkF b.p := ⟨_, rfl⟩
  obtain ⟨E, hEq⟩ : ∃ x, x = decide (a.p = b.p) := ⟨_, rfl⟩
  obtain ⟨s, hs⟩ : ∃ x, x = isC a.p b.p := ⟨_, rfl⟩
  obtain ⟨X, hX⟩ : ∃ x, x = strN (if isC a.p b.p then formF a.p else []) := ⟨_, rfl⟩
  obtain ⟨Y, hY⟩ : ∃ x, x = strN (if isC a.p b.p then formF b.p else []) := ⟨_, rfl⟩
  obtain ⟨zs, hzs⟩ : ∃ v, v = idA zero32 := ⟨_, rfl⟩
  obtain ⟨c0, hc0⟩ : ∃ v, v = cn0.cells (.slice none 0 0) (.slice none 0 0) := ⟨_, rfl⟩
  obtain ⟨r, hr⟩ : ∃ x, x = decide (idV a.p = idV b.p) := ⟨_, rfl⟩
  have oka := ha.ok; have okb := hb.ok
  have LA : Hid (∀ wx, Below w0.heap.size w0 wx → (loadVar 28 ⟨w.heap.size, 0, none⟩).run Tryz.prog wx = .ok (.agg ca) wx) := Lib.hid (fun wx h => by rw [hca]; exact CB.allR (CA0.on h) oka)
  have LB : Hid (∀ wx, Below w0.heap.size w0 wx → (loadVar 28 ⟨w.heap.size + 1, 0, none⟩).run Tryz.prog wx = .ok (.agg cb) wx) := Lib.hid (fun wx h => by rw [hcb]; exact CB.allR (CB0.on h) okb)
  have KN : Hid (∀ wx, Below w0.heap.size w0 wx → Calls Tryz.prog 7 #[] wx fun e w' => e = .returned (.bool true) ∧ Below wx.heap.size wx w') := Lib.hid (fun wx h => known_any wx (hE.on (U wx h)))
  have FA : Hid (∀ wx, Below w0.heap.size w0 wx → Calls Tryz.prog 8 #[.agg ca] wx (FitP a wx)) := Lib.hid (fun wx h => by rw [hca]; exact lfits_any wx a ga ra (ha.on (U wx h)))
  have FB : Hid (∀ wx, Below w0.heap.size w0 wx → Calls Tryz.prog 8 #[.agg cb] wx (FitP b wx)) := Lib.hid (fun wx h => by rw [hcb]; exact lfits_any wx b gb rb (hb.on (U wx h)))
  have OA : Hid (FitsP a → ∀ wx, Below w0.heap.size w0 wx → Calls Tryz.prog 10 #[.agg ca] wx fun e w' => ∃ cs, e = .returned (.agg cs) ∧ OwnV a wx.heap.size cs w' ∧ Below wx.heap.size wx w') := Lib.hid (fun fa wx h => by rw [hca]; exact lc_own ha fa (U wx h))
  have OB : Hid (FitsP b → ∀ wx, Below w0.heap.size w0 wx → Calls Tryz.prog 10 #[.agg cb] wx fun e w' => ∃ cs, e = .returned (.agg cs) ∧ OwnV b wx.heap.size cs w' ∧ Below wx.heap.size wx w') := Lib.hid (fun fb wx h => by rw [hcb]; exact lc_own hb fb (U wx h))
  have CL : Hid (FitsP a → ∀ wx base cs, Below w0.heap.size w0 wx → OwnV a base cs wx → Calls Tryz.prog 15 #[.agg cs] wx fun e w' => ∃ cs, e = .returned (.agg cs) ∧ OwnV a wx.heap.size cs w' ∧ Below wx.heap.size wx w') := Lib.hid (fun fa wx base cs h ho => lc_clone ha fa (U wx h) ho)
  have IA : Hid (FitsP a → ∀ wx base cs, Below w0.heap.size w0 wx → OwnV a base cs wx → Calls Tryz.prog 11 #[.agg cs] wx fun e w' => e = .returned (.tuple #[.agg ia, .int .i64 ((pa : Nat) : Int)]) ∧ Below wx.heap.size wx w') := Lib.hid (fun fa wx base cs h ho => by rw [hia, hpa]; exact lc_id ha fa (U wx h) hE ho)
  have IB : Hid (FitsP b → ∀ wx base cs, Below w0.heap.size w0 wx → OwnV b base cs wx → Calls Tryz.prog 11 #[.agg cs] wx fun e w' => e = .returned (.tuple #[.agg ib, .int .i64 ((pb : Nat) : Int)]) ∧ Below wx.heap.size wx w') := Lib.hid (fun fb wx base cs h ho => by rw [hib, hpb]; exact lc_id hb fb (U wx h) hE ho)
  have EQ : Hid (FitsP a → FitsP b → ∀ wx base cs base' cs', Below w0.heap.size w0 wx → OwnV a base cs wx → OwnV b base' cs' wx → Calls Tryz.prog 12 #[.agg cs, .agg cs'] wx fun e w' => e = .returned (.bool E) ∧ Below wx.heap.size wx w') := Lib.hid (fun fa fb wx base cs base' cs' h ho ho' => by rw [hEq]; exact lc_equal ha fa hb fb (U wx h) ho ho')
  have SM : Hid (FitsP a → FitsP b → ∀ wx, Below w0.heap.size w0 wx → Calls Tryz.prog 13 #[.agg ca, .agg cb] wx fun e w' => e = .returned (.bool E) ∧ Below wx.heap.size wx w') := Lib.hid (fun fa fb wx h => by rw [hca, hcb, hEq]; exact lc_same ha fa hb fb (U wx h))
  have CO : Hid (FitsP a → FitsP b → ∀ wx base cs base' cs', Below w0.heap.size w0 wx → OwnV a base cs wx → OwnV b base' cs' wx → Calls Tryz.prog 9 #[.agg cs, .agg cs'] wx fun e w' => e = .returned (.tuple #[.string X, .string Y, .bool s]) ∧ Below wx.heap.size wx w') := Lib.hid (fun fa fb wx base cs base' cs' h ho ho' => by rw [hX, hY, hs]; exact lc_coll ha fa hb fb (U wx h) hE ho ho')
  have BK : Hid (FitsP a → ∀ wx base cs, Below w0.heap.size w0 wx → OwnV a base cs wx → Calls Tryz.prog 16 #[.agg cs] wx fun e w' => e = .returned (.agg cs) ∧ Below wx.heap.size wx w') := Lib.hid (fun fa wx base cs h ho => lc_back ha fa (U wx h) ho)
  have SO : Hid (FitsP a → ∀ wx base cs, Below w0.heap.size w0 wx → OwnV a base cs wx → Calls Tryz.prog 13 #[.agg cs, .agg ca] wx fun e w' => e = .returned (.bool true) ∧ Below wx.heap.size wx w') := Lib.hid (fun fa wx base cs h ho => by rw [hca]; exact lc_sameO ha fa (U wx h) ho)
  have EO : Hid (FitsP a → ∀ wx base cs base' cs', Below w0.heap.size w0 wx → OwnV a base cs wx → OwnV a base' cs' wx → Calls Tryz.prog 12 #[.agg cs, .agg cs'] wx fun e w' => e = .returned (.bool true) ∧ Below wx.heap.size wx w') := Lib.hid (fun fa wx base cs base' cs' h ho ho' => lc_equalO ha fa (U wx h) ho ho')
  have RF : Hid (FitsP a → s = true → ∀ wx, Below w0.heap.size w0 wx → Calls Tryz.prog 14 #[.agg ca] wx fun e w' => e = .returned (.string X) ∧ Below wx.heap.size wx w') := Lib.hid (fun fa h1 wx h => by
    rw [hs] at h1
    rw [hca, hX, if_pos h1]
    exact lc_form ha fa (U wx h) (isC_ne oka okb h1).1)
  have RG : Hid (FitsP b → s = true → ∀ wx, Below w0.heap.size w0 wx → Calls Tryz.prog 14 #[.agg cb] wx fun e w' => e = .returned (.string Y) ∧ Below wx.heap.size wx w') := Lib.hid (fun fb h1 wx h => by
    rw [hs] at h1
    rw [hcb, hY, if_pos h1]
    exact lc_form hb fb (U wx h) (isC_ne oka okb h1).2.1)
  have XE : Hid (s = false → X = ⟨#[]⟩) := Lib.hid (fun h => by rw [hX, ← hs, h]; rfl)
  have YE : Hid (s = false → Y = ⟨#[]⟩) := Lib.hid (fun h => by rw [hY, ← hs, h]; rfl)
  have XY : Hid (s = true → (X.toList == Y.toList) = false) := Lib.hid (fun h => by
    rw [hs] at h
    rw [hX, hY, if_pos h, if_pos h]
    exact toList_ne (isC_ne oka okb h).2.2)
  have S0 : Hid ((decide (pa = 0) && decide (pb = 0)) = false → s = false) := Lib.hid (fun h => by rw [hpa, hpb] at h; rw [hs]; exact isC_off1 h)
  have S1 : Hid ((decide (pa = 0) && decide (pb = 0)) = true → s = (!E && r)) := Lib.hid (fun h => by rw [hpa, hpb] at h; rw [hs, hEq, hr]; exact isC_on h)
  have oia : IdOk (idV a.p) := idV_ok oka.root.lt
  have oib : IdOk (idV b.p) := idV_ok okb.root.lt
  have EI : Hid (∀ wx, (Op.equal 26 (.agg ia) (.agg ib)).run Tryz.prog wx = .ok r wx) := Lib.hid (fun wx => by rw [hia, hib, hr]; exact eq_id wx oia oib)
  have AC : Hid (∀ (o : Oper) (a : Act) (w : World), o.op = .alloc 37 → (execOp a.eval o).run Tryz.prog w = .ok (.value (.pointer (some ⟨w.heap.size, 0, none⟩))) (w.alloc (.cells c0 37))) := Lib.hid (fun o a w h => by rw [hc0]; exact exec_allocC w h)
  have AI : Hid (∀ (o : Oper) (a : Act) (w : World), o.op = .alloc 26 → (execOp a.eval o).run Tryz.prog w = .ok (.value (.pointer (some ⟨w.heap.size, 0, none⟩))) (w.alloc (.cells zs 26))) := Lib.hid (fun o a w h => by rw [hzs]; exact exec_allocI w h)
  have siA : ia.size = 32 := by rw [hia, idA_size]; exact oia.len
  have siB : ib.size = 32 := by rw [hib, idA_size]; exact oib.len
  have siz : zs.size = 32 := by rw [hzs, idA_size]; rfl
  have sz0 : c0.size = 75 := by rw [hc0]; exact cn_size cn0_ok _ _
  have SI : ∀ (wx : World) (i : Array Value), i.size = 32 → i.all (·.oneCell') = true → ∃ wy, (storeVar 26 ⟨wx.heap.size, 0, none⟩ (.agg i)).run Tryz.prog (wx.alloc (.cells zs 26)) = .ok () wy ∧ wy.heap[wx.heap.size]? = some (.cells i 26 (0, 0)) ∧ Below wx.heap.size wx wy := fun wx i h1 h2 =>
    ⟨_, run_storeVar_row _ wx.heap.size _ 26 _ _ (heap_alloc_last wx _) (by rw [h1]; exact size23) (by rw [h1, siz]) h2, setRow_heap _ _ _ _ _ _ (heap_alloc_last wx _), below_setRow ((Below.refl _ _).alloc (Nat.le_refl _) _) (Nat.le_refl _) _⟩
  have SIA : Hid (∀ wx : World, ∃ wy, (storeVar 26 ⟨wx.heap.size, 0, none⟩ (.agg ia)).run Tryz.prog (wx.alloc (.cells zs 26)) = .ok () wy ∧ wy.heap[wx.heap.size]? = some (.cells ia 26 (0, 0)) ∧ Below wx.heap.size wx wy) := Lib.hid (fun wx => SI wx ia siA (by rw [hia]; exact idA_one _))
  have SIB : Hid (∀ wx : World, ∃ wy, (storeVar 26 ⟨wx.heap.size, 0, none⟩ (.agg ib)).run Tryz.prog (wx.alloc (.cells zs 26)) = .ok () wy ∧ wy.heap[wx.heap.size]? = some (.cells ib 26 (0, 0)) ∧ Below wx.heap.size wx wy) := Lib.hid (fun wx => SI wx ib siB (by rw [hib]; exact idA_one _))
  have SC : Hid (∀ (wx : World) base cs wy, OwnV a base cs wy → (∃ wz, (storeVar 37 ⟨wx.heap.size, 0, none⟩ (.agg cs)).run Tryz.prog (wx.alloc (.cells c0 37)) = .ok () wz ∧ wz.heap[wx.heap.size]? = some (.cells cs 37 (0, 0)) ∧ Below wx.heap.size wx wz)) := Lib.hid (fun wx base cs wy ho =>
    ⟨_, run_storeVar_row _ wx.heap.size _ 37 _ _ (heap_alloc_last wx _) (by rw [ho.size oka]; exact size_cn) (by rw [ho.size oka, sz0]) ho.one, setRow_heap _ _ _ _ _ _ (heap_alloc_last wx _), below_setRow ((Below.refl _ _).alloc (Nat.le_refl _) _) (Nat.le_refl _) _⟩)
  have LI : Hid (∀ (wx : World) q (i : Array Value), i.size = 32 → wx.heap[q]? = some (.cells i 26 (0, 0)) → (loadVar 26 ⟨q, 0, none⟩).run Tryz.prog wx = .ok (.agg i) wx) := Lib.hid (fun wx q i h1 h => run_loadVar_row wx q _ 26 _ _ _ h Tryz.underlying26 rfl (by rw [h1]; exact size23))
  have LC : Hid (∀ (wx : World) q base cs wy, OwnV a base cs wy → wx.heap[q]? = some (.cells cs 37 (0, 0)) → (loadVar 37 ⟨q, 0, none⟩).run Tryz.prog wx = .ok (.agg cs) wx) := Lib.hid (fun wx q base cs wy ho h => run_loadVar_row wx q _ 37 _ _ _ h Tryz.underlying37 rfl (by rw [ho.size oka]; exact size_cn))
  have HSA := Lib.hid siA; have HSB := Lib.hid siB
  have OKA := Lib.hid oka
  rw [← hca, ← hcb] at hw0 ⊢
  have HW := Lib.hid hw0
  have D0 : Hid (Below w0.heap.size w0 w0) := Lib.hid (Below.refl _ _)
  have UB : Hid (∀ wx, Below w0.heap.size w0 wx → Below w.heap.size w wx) := Lib.hid U
  clear hw0 B0 CA0 CB0 U hca hcb hia hib hpa hpb hEq hs hX hY hzs hc0 hr oka okb oia oib siA siB siz sz0 SI ha hb hE
  go_enter Tryz.func3, Tryz.ntmps3
  go_upto_region 1 with fail
  rw [← HW.out]
  clear HW
  go_wp2_with fail
  refine (KN.out w0 D0.out).mono ?_
  rintro e w1 ⟨rfl, hb⟩
  have D1 := Lib.hid (D0.out.trans (hb.mono D0.out.size))
  clear hb
  go_wp2_with ((with_reducible refine wpList_loadG 28 _ rfl (by kernel_rfl) ?_); refine ⟨_, _, rfl, LA.out w1 D1.out, ?_⟩)
  refine (FA.out w1 D1.out).mono ?_
  rintro e w2 ⟨⟨b1, rfl, hf1⟩, hb⟩
  have D2 := Lib.hid (D1.out.trans (hb.mono D1.out.size))
  have HF1 := Lib.hid hf1
  clear hb hf1
  cases b1 with
  | false =>
    go_wp2_with fail
    refine (KN.out w2 D2.out).mono ?_
    rintro e w3 ⟨rfl, hb⟩
    have FIN := Lib.hid (UB.out _ (D2.out.trans (hb.mono D2.out.size)))
    clear hb
    go_wp2_with fail
    go_ret
    exact ⟨rfl, FIN⟩
  | true =>
  go_wp2_with ((with_reducible refine wpList_loadG 28 _ rfl (by kernel_rfl) ?_); refine ⟨_, _, rfl, LB.out w2 D2.out, ?_⟩)
  refine (FB.out w2 D2.out).mono ?_
  rintro e w3 ⟨⟨b2, rfl, hf2⟩, hb⟩
  have D3 := Lib.hid (D2.out.trans (hb.mono D2.out.size))
  have HF2 := Lib.hid hf2
  clear hb hf2
  cases b2 with
  | false =>
    go_wp2_with fail
    refine (KN.out w3 D3.out).mono ?_
    rintro e w4 ⟨rfl, hb⟩
    have FIN := Lib.hid (UB.out _ (D3.out.trans (hb.mono D3.out.size)))
    clear hb
    go_wp2_with fail
    go_ret
    exact ⟨rfl, FIN⟩
  | true =>
  have fa := HF1.out.1 (by simp)
  have fb := HF2.out.1 (by simp)
  replace OA := Lib.hid (OA.out fa); replace OB := Lib.hid (OB.out fb); replace CL := Lib.hid (CL.out fa); replace IA := Lib.hid (IA.out fa); replace IB := Lib.hid (IB.out fb)
  replace EQ := Lib.hid (EQ.out fa fb); replace SM := Lib.hid (SM.out fa fb); replace CO := Lib.hid (CO.out fa fb); replace BK := Lib.hid (BK.out fa); replace SO := Lib.hid (SO.out fa); replace EO := Lib.hid (EO.out fa)
  replace RF := Lib.hid (RF.out fa); replace RG := Lib.hid (RG.out fb)
  have gl := fa.gl
  have rl := fa.rl
  clear fa fb HF1 HF2 KN FA FB D0 D1 D2
  go_upto_region 3 with fail
  refine wp_region_held (S := fun wx => Below w0.heap.size w0 wx) (by kernel_rfl) ?_
  change wpAnyH _ _ _ _ _ _ _ _ w3.drew
  obtain ⟨wd, hwd⟩ : ∃ wd, wd = w3.drew := ⟨_, rfl⟩
  rw [← hwd]
  have E0 : Hid (Below w0.heap.size w0 wd) := Lib.hid (by rw [hwd]; exact D3.out.trans ((Below.refl _ _).drew.mono D3.out.size))
  clear hwd D3
  have hB : (fun wx : World => Below w0.heap.size w0 wx) wd := E0.out
  refine wpAnyH_take (i := 0) (v := .agg ca) rfl (by kernel_rfl) (by kernel_rfl) (by kernel_rfl) (fun _ _ _ h => h) (Or.inl ⟨by kernel_rfl, fun w' hw' => exec_load (ty := 28) (x := .tmp 2) (ad := ⟨w.heap.size, 0, none⟩) rfl (by kernel_rfl) (LA.out w' hw')⟩) hB ?_
  refine wpAnyH_take (i := 2) (v := .agg cb) rfl (by kernel_rfl) (by kernel_rfl) (by kernel_rfl) (fun _ _ _ h => h) (Or.inl ⟨by kernel_rfl, fun w' hw' => exec_load (ty := 28) (x := .tmp 3) (ad := ⟨w.heap.size + 1, 0, none⟩) rfl (by kernel_rfl) (LB.out w' hw')⟩) hB ?_
  refine anyH_one (i := 1) (by kernel_rfl) ?_
  refine any_call (f := 10) (args := #[.agg ca]) rfl rfl (by kernel_rfl) ?_
  refine (OA.out wd E0.out).mono ?_
  rintro e y1 ⟨da, rfl, oa, hb⟩
  have E1 := Lib.hid (E0.out.trans (hb.mono E0.out.size))
  have OA1 := Lib.hid oa
  clear hb oa
  replace hB := E1.out
  refine ⟨_, rfl, hB, ?_⟩
  refine anyH_one (i := 3) (by kernel_rfl) ?_
  refine any_call (f := 10) (args := #[.agg cb]) rfl rfl (by kernel_rfl) ?_
  refine (OB.out y1 E1.out).mono ?_
  rintro e y2 ⟨db, rfl, ob, hb⟩
  have E2 := Lib.hid (E1.out.trans (hb.mono E1.out.size))
  have OA2 := Lib.hid (OA1.out.on hb)
  have OB2 := Lib.hid ob
  clear hb ob
  replace hB := E2.out
  refine ⟨_, rfl, hB, ?_⟩
  refine anyH_one (i := 4) (by kernel_rfl) ?_
  refine any_call (f := 9) (args := #[.agg da, .agg db]) rfl rfl (by kernel_rfl) ?_
  refine (CO.out y2 _ da _ db E2.out OA2.out OB2.out).mono ?_
  rintro e y3 ⟨rfl, hb⟩
  have E3 := Lib.hid (E2.out.trans (hb.mono E2.out.size))
  clear hb
  replace hB := E3.out
  refine ⟨_, rfl, hB, ?_⟩
  refine wpAnyH_take (i := 5) (v := .tuple #[.string X, .string Y, .bool s]) rfl (by kernel_rfl) (by kernel_rfl) (by kernel_rfl) (fun _ _ _ h => h) (Or.inl ⟨by kernel_rfl, fun w' hw' => by go_simp⟩) hB ?_
  refine wpAnyH_take (i := 6) (v := .string X) rfl (by kernel_rfl) (by kernel_rfl) (by kernel_rfl) (fun _ _ _ h => h) (Or.inl ⟨by kernel_rfl, fun w' hw' => by go_simp⟩) hB ?_
  refine wpAnyH_take (i := 7) (v := .string Y) rfl (by kernel_rfl) (by kernel_rfl) (by kernel_rfl) (fun _ _ _ h => h) (Or.inl ⟨by kernel_rfl, fun w' hw' => by go_simp⟩) hB ?_
  refine wpAnyH_take (i := 8) (v := .bool s) rfl (by kernel_rfl) (by kernel_rfl) (by kernel_rfl) (fun _ _ _ h => h) (Or.inl ⟨by kernel_rfl, fun w' hw' => by go_simp⟩) hB ?_
  refine wpAnyH_take (i := 9) (v := .string X) rfl (by kernel_rfl) (by kernel_rfl) (by kernel_rfl) (fun _ _ _ h => h) (Or.inl ⟨by kernel_rfl, fun w' hw' => by go_simp⟩) hB ?_
  refine wpAnyH_take (i := 10) (v := .string Y) rfl (by kernel_rfl) (by kernel_rfl) (by kernel_rfl) (fun _ _ _ h => h) (Or.inl ⟨by kernel_rfl, fun w' hw' => by go_simp⟩) hB ?_
  refine wpAnyH_take (i := 11) (v := .bool s) rfl (by kernel_rfl) (by kernel_rfl) (by kernel_rfl) (fun _ _ _ h => h) (Or.inl ⟨by kernel_rfl, fun w' hw' => by go_simp⟩) hB ?_
  refine wpAnyH_done (by kernel_rfl) ?_ _
  go_simp
  refine ‹∀ (a : Act) (w_1 : World), _ → _› _ _ ?_
  clear hB CO E0 E1 E2 OA1 OA2 OB2
  go_upto_region 4 with fail
  refine wp_region_list ?_
  simp only []
  refine wpList_load 28 rfl _ rfl ⟨_, _, rfl, LA.out _ E3.out, ?_⟩
  go_wp2_with fail
  refine (OA.out y3 E3.out).mono ?_
  rintro e u1 ⟨du, rfl, ho, hb⟩
  have Gu1 := Lib.hid (E3.out.trans (hb.mono E3.out.size))
  have HO := Lib.hid ho
  clear hb ho
  go_wp2_with fail
  refine (IA.out u1 _ du Gu1.out HO.out).mono ?_
  rintro e u2 ⟨rfl, hb⟩
  have Gu2 := Lib.hid (Gu1.out.trans (hb.mono Gu1.out.size))
  clear hb HO Gu1
  obtain ⟨u3, s1, s2, s3⟩ := SIA.out u2
  have ST := Lib.hid s1
  have Q1 := Lib.hid s2
  have Gu3 := Lib.hid (Gu2.out.trans (s3.mono Gu2.out.size))
  clear s1 s2 s3
  go_upto_region 5 with (first
    | ((with_reducible refine wpList_run rfl (AI.out _ _ _ rfl) ?_))
    | ((with_reducible refine wpList_store 26 rfl _ _ rfl ?_); refine ⟨_, _, _, rfl, rfl, ST.out, ?_⟩))
  clear ST SIA IA
  obtain ⟨q1, hq1⟩ : ∃ q, q = u2.heap.size := ⟨_, rfl⟩
  rw [← hq1] at Q1 ⊢
  clear hq1 Gu2 E3
  go_upto_region 5 with fail
  refine wp_region_list ?_
  simp only []
  refine wpList_load 28 rfl _ rfl ⟨_, _, rfl, LB.out _ Gu3.out, ?_⟩
  go_wp2_with fail
  refine (OB.out u3 Gu3.out).mono ?_
  rintro e v1 ⟨dv, rfl, ho, hb⟩
  replace Q1 := Lib.hid ((hb.block _ (lt_of_block Q1.out)).trans Q1.out)
  have Gv1 := Lib.hid (Gu3.out.trans (hb.mono Gu3.out.size))
  have HO := Lib.hid ho
  clear hb ho
  go_wp2_with fail
  refine (IB.out v1 _ dv Gv1.out HO.out).mono ?_
  rintro e v2 ⟨rfl, hb⟩
  replace Q1 := Lib.hid ((hb.block _ (lt_of_block Q1.out)).trans Q1.out)
  have Gv2 := Lib.hid (Gv1.out.trans (hb.mono Gv1.out.size))
  clear hb HO Gv1
  obtain ⟨v3, s1, s2, s3⟩ := SIB.out v2
  have ST := Lib.hid s1
  have Q2 := Lib.hid s2
  replace Q1 := Lib.hid ((s3.block _ (lt_of_block Q1.out)).trans Q1.out)
  have Gv3 := Lib.hid (Gv2.out.trans (s3.mono Gv2.out.size))
  clear s1 s2 s3
  go_upto_region 6 with (first
    | ((with_reducible refine wpList_run rfl (AI.out _ _ _ rfl) ?_))
    | ((with_reducible refine wpList_store 26 rfl _ _ rfl ?_); refine ⟨_, _, _, rfl, rfl, ST.out, ?_⟩))
  clear ST SIB IB AI
  obtain ⟨q2, hq2⟩ : ∃ q, q = v2.heap.size := ⟨_, rfl⟩
  rw [← hq2] at Q2 ⊢
  clear hq2 Gv2 Gu3
  have QA : Hid (∀ wx, Below v3.heap.size v3 wx → (loadVar 26 ⟨q1, 0, none⟩).run Tryz.prog wx = .ok (.agg ia) wx) := Lib.hid (fun wx h => LI.out wx q1 ia HSA.out ((h.block _ (lt_of_block Q1.out)).trans Q1.out))
  have QB : Hid (∀ wx, Below v3.heap.size v3 wx → (loadVar 26 ⟨q2, 0, none⟩).run Tryz.prog wx = .ok (.agg ib) wx) := Lib.hid (fun wx h => LI.out wx q2 ib HSB.out ((h.block _ (lt_of_block Q2.out)).trans Q2.out))
  clear LI Q1 Q2 HSA HSB
  go_cut [12] (fun v wx => ∃ q : Bool, v = .bool q ∧ Hid ((decide (pa = 0) && decide (pb = 0)) = q) ∧ wx = v3)
  case first =>
    by_cases h1 : pa = 0
    · have z1 : ((pa : Int) == 0) = true := by rw [h1]; rfl
      by_cases h2 : pb = 0
      · have z2 : ((pb : Int) == 0) = true := by rw [h2]; rfl
        have F : Hid ((decide (pa = 0) && decide (pb = 0)) = true) := Lib.hid (by rw [decide_eq_true h1, decide_eq_true h2]; rfl)
        clear h1 h2
        go_wp2_with fail
        go_meet
        exact ⟨true, rfl, F, rfl⟩
      · have z2 : ((pb : Int) == 0) = false := beq_eq_false_iff_ne.2 (by omega)
        have F : Hid ((decide (pa = 0) && decide (pb = 0)) = false) := Lib.hid (by rw [decide_eq_true h1, decide_eq_false h2]; rfl)
        clear h1 h2
        go_wp2_with fail
        go_meet
        exact ⟨false, rfl, F, rfl⟩
    · have z1 : ((pa : Int) == 0) = false := beq_eq_false_iff_ne.2 (by omega)
      have F : Hid ((decide (pa = 0) && decide (pb = 0)) = false) := Lib.hid (by rw [decide_eq_false h1]; rfl)
      clear h1
      go_wp2_with fail
      go_meet
      exact ⟨false, rfl, F, rfl⟩
  case rest =>
  obtain ⟨w6, hw6⟩ : ∃ x, x = wc := ⟨_, rfl⟩
  rw [← hw6] at hcut ⊢
  obtain ⟨q, rfl, HQ, rfl⟩ := hcut
  clear hw6
  go_upto_region 7 with fail
  go_cut [7, 81] (fun u v wx => u = .bool s ∧ v = .bool false ∧ Hid (Below w0.heap.size w0 wx))
  case first =>
    refine wp_region_held (S := fun wx => Below w0.heap.size w0 wx ∧ Below w6.heap.size w6 wx) (by kernel_rfl) ?_
    change wpAnyH _ _ _ _ _ _ _ _ w6.drew
    obtain ⟨wd, hwd⟩ : ∃ wd, wd = w6.drew := ⟨_, rfl⟩
    rw [← hwd]
    have F0 : Hid (Below w6.heap.size w6 wd) := Lib.hid (by rw [hwd]; exact (Below.refl _ _).drew)
    clear hwd
    have DD : Hid (∀ wx, Below w6.heap.size w6 wx → Below w0.heap.size w0 wx) := Lib.hid (fun wx h => Gv3.out.trans (h.mono Gv3.out.size))
    have hB : (fun wx : World => Below w0.heap.size w0 wx ∧ Below w6.heap.size w6 wx) wd := ⟨DD.out _ F0.out, F0.out⟩
    refine wpAnyH_take (i := 0) (v := .agg ca) rfl (by kernel_rfl) (by kernel_rfl) (by kernel_rfl) (fun _ _ _ h => h) (Or.inl ⟨by kernel_rfl, fun w' hw' => exec_load (ty := 28) (x := .tmp 2) (ad := ⟨w.heap.size, 0, none⟩) rfl (by kernel_rfl) (LA.out w' hw'.1)⟩) hB ?_
    refine wpAnyH_take (i := 2) (v := .agg cb) rfl (by kernel_rfl) (by kernel_rfl) (by kernel_rfl) (fun _ _ _ h => h) (Or.inl ⟨by kernel_rfl, fun w' hw' => exec_load (ty := 28) (x := .tmp 3) (ad := ⟨w.heap.size + 1, 0, none⟩) rfl (by kernel_rfl) (LB.out w' hw'.1)⟩) hB ?_
    refine wpAnyH_take (i := 5) (v := .agg ca) rfl (by kernel_rfl) (by kernel_rfl) (by kernel_rfl) (fun _ _ _ h => h) (Or.inl ⟨by kernel_rfl, fun w' hw' => exec_load (ty := 28) (x := .tmp 2) (ad := ⟨w.heap.size, 0, none⟩) rfl (by kernel_rfl) (LA.out w' hw'.1)⟩) hB ?_
    refine wpAnyH_take (i := 6) (v := .agg cb) rfl (by kernel_rfl) (by kernel_rfl) (by kernel_rfl) (fun _ _ _ h => h) (Or.inl ⟨by kernel_rfl, fun w' hw' => exec_load (ty := 28) (x := .tmp 3) (ad := ⟨w.heap.size + 1, 0, none⟩) rfl (by kernel_rfl) (LB.out w' hw'.1)⟩) hB ?_
    refine anyH_one (i := 1) (by kernel_rfl) ?_
    refine any_call (f := 10) (args := #[.agg ca]) rfl rfl (by kernel_rfl) ?_
    refine (OA.out wd hB.1).mono ?_
    rintro e y4 ⟨ea, rfl, oa, hb⟩
    have F1 := Lib.hid (F0.out.trans (hb.mono F0.out.size))
    have P1 := Lib.hid oa
    clear oa
    clear hb
    replace hB : (fun wx : World => Below w0.heap.size w0 wx ∧ Below w6.heap.size w6 wx) y4 := ⟨DD.out _ F1.out, F1.out⟩
    refine ⟨_, rfl, hB, ?_⟩
    refine anyH_one (i := 3) (by kernel_rfl) ?_
    refine any_call (f := 10) (args := #[.agg cb]) rfl rfl (by kernel_rfl) ?_
    refine (OB.out y4 hB.1).mono ?_
    rintro e y5 ⟨eb, rfl, ob, hb⟩
    have F2 := Lib.hid (F1.out.trans (hb.mono F1.out.size))
    have P2 := Lib.hid (P1.out.on hb)
    have P3 := Lib.hid ob
    clear ob
    clear hb
    replace hB : (fun wx : World => Below w0.heap.size w0 wx ∧ Below w6.heap.size w6 wx) y5 := ⟨DD.out _ F2.out, F2.out⟩
    refine ⟨_, rfl, hB, ?_⟩
    refine anyH_one (i := 4) (by kernel_rfl) ?_
    refine any_call (f := 12) (args := #[.agg ea, .agg eb]) rfl rfl (by kernel_rfl) ?_
    refine (EQ.out y5 _ ea _ eb hB.1 P2.out P3.out).mono ?_
    rintro e y6 ⟨rfl, hb⟩
    have F3 := Lib.hid (F2.out.trans (hb.mono F2.out.size))
    clear hb
    replace hB : (fun wx : World => Below w0.heap.size w0 wx ∧ Below w6.heap.size w6 wx) y6 := ⟨DD.out _ F3.out, F3.out⟩
    refine ⟨_, rfl, hB, ?_⟩
    refine anyH_one (i := 7) (by kernel_rfl) ?_
    refine any_call (f := 13) (args := #[.agg ca, .agg cb]) rfl rfl (by kernel_rfl) ?_
    refine (SM.out y6 hB.1).mono ?_
    rintro e y7 ⟨rfl, hb⟩
    have F4 := Lib.hid (F3.out.trans (hb.mono F3.out.size))
    clear hb
    replace hB : (fun wx : World => Below w0.heap.size w0 wx ∧ Below w6.heap.size w6 wx) y7 := ⟨DD.out _ F4.out, F4.out⟩
    refine ⟨_, rfl, hB, ?_⟩
    refine wpAnyH_take (i := 8) (v := .bool false) rfl (by kernel_rfl) (by kernel_rfl) (by kernel_rfl) (fun _ _ _ h => h) (Or.inl ⟨by kernel_rfl, fun w' hw' => exec_neqB (u := E) (v := E) rfl (by kernel_rfl) (by kernel_rfl) (by cases E <;> rfl)⟩) hB ?_
    refine wpAnyH_take (i := 9) (v := .bool false) rfl (by kernel_rfl) (by kernel_rfl) (by kernel_rfl) (fun _ _ _ h => h) (Or.inl ⟨by kernel_rfl, fun w' hw' => by go_simp⟩) hB ?_
    refine wpAnyH_take (i := 10) (v := .bool s) rfl (by kernel_rfl) (by kernel_rfl) (by kernel_rfl) (fun _ _ _ h => h) (Or.inl ⟨by kernel_rfl, fun w' hw' => by go_simp⟩) hB ?_
    refine wpAnyH_take (i := 11) (v := .bool q) rfl (by kernel_rfl) (by kernel_rfl) (by kernel_rfl) (fun _ _ _ h => h) (Or.inl ⟨by kernel_rfl, fun w' hw' => by go_simp⟩) hB ?_
    refine wpAnyH_take (i := 12) (v := .bool q) rfl (by kernel_rfl) (by kernel_rfl) (by kernel_rfl) (fun _ _ _ h => h) (Or.inl ⟨by kernel_rfl, fun w' hw' => by go_simp⟩) hB ?_
    cases q with
    | false =>
      have SF := Lib.hid (S0.out HQ.out)
      refine wpAnyH_take (i := 13) (v := undef) rfl (by kernel_rfl) (by kernel_rfl) (by kernel_rfl) (fun _ _ _ h => h) (Or.inr ⟨by kernel_rfl, rfl⟩) hB ?_
      refine wpAnyH_take (i := 14) (v := undef) rfl (by kernel_rfl) (by kernel_rfl) (by kernel_rfl) (fun _ _ _ h => h) (Or.inr ⟨by kernel_rfl, rfl⟩) hB ?_
      refine wpAnyH_take (i := 15) (v := undef) rfl (by kernel_rfl) (by kernel_rfl) (by kernel_rfl) (fun _ _ _ h => h) (Or.inr ⟨by kernel_rfl, rfl⟩) hB ?_
      refine wpAnyH_take (i := 16) (v := .bool false) rfl (by kernel_rfl) (by kernel_rfl) (by kernel_rfl) (fun _ _ _ h => h) (Or.inl ⟨by kernel_rfl, fun w' hw' => by go_simp⟩) hB ?_
      refine wpAnyH_take (i := 17) (v := .bool false) rfl (by kernel_rfl) (by kernel_rfl) (by kernel_rfl) (fun _ _ _ h => h) (Or.inl ⟨by kernel_rfl, fun w' hw' => by go_simp⟩) hB ?_
      refine wpAnyH_take (i := 18) (v := undef) rfl (by kernel_rfl) (by kernel_rfl) (by kernel_rfl) (fun _ _ _ h => h) (Or.inr ⟨by kernel_rfl, rfl⟩) hB ?_
      refine wpAnyH_take (i := 19) (v := undef) rfl (by kernel_rfl) (by kernel_rfl) (by kernel_rfl) (fun _ _ _ h => h) (Or.inr ⟨by kernel_rfl, rfl⟩) hB ?_
      refine wpAnyH_take (i := 20) (v := undef) rfl (by kernel_rfl) (by kernel_rfl) (by kernel_rfl) (fun _ _ _ h => h) (Or.inr ⟨by kernel_rfl, rfl⟩) hB ?_
      refine wpAnyH_take (i := 21) (v := undef) rfl (by kernel_rfl) (by kernel_rfl) (by kernel_rfl) (fun _ _ _ h => h) (Or.inr ⟨by kernel_rfl, rfl⟩) hB ?_
      refine wpAnyH_take (i := 22) (v := .bool false) rfl (by kernel_rfl) (by kernel_rfl) (by kernel_rfl) (fun _ _ _ h => h) (Or.inl ⟨by kernel_rfl, fun w' hw' => by go_simp⟩) hB ?_
      refine wpAnyH_take (i := 23) (v := .bool false) rfl (by kernel_rfl) (by kernel_rfl) (by kernel_rfl) (fun _ _ _ h => h) (Or.inl ⟨by kernel_rfl, fun w' hw' => exec_neqB (u := s) (v := false) rfl (by kernel_rfl) (by kernel_rfl) (by rw [SF.out]; rfl)⟩) hB ?_
      refine wpAnyH_take (i := 24) (v := .bool false) rfl (by kernel_rfl) (by kernel_rfl) (by kernel_rfl) (fun _ _ _ h => h) (Or.inl ⟨by kernel_rfl, fun w' hw' => by go_simp⟩) hB ?_
      refine wpAnyH_done (by kernel_rfl) ?_ _
      go_simp
      have FIN := Lib.hid hB.1
      clear hB
      refine ‹∀ (a : Act) (w_1 : World), _ → _› _ _ ?_
      go_meet
      exact ⟨rfl, rfl, FIN⟩
    | true =>
      have SF := Lib.hid (S1.out HQ.out)
      refine wpAnyH_take (i := 13) (v := .agg ia) rfl (by kernel_rfl) (by kernel_rfl) (by kernel_rfl) (fun _ _ _ h => h) (Or.inl ⟨by kernel_rfl, fun w' hw' => exec_load (ty := 26) (x := .tmp 8) (ad := ⟨q1, 0, none⟩) rfl (by kernel_rfl) (QA.out w' hw'.2)⟩) hB ?_
      refine wpAnyH_take (i := 14) (v := .agg ib) rfl (by kernel_rfl) (by kernel_rfl) (by kernel_rfl) (fun _ _ _ h => h) (Or.inl ⟨by kernel_rfl, fun w' hw' => exec_load (ty := 26) (x := .tmp 10) (ad := ⟨q2, 0, none⟩) rfl (by kernel_rfl) (QB.out w' hw'.2)⟩) hB ?_
      refine wpAnyH_take (i := 15) (v := .bool r) rfl (by kernel_rfl) (by kernel_rfl) (by kernel_rfl) (fun _ _ _ h => h) (Or.inl ⟨by kernel_rfl, fun w' hw' => exec_eql rfl (by kernel_rfl) (by kernel_rfl) guard23 (EI.out w')⟩) hB ?_
      cases r with
      | false =>
        refine wpAnyH_take (i := 16) (v := .bool false) rfl (by kernel_rfl) (by kernel_rfl) (by kernel_rfl) (fun _ _ _ h => h) (Or.inl ⟨by kernel_rfl, fun w' hw' => by go_simp⟩) hB ?_
        refine wpAnyH_take (i := 17) (v := .bool false) rfl (by kernel_rfl) (by kernel_rfl) (by kernel_rfl) (fun _ _ _ h => h) (Or.inl ⟨by kernel_rfl, fun w' hw' => by go_simp⟩) hB ?_
        refine wpAnyH_take (i := 18) (v := undef) rfl (by kernel_rfl) (by kernel_rfl) (by kernel_rfl) (fun _ _ _ h => h) (Or.inr ⟨by kernel_rfl, rfl⟩) hB ?_
        refine wpAnyH_take (i := 19) (v := undef) rfl (by kernel_rfl) (by kernel_rfl) (by kernel_rfl) (fun _ _ _ h => h) (Or.inr ⟨by kernel_rfl, rfl⟩) hB ?_
        refine wpAnyH_take (i := 20) (v := undef) rfl (by kernel_rfl) (by kernel_rfl) (by kernel_rfl) (fun _ _ _ h => h) (Or.inr ⟨by kernel_rfl, rfl⟩) hB ?_
        refine wpAnyH_take (i := 21) (v := undef) rfl (by kernel_rfl) (by kernel_rfl) (by kernel_rfl) (fun _ _ _ h => h) (Or.inr ⟨by kernel_rfl, rfl⟩) hB ?_
        refine wpAnyH_take (i := 22) (v := .bool false) rfl (by kernel_rfl) (by kernel_rfl) (by kernel_rfl) (fun _ _ _ h => h) (Or.inl ⟨by kernel_rfl, fun w' hw' => by go_simp⟩) hB ?_
        refine wpAnyH_take (i := 23) (v := .bool false) rfl (by kernel_rfl) (by kernel_rfl) (by kernel_rfl) (fun _ _ _ h => h) (Or.inl ⟨by kernel_rfl, fun w' hw' => exec_neqB (u := s) (v := false) rfl (by kernel_rfl) (by kernel_rfl) (by rw [SF.out]; cases E <;> rfl)⟩) hB ?_
        refine wpAnyH_take (i := 24) (v := .bool false) rfl (by kernel_rfl) (by kernel_rfl) (by kernel_rfl) (fun _ _ _ h => h) (Or.inl ⟨by kernel_rfl, fun w' hw' => by go_simp⟩) hB ?_
        refine wpAnyH_done (by kernel_rfl) ?_ _
        go_simp
        have FIN := Lib.hid hB.1
        clear hB
        refine ‹∀ (a : Act) (w_1 : World), _ → _› _ _ ?_
        go_meet
        exact ⟨rfl, rfl, FIN⟩
      | true =>
        refine wpAnyH_take (i := 16) (v := .bool true) rfl (by kernel_rfl) (by kernel_rfl) (by kernel_rfl) (fun _ _ _ h => h) (Or.inl ⟨by kernel_rfl, fun w' hw' => by go_simp⟩) hB ?_
        refine wpAnyH_take (i := 17) (v := .bool true) rfl (by kernel_rfl) (by kernel_rfl) (by kernel_rfl) (fun _ _ _ h => h) (Or.inl ⟨by kernel_rfl, fun w' hw' => by go_simp⟩) hB ?_
        refine wpAnyH_take (i := 18) (v := .agg ca) rfl (by kernel_rfl) (by kernel_rfl) (by kernel_rfl) (fun _ _ _ h => h) (Or.inl ⟨by kernel_rfl, fun w' hw' => exec_load (ty := 28) (x := .tmp 2) (ad := ⟨w.heap.size, 0, none⟩) rfl (by kernel_rfl) (LA.out w' hw'.1)⟩) hB ?_
        refine wpAnyH_take (i := 19) (v := .agg cb) rfl (by kernel_rfl) (by kernel_rfl) (by kernel_rfl) (fun _ _ _ h => h) (Or.inl ⟨by kernel_rfl, fun w' hw' => exec_load (ty := 28) (x := .tmp 3) (ad := ⟨w.heap.size + 1, 0, none⟩) rfl (by kernel_rfl) (LB.out w' hw'.1)⟩) hB ?_
        refine anyH_callG (i := 20) (f := 13) (args := #[.agg ca, .agg cb]) (by kernel_rfl) rfl (by kernel_rfl) (by kernel_rfl) ?_
        refine (SM.out y7 hB.1).mono ?_
        rintro e y8 ⟨rfl, hb⟩
        have F5 := Lib.hid (F4.out.trans (hb.mono F4.out.size))
        clear hb
        replace hB : (fun wx : World => Below w0.heap.size w0 wx ∧ Below w6.heap.size w6 wx) y8 := ⟨DD.out _ F5.out, F5.out⟩
        refine ⟨_, rfl, hB, ?_⟩
        refine wpAnyH_take (i := 21) (v := .bool (!E)) rfl (by kernel_rfl) (by kernel_rfl) (by kernel_rfl) (fun _ _ _ h => h) (Or.inl ⟨by kernel_rfl, fun w' hw' => by go_simp⟩) hB ?_
        refine wpAnyH_take (i := 22) (v := .bool (!E)) rfl (by kernel_rfl) (by kernel_rfl) (by kernel_rfl) (fun _ _ _ h => h) (Or.inl ⟨by kernel_rfl, fun w' hw' => by go_simp⟩) hB ?_
        refine wpAnyH_take (i := 23) (v := .bool false) rfl (by kernel_rfl) (by kernel_rfl) (by kernel_rfl) (fun _ _ _ h => h) (Or.inl ⟨by kernel_rfl, fun w' hw' => exec_neqB (u := s) (v := (!E)) rfl (by kernel_rfl) (by kernel_rfl) (by rw [SF.out]; cases E <;> rfl)⟩) hB ?_
        refine wpAnyH_take (i := 24) (v := .bool false) rfl (by kernel_rfl) (by kernel_rfl) (by kernel_rfl) (fun _ _ _ h => h) (Or.inl ⟨by kernel_rfl, fun w' hw' => by go_simp⟩) hB ?_
        refine wpAnyH_done (by kernel_rfl) ?_ _
        go_simp
        have FIN := Lib.hid hB.1
        clear hB
        refine ‹∀ (a : Act) (w_1 : World), _ → _› _ _ ?_
        go_meet
        exact ⟨rfl, rfl, FIN⟩
  case rest =>
  obtain ⟨w7, hw7⟩ : ∃ x, x = wc := ⟨_, rfl⟩
  rw [← hw7] at hcut ⊢
  obtain ⟨rfl, rfl, D7⟩ := hcut
  clear hw7 QA QB EQ SM OB S0 S1 EI HQ Gv3
  go_upto_region 9 with fail
  go_cut [5, 6, 7, 111] (fun x y u v wx => x = .string X ∧ y = .string Y ∧ u = .bool s ∧ v = .bool false ∧ Hid (Below w0.heap.size w0 wx))
  case first =>
    cases s with
    | false =>
      obtain rfl := XE.out rfl
      obtain rfl := YE.out rfl
      go_wp2_with fail
      go_meet
      exact ⟨rfl, rfl, rfl, rfl, D7⟩
    | true =>
      have xy := XY.out rfl
      have hxy := xy
      replace RF := Lib.hid (RF.out rfl); replace RG := Lib.hid (RG.out rfl)
      go_wp2_with ((with_reducible refine wpList_loadG 28 _ rfl (by kernel_rfl) ?_); refine ⟨_, _, rfl, LA.out _ D7.out, ?_⟩)
      refine (RF.out w7 D7.out).mono ?_
      rintro e w8 ⟨rfl, hb⟩
      have D8 := Lib.hid (D7.out.trans (hb.mono D7.out.size))
      clear hb
      go_wp2_with ((with_reducible refine wpList_loadG 28 _ rfl (by kernel_rfl) ?_); refine ⟨_, _, rfl, LB.out _ D8.out, ?_⟩)
      refine (RG.out w8 D8.out).mono ?_
      rintro e w9 ⟨rfl, hb⟩
      have D9 := Lib.hid (D8.out.trans (hb.mono D8.out.size))
      clear hb
      go_wp2_with fail
      go_meet
      exact ⟨rfl, rfl, rfl, rfl, D9⟩
  case rest =>
  obtain ⟨w10, hw10⟩ : ∃ x, x = wc := ⟨_, rfl⟩
  rw [← hw10] at hcut ⊢
  obtain ⟨rfl, rfl, rfl, rfl, D10⟩ := hcut
  clear hw10 XE YE XY RF RG D7 LB
  go_upto_region 11 with fail
  refine wp_region_list ?_
  simp only []
  refine wpList_load 28 rfl _ rfl ⟨_, _, rfl, LA.out _ D10.out, ?_⟩
  go_wp2_with fail
  refine (OA.out w10 D10.out).mono ?_
  rintro e x1 ⟨cc, rfl, ho, hb⟩
  have DX1 := Lib.hid (D10.out.trans (hb.mono D10.out.size))
  obtain ⟨x2, s1, s2, s3⟩ := SC.out x1 _ cc x1 ho
  have ST := Lib.hid s1
  have Q3 := Lib.hid s2
  have O1 := Lib.hid (ho.on s3)
  have DX2 := Lib.hid (DX1.out.trans (s3.mono DX1.out.size))
  clear s1 s2 s3 ho hb D10
  go_upto_region 12 with (first
    | ((with_reducible refine wpList_run rfl (AC.out _ _ _ rfl) ?_))
    | ((with_reducible refine wpList_store 37 rfl _ _ rfl ?_); refine ⟨_, _, _, rfl, rfl, ST.out, ?_⟩))
  clear ST DX1 OA
  obtain ⟨q3, hq3⟩ : ∃ q, q = x1.heap.size := ⟨_, rfl⟩
  rw [← hq3] at Q3 ⊢
  clear hq3
  refine wp_region_list ?_
  simp only []
  refine wpList_load 37 rfl _ rfl ⟨_, _, rfl, LC.out _ _ _ _ _ O1.out Q3.out, ?_⟩
  go_wp2_with fail
  refine (CL.out x2 _ cc DX2.out O1.out).mono ?_
  rintro e x3 ⟨cd, rfl, ho, hb⟩
  obtain ⟨x4, s1, s2, s3⟩ := SC.out x3 _ cd x3 ho
  have ST := Lib.hid s1
  go_upto_region 13 with (first
    | ((with_reducible refine wpList_run rfl (AC.out _ _ _ rfl) ?_))
    | ((with_reducible refine wpList_store 37 rfl _ _ rfl ?_); refine ⟨_, _, _, rfl, rfl, ST.out, ?_⟩))
  obtain ⟨q4, hq4⟩ : ∃ q, q = x3.heap.size := ⟨_, rfl⟩
  rw [← hq4] at s2 ⊢
  obtain ⟨g2, r2, hcd, o1, o2⟩ := ho.on s3
  obtain ⟨aS, kS, hg2, oS⟩ := OwS.of o1
  obtain ⟨aI, kI, hr2, oI⟩ := OwI.of OKA.out.refs o2
  obtain ⟨ng, hng⟩ : ∃ n, n = a.groups.length := ⟨_, rfl⟩
  obtain ⟨nr, hnr⟩ : ∃ n, n = a.refs.length := ⟨_, rfl⟩
  rw [← hng] at hg2 oS gl
  rw [← hnr] at hr2 oI rl
  have c18 : cd[18]? = some (.slice aS ng kS) := by rw [hcd, hg2]; exact cn_18 OKA.out _ _
  have c20 : cd[20]? = some (.slice aI nr kI) := by rw [hcd, hr2]; exact cn_20 OKA.out _ _
  have C18 := Lib.hid c18; have C20 := Lib.hid c20
  have J0 : Hid (LcI x2 q4 cd aS ng aI nr x4) := Lib.hid ⟨hb.trans (s3.mono hb.size), s2, oS, oI⟩
  clear hq4 hcd o1 o2 hg2 oS hr2 oI hng hnr c18 c20 s1 s2 s3 ho hb ST SC AC
  go_wp2_with fail
  go_loopg [15] ng (fun k i wr => ∃ j : Nat, j ≤ ng ∧ k = ng - j ∧ i = .int .i64 (j : Int) ∧ Hid (LcI x2 q4 cd aS ng aI nr wr))
  case atStart => exact ⟨0, by omega, rfl, rfl, J0⟩
  case round =>
    clear J0
    obtain ⟨j, hj, rfl, rfl, J⟩ := hrel
    have k18 : wr.cell? ⟨q4, 18, none⟩ = some (.slice aS ng kS) := (cell_of_row wr q4 18 _ _ _ J.out.blk).trans C18.out
    by_cases hlt : j < ng
    · obtain ⟨h, w', hh, st, J', _⟩ := J.out.stepS hlt ⟨#[99, 104, 97, 110, 103, 101, 100]⟩
      subst hh
      have ST := Lib.hid st
      have J2 := Lib.hid J'
      clear st J'
      go_wp2_with ((with_reducible refine wpList_store 9 rfl _ _ rfl ?_); refine ⟨_, _, _, rfl, rfl, ST.out, ?_⟩)
      go_roundg (ng - (j + 1))
      case measure => omega
      case rel => exact ⟨j + 1, by omega, rfl, by go_num, J2⟩
    · obtain rfl : j = ng := by omega
      have J3 : Hid (LcI x2 q4 cd aS 0 aI nr wr) := Lib.hid ⟨J.out.bel, J.out.blk, fun h => by omega, J.out.ri⟩
      clear J hlt
      go_wp2_with fail
      go_loopg [16] nr (fun k i wr => ∃ j : Nat, j ≤ nr ∧ k = nr - j ∧ i = .int .i64 (j : Int) ∧ Hid (LcI x2 q4 cd aS 0 aI nr wr))
      case atStart => exact ⟨0, by omega, rfl, rfl, J3⟩
      case round =>
        clear J3 k18
        obtain ⟨j2, hj2, rfl, rfl, J⟩ := hrel
        have k20 : wr.cell? ⟨q4, 20, none⟩ = some (.slice aI nr kI) := (cell_of_row wr q4 20 _ _ _ J.out.blk).trans C20.out
        by_cases hlt : j2 < nr
        · obtain ⟨wd, hwd⟩ : ∃ x, x = wr.drew := ⟨_, rfl⟩
          have JD : Hid (LcI x2 q4 cd aS 0 aI nr wd) := Lib.hid (by rw [hwd]; exact J.out.drew)
          obtain ⟨h, x, hh, hx, stp⟩ := JD.out.stepI hlt
          subst hh
          obtain ⟨w', st, J'⟩ := stp (IntKind.u8.wrap (x + 1))
          have ST := Lib.hid st
          have J2 := Lib.hid J'
          have kd : wd.cell? ⟨q4, 20, none⟩ = some (.slice (some ⟨h, 0, none⟩) nr kI) := (cell_of_row wd q4 20 _ _ _ JD.out.blk).trans C20.out
          have HWD := Lib.hid hwd
          clear stp st J' hwd
          go_upto_region 20 with fail
          refine wp_region_still_tail 9 (by kernel_rfl) (by kernel_rfl) ?_
          simp only [List.take_succ_cons, List.take_zero, List.drop_succ_cons, List.drop_zero]
          change wpStill _ _ wr.drew (fun a' => wpList _ _ _ _ a' wr.drew) _ _
          rw [← HWD.out]
          repeat still_step
          refine wpStill_nil ?_
          refine wpList_store 5 rfl _ _ rfl ⟨_, _, _, rfl, rfl, ST.out, ?_⟩
          go_wp2_with fail
          go_roundg (nr - (j2 + 1))
          case measure => omega
          case rel => exact ⟨j2 + 1, by omega, rfl, by go_num, J2⟩
        · obtain rfl : j2 = nr := by omega
          have K0 : Hid (Below x2.heap.size x2 wr) := Lib.hid J.out.bel
          have LCC : Hid (∀ wx, Below x2.heap.size x2 wx → (loadVar 37 ⟨q3, 0, none⟩).run Tryz.prog wx = .ok (.agg cc) wx) := Lib.hid (fun wx h => LC.out wx q3 _ cc x2 O1.out ((h.block _ (lt_of_block Q3.out)).trans Q3.out))
          have LAX : Hid (∀ wx, Below x2.heap.size x2 wx → (loadVar 28 ⟨w.heap.size, 0, none⟩).run Tryz.prog wx = .ok (.agg ca) wx) := Lib.hid (fun wx h => LA.out wx (DX2.out.trans (h.mono DX2.out.size)))
          have DXX : Hid (∀ wx, Below x2.heap.size x2 wx → Below w0.heap.size w0 wx) := Lib.hid (fun wx h => DX2.out.trans (h.mono DX2.out.size))
          clear J hlt LC LA C18 C20 Q3
          go_upto_region 21 with fail
          refine wp_region_held (S := fun wx => Below x2.heap.size x2 wx) (by kernel_rfl) ?_
          change wpAnyH _ _ _ _ _ _ _ _ wr.drew
          obtain ⟨wd, hwd⟩ : ∃ wd, wd = wr.drew := ⟨_, rfl⟩
          rw [← hwd]
          have K1 : Hid (Below x2.heap.size x2 wd) := Lib.hid (by rw [hwd]; exact K0.out.drew)
          clear hwd K0
          have hB : (fun wx : World => Below x2.heap.size x2 wx) wd := K1.out
          refine wpAnyH_take (i := 0) (v := .agg cc) rfl (by kernel_rfl) (by kernel_rfl) (by kernel_rfl) (fun _ _ _ h => h) (Or.inl ⟨by kernel_rfl, fun w' hw' => exec_load (ty := 37) (x := .tmp 13) (ad := ⟨q3, 0, none⟩) rfl (by kernel_rfl) (LCC.out w' hw')⟩) hB ?_
          refine wpAnyH_take (i := 2) (v := .agg ca) rfl (by kernel_rfl) (by kernel_rfl) (by kernel_rfl) (fun _ _ _ h => h) (Or.inl ⟨by kernel_rfl, fun w' hw' => exec_load (ty := 28) (x := .tmp 2) (ad := ⟨w.heap.size, 0, none⟩) rfl (by kernel_rfl) (LAX.out w' hw')⟩) hB ?_
          refine anyH_one (i := 1) (by kernel_rfl) ?_
          refine any_call (f := 16) (args := #[.agg cc]) rfl rfl (by kernel_rfl) ?_
          refine (BK.out wd _ cc (DXX.out _ K1.out) (O1.out.on K1.out)).mono ?_
          rintro e y1 ⟨rfl, hb⟩
          have K2 := Lib.hid (K1.out.trans (hb.mono K1.out.size))
          clear hb
          replace hB : (fun wx : World => Below x2.heap.size x2 wx) y1 := K2.out
          refine ⟨_, rfl, hB, ?_⟩
          refine anyH_one (i := 3) (by kernel_rfl) ?_
          refine any_call (f := 13) (args := #[.agg cc, .agg ca]) rfl rfl (by kernel_rfl) ?_
          refine (SO.out y1 _ cc (DXX.out _ K2.out) (O1.out.on K2.out)).mono ?_
          rintro e y2 ⟨rfl, hb⟩
          have K3 := Lib.hid (K2.out.trans (hb.mono K2.out.size))
          clear hb
          replace hB : (fun wx : World => Below x2.heap.size x2 wx) y2 := K3.out
          refine ⟨_, rfl, hB, ?_⟩
          refine wpAnyH_take (i := 4) (v := .bool true) rfl (by kernel_rfl) (by kernel_rfl) (by kernel_rfl) (fun _ _ _ h => h) (Or.inl ⟨by kernel_rfl, fun w' hw' => by go_simp⟩) hB ?_
          refine wpAnyH_take (i := 5) (v := .agg cc) rfl (by kernel_rfl) (by kernel_rfl) (by kernel_rfl) (fun _ _ _ h => h) (Or.inl ⟨by kernel_rfl, fun w' hw' => exec_load (ty := 37) (x := .tmp 13) (ad := ⟨q3, 0, none⟩) rfl (by kernel_rfl) (LCC.out w' hw')⟩) hB ?_
          refine wpAnyH_take (i := 7) (v := .agg cc) rfl (by kernel_rfl) (by kernel_rfl) (by kernel_rfl) (fun _ _ _ h => h) (Or.inl ⟨by kernel_rfl, fun w' hw' => exec_load (ty := 37) (x := .tmp 13) (ad := ⟨q3, 0, none⟩) rfl (by kernel_rfl) (LCC.out w' hw')⟩) hB ?_
          refine anyH_callG (i := 6) (f := 15) (args := #[.agg cc]) (by kernel_rfl) rfl (by kernel_rfl) (by kernel_rfl) ?_
          refine (CL.out y2 _ cc (DXX.out _ K3.out) (O1.out.on K3.out)).mono ?_
          rintro e y3 ⟨ce, rfl, ho, hb⟩
          have K4 := Lib.hid (K3.out.trans (hb.mono K3.out.size))
          have HO := Lib.hid ho
          clear ho
          clear hb
          replace hB : (fun wx : World => Below x2.heap.size x2 wx) y3 := K4.out
          refine ⟨_, rfl, hB, ?_⟩
          refine anyH_callG (i := 8) (f := 12) (args := #[.agg ce, .agg cc]) (by kernel_rfl) rfl (by kernel_rfl) (by kernel_rfl) ?_
          refine (EO.out y3 _ ce _ cc (DXX.out _ K4.out) HO.out (O1.out.on K4.out)).mono ?_
          rintro e y4 ⟨rfl, hb⟩
          have K5 := Lib.hid (K4.out.trans (hb.mono K4.out.size))
          clear hb
          replace hB : (fun wx : World => Below x2.heap.size x2 wx) y4 := K5.out
          refine ⟨_, rfl, hB, ?_⟩
          refine wpAnyH_take (i := 9) (v := .bool true) rfl (by kernel_rfl) (by kernel_rfl) (by kernel_rfl) (fun _ _ _ h => h) (Or.inl ⟨by kernel_rfl, fun w' hw' => by go_simp⟩) hB ?_
          refine wpAnyH_take (i := 10) (v := .bool true) rfl (by kernel_rfl) (by kernel_rfl) (by kernel_rfl) (fun _ _ _ h => h) (Or.inl ⟨by kernel_rfl, fun w' hw' => by go_simp⟩) hB ?_
          refine wpAnyH_done (by kernel_rfl) ?_ _
          go_simp
          refine ‹∀ (a : Act) (w_1 : World), _ → _› _ _ ?_
          have FIN := Lib.hid (UB.out _ (DXX.out _ K5.out))
          clear hB
          go_wp2_with fail
          go_ret
          exact ⟨rfl, FIN⟩
end Go.Proofs.YtohmdledkhgdaaaGreatDoor
