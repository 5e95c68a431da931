/- sha256: plus, process. -/
import Derived.Test.YtohmdledkhgdaaaGreatDoorLo05
namespace Go.Proofs.YtohmdledkhgdaaaGreatDoor
open Go.RowKit Go.Maps
set_option linter.unusedVariables false
set_option maxRecDepth 100000
theorem plus_any (w : World) (x y : W8) :
    Calls Tryz.prog 163 #[.agg (wC x), .agg (wC y)] w fun e w' => e = .returned (.agg (wC (plusW x y))) ∧ Below w.heap.size w w' := by
  obtain ⟨w0, hw0⟩ : ∃ w0, w0 = ((w.alloc (.cells (wC x) 176)).alloc (.cells (wC y) 176)).alloc (.cells wZ 176) := ⟨_, rfl⟩
  have b0 : w0.heap[w.heap.size]? = some (.cells (wC x) 176 (0, 0)) := by rw [hw0]; exact alloc_block (alloc_block (heap_alloc_last w _))
  have b1 : w0.heap[w.heap.size + 1]? = some (.cells (wC y) 176 (0, 0)) := by
    rw [hw0]; have := heap_alloc_last (w.alloc (.cells (wC x) 176)) (.cells (wC y) 176); rw [World.size_alloc] at this; exact alloc_block this
  have b2 : w0.heap[w.heap.size + 2]? = some (.cells wZ 176 (0, 0)) := by
    rw [hw0]; have := heap_alloc_last ((w.alloc (.cells (wC x) 176)).alloc (.cells (wC y) 176)) (.cells wZ 176); rw [World.size_alloc, World.size_alloc] at this; exact this
  have BW : Hid (Below w.heap.size w w0) := Lib.hid (by rw [hw0]; exact (((Below.refl _ _).alloc (Nat.le_refl _) _).alloc (by simp) _).alloc (by simp; omega) _)
  have B2 := Lib.hid b2
  have hw0' := hw0
  unfold wC wZ at hw0'
  have W0 := Lib.hid hw0'
  have c0 : w0.cell? ⟨w.heap.size, 0, none⟩ = some (.int .u32 (x.a : Int)) := cell_of_row w0 _ 0 _ _ _ b0
  have c1 : w0.cell? ⟨w.heap.size, 1, none⟩ = some (.int .u32 (x.b : Int)) := cell_of_row w0 _ 1 _ _ _ b0
  have c2 : w0.cell? ⟨w.heap.size, 2, none⟩ = some (.int .u32 (x.c : Int)) := cell_of_row w0 _ 2 _ _ _ b0
  have c3 : w0.cell? ⟨w.heap.size, 3, none⟩ = some (.int .u32 (x.d : Int)) := cell_of_row w0 _ 3 _ _ _ b0
  have c4 : w0.cell? ⟨w.heap.size, 4, none⟩ = some (.int .u32 (x.e : Int)) := cell_of_row w0 _ 4 _ _ _ b0
  have c5 : w0.cell? ⟨w.heap.size, 5, none⟩ = some (.int .u32 (x.f : Int)) := cell_of_row w0 _ 5 _ _ _ b0
  have c6 : w0.cell? ⟨w.heap.size, 6, none⟩ = some (.int .u32 (x.g : Int)) := cell_of_row w0 _ 6 _ _ _ b0
  have c7 : w0.cell? ⟨w.heap.size, 7, none⟩ = some (.int .u32 (x.i : Int)) := cell_of_row w0 _ 7 _ _ _ b0
  have d0 : w0.cell? ⟨w.heap.size + 1, 0, none⟩ = some (.int .u32 (y.a : Int)) := cell_of_row w0 _ 0 _ _ _ b1
  have d1 : w0.cell? ⟨w.heap.size + 1, 1, none⟩ = some (.int .u32 (y.b : Int)) := cell_of_row w0 _ 1 _ _ _ b1
  have d2 : w0.cell? ⟨w.heap.size + 1, 2, none⟩ = some (.int .u32 (y.c : Int)) := cell_of_row w0 _ 2 _ _ _ b1
  have d3 : w0.cell? ⟨w.heap.size + 1, 3, none⟩ = some (.int .u32 (y.d : Int)) := cell_of_row w0 _ 3 _ _ _ b1
  have d4 : w0.cell? ⟨w.heap.size + 1, 4, none⟩ = some (.int .u32 (y.e : Int)) := cell_of_row w0 _ 4 _ _ _ b1
  have d5 : w0.cell? ⟨w.heap.size + 1, 5, none⟩ = some (.int .u32 (y.f : Int)) := cell_of_row w0 _ 5 _ _ _ b1
  have d6 : w0.cell? ⟨w.heap.size + 1, 6, none⟩ = some (.int .u32 (y.g : Int)) := cell_of_row w0 _ 6 _ _ _ b1
  have d7 : w0.cell? ⟨w.heap.size + 1, 7, none⟩ = some (.int .u32 (y.i : Int)) := cell_of_row w0 _ 7 _ _ _ b1
  have R : Hid (wC (plusW x y) = #[.int .u32 (((x.a : Int) + (y.a : Int)) % 4294967296), .int .u32 (((x.b : Int) + (y.b : Int)) % 4294967296), .int .u32 (((x.c : Int) + (y.c : Int)) % 4294967296), .int .u32 (((x.d : Int) + (y.d : Int)) % 4294967296), .int .u32 (((x.e : Int) + (y.e : Int)) % 4294967296), .int .u32 (((x.f : Int) + (y.f : Int)) % 4294967296), .int .u32 (((x.g : Int) + (y.g : Int)) % 4294967296), .int .u32 (((x.i : Int) + (y.i : Int)) % 4294967296)]) := Lib.hid (by unfold wC plusW; simp only [add32_cast])
  have e0 : w0.frozen? ⟨w.heap.size + 2, 0, none⟩ = false := freeB b2 0
  have g0 : w0.cell? ⟨w.heap.size + 2, 0, none⟩ = some (.int .u32 0) := cell_of_row w0 _ 0 _ _ _ b2
  have e1 : w0.frozen? ⟨w.heap.size + 2, 1, none⟩ = false := freeB b2 1
  have g1 : w0.cell? ⟨w.heap.size + 2, 1, none⟩ = some (.int .u32 0) := cell_of_row w0 _ 1 _ _ _ b2
  have e2 : w0.frozen? ⟨w.heap.size + 2, 2, none⟩ = false := freeB b2 2
  have g2 : w0.cell? ⟨w.heap.size + 2, 2, none⟩ = some (.int .u32 0) := cell_of_row w0 _ 2 _ _ _ b2
  have e3 : w0.frozen? ⟨w.heap.size + 2, 3, none⟩ = false := freeB b2 3
  have g3 : w0.cell? ⟨w.heap.size + 2, 3, none⟩ = some (.int .u32 0) := cell_of_row w0 _ 3 _ _ _ b2
  have e4 : w0.frozen? ⟨w.heap.size + 2, 4, none⟩ = false := freeB b2 4
  have g4 : w0.cell? ⟨w.heap.size + 2, 4, none⟩ = some (.int .u32 0) := cell_of_row w0 _ 4 _ _ _ b2
  have e5 : w0.frozen? ⟨w.heap.size + 2, 5, none⟩ = false := freeB b2 5
  have g5 : w0.cell? ⟨w.heap.size + 2, 5, none⟩ = some (.int .u32 0) := cell_of_row w0 _ 5 _ _ _ b2
  have e6 : w0.frozen? ⟨w.heap.size + 2, 6, none⟩ = false := freeB b2 6
  have g6 : w0.cell? ⟨w.heap.size + 2, 6, none⟩ = some (.int .u32 0) := cell_of_row w0 _ 6 _ _ _ b2
  have e7 : w0.frozen? ⟨w.heap.size + 2, 7, none⟩ = false := freeB b2 7
  have g7 : w0.cell? ⟨w.heap.size + 2, 7, none⟩ = some (.int .u32 0) := cell_of_row w0 _ 7 _ _ _ b2
  clear hw0 hw0' b0 b1 b2
  unfold wC
  go_enter Tryz.func163, Tryz.ntmps163
  go_upto_region 1 with fail
  rw [← W0.out, show w.heap.size + 1 + 1 = w.heap.size + 2 from rfl]
  clear W0
  go_wp2_with fail
  exact bodyPost_ret (results_cell_row Tryz.results163 _ _ (w.heap.size + 2) _ _ _ _ rfl (set8 (w := w0) B2.out _ _ _ _ _ _ _ _) Tryz.underlying176 rfl size_words) rfl ⟨(by have := R.out; unfold wC at this; rw [this]), below_set8 BW.out (Nat.le_add_right _ 2) _ _ _ _ _ _ _ _⟩
/-- A state in a block. -/
def VB (w : World) (b : Nat) (v : W8) : Prop := w.heap[b]? = some (.cells (wC v) 176 (0, 0))
theorem wC_size (v : W8) : (wC v).size = 8 := rfl
theorem wC_one (v : W8) : (wC v).all (·.oneCell') = true := by simp [wC, Value.oneCell']
theorem VB.lt {w : World} {b : Nat} {v : W8} (h : VB w b v) : b < w.heap.size := lt_of_block h
theorem VB.below {w w' : World} {b : Nat} {v : W8} (h : VB w b v) (hb : Below w.heap.size w w') : VB w' b v := (hb.block b h.lt).trans h
theorem VB.load {w : World} {b : Nat} {v : W8} (h : VB w b v) : (loadVar 176 ⟨b, 0, none⟩).run Tryz.prog w = .ok (.agg (wC v)) w :=
  run_loadVar_row w b _ 176 _ _ _ h Tryz.underlying176 rfl (by rw [wC_size]; exact size_words)
theorem VB.store {w : World} {b : Nat} {v : W8} (h : VB w b v) (v' : W8) : (storeVar 176 ⟨b, 0, none⟩ (.agg (wC v'))).run Tryz.prog w = .ok () (w.setRow b (wC v')) :=
  run_storeVar_row w b _ 176 _ _ h (by rw [wC_size]; exact size_words) (by rw [wC_size, wC_size]) (wC_one v')
theorem VB.set {w : World} {b : Nat} {v : W8} (h : VB w b v) (v' : W8) : VB (w.setRow b (wC v')) b v' := setRow_heap w b _ _ _ _ h
theorem VB.other {w : World} {b k : Nat} {v : W8} (h : VB w k v) (cs : Array Value) (hne : k ≠ b) : VB (w.setRow b cs) k v := (setRow_other w b k cs hne).trans h
theorem WB.other {w : World} {b k : Nat} {T : TypeId} {ws : List Nat} (h : WB w k T ws) (cs : Array Value) (hne : k ≠ b) : WB (w.setRow b cs) k T ws := (setRow_other w b k cs hne).trans h
theorem VB.setC {w : World} {b k : Nat} {v : W8} (h : VB w k v) (j : Nat) (u : Value) (hne : k ≠ b) : VB (w.setCell ⟨b, j, none⟩ u) k v := (otherB w b j k u hne).trans h
/-- The 64 steps: the state stays one. -/
theorem prSt_ok {h : W8} {ws : List Nat} (hh : h.Ok) (hw : L16 ws) (n : Nat) : (prSt h ws n).1.Ok ∧ L16 (prSt h ws n).2 := by
  induction n with
  | zero => exact ⟨hh, hw⟩
  | succ n ih =>
    rw [prSt_succ]
    refine ⟨rnd_ok ih.1 _ _, ?_⟩
    show L16 (wStep _ n)
    unfold wStep
    split
    · exact ih.2
    · exact ih.2.set _ (add_lt _ _)
theorem shK_lt : ∀ i, shK.getD i 0 < 4294967296 := fun i => by
  by_cases hi : i < shK.length
  · have : ∀ i : Fin 64, shK.getD i.val 0 < 4294967296 := by decide +kernel
    exact this ⟨i, hi⟩
  · rw [List.getD_eq_getElem?_getD, List.getElem?_eq_none (by omega)]; decide
set_option maxHeartbeats 4000000 in
theorem process_any (w : World) {h : W8} {ws : List Nat} (hh : h.Ok) (hw : L16 ws) (hE : Env w) :
    Calls Tryz.prog 122 #[.agg (wC h), .agg (wA ws)] w fun e w' => e = .returned (.agg (wC (procF h ws))) ∧ Below w.heap.size w w' := by
  obtain ⟨hs, hhs⟩ : ∃ hs, hs = wC h := ⟨_, rfl⟩
  obtain ⟨cs, hcs⟩ : ∃ cs, cs = wA ws := ⟨_, rfl⟩
  obtain ⟨zs, hzs⟩ : ∃ zs, zs = wC ⟨0, 0, 0, 0, 0, 0, 0, 0⟩ := ⟨_, rfl⟩
  have Z0 : Hid (zs = wZ) := Lib.hid hzs
  obtain ⟨w0, hw0⟩ : ∃ w0, w0 = ((w.alloc (.cells hs 176)).alloc (.cells cs 182)).alloc (.cells zs 176) := ⟨_, rfl⟩
  have b0 : VB w0 w.heap.size h := by unfold VB; rw [hw0, ← hhs]; exact alloc_block (alloc_block (heap_alloc_last w _))
  have b1 : WB w0 (w.heap.size + 1) 182 ws := by
    unfold WB; rw [hw0, ← hcs]; have := heap_alloc_last (w.alloc (.cells hs 176)) (.cells cs 182); rw [World.size_alloc] at this; exact alloc_block this
  have b2 : VB w0 (w.heap.size + 2) ⟨0, 0, 0, 0, 0, 0, 0, 0⟩ := by
    unfold VB; rw [hw0, ← hzs]; have := heap_alloc_last ((w.alloc (.cells hs 176)).alloc (.cells cs 182)) (.cells zs 176); rw [World.size_alloc, World.size_alloc] at this; exact this
  have sz0 : w0.heap.size = w.heap.size + 3 := by rw [hw0]; simp
  have BW : Hid (Below w.heap.size w w0) := Lib.hid (by rw [hw0]; exact (((Below.refl _ _).alloc (Nat.le_refl _) _).alloc (by simp) _).alloc (by simp; omega) _)
  have W0 := Lib.hid hw0
  have LD := Lib.hid b0.load
  obtain ⟨w1, hw1⟩ : ∃ w1, w1 = w0.alloc (.cells zs 176) := ⟨_, rfl⟩
  have c3 : VB w1 (w.heap.size + 3) ⟨0, 0, 0, 0, 0, 0, 0, 0⟩ := by unfold VB; rw [hw1, ← hzs, ← sz0]; exact heap_alloc_last w0 _
  have ST := Lib.hid (c3.store h)
  have BW1 : Below w0.heap.size w0 w1 := by rw [hw1]; exact (Below.refl _ _).alloc (Nat.le_refl _) _
  have HB0 := Lib.hid ((b0.below BW1).other (wC h) (show w.heap.size ≠ w.heap.size + 3 by omega))
  have HB1 := Lib.hid ((b1.below BW1).other (wC h) (show w.heap.size + 1 ≠ w.heap.size + 3 by omega))
  have HB2 := Lib.hid ((b2.below BW1).other (wC h) (show w.heap.size + 2 ≠ w.heap.size + 3 by omega))
  have HB3 := Lib.hid (c3.set h)
  have BW2 := Lib.hid (below_setRow (BW.out.trans (BW1.mono (by omega))) (Nat.le_add_right w.heap.size 3) (wC h))
  have W1 := Lib.hid hw1
  rw [← hhs] at LD ST HB0 HB1 HB2 HB3 BW2 ⊢
  rw [← hcs]
  have HE := Lib.hid hE; have HH := Lib.hid hh; have HW := Lib.hid hw; have SZ0 := Lib.hid sz0
  clear hw0 hw1 b0 b1 b2 c3 BW1 hzs hhs hcs hE hh hw sz0
  go_enter Tryz.func122, Tryz.ntmps122
  go_upto_region 1 with fail
  have W0' := W0.out
  rw [Z0.out] at W0'
  unfold wZ at W0'
  rw [← W0', show w.heap.size + 1 + 1 = w.heap.size + 2 from rfl]
  clear W0' W0
  obtain ⟨w2, hw2⟩ : ∃ w2, w2 = w1.setRow (w.heap.size + 3) hs := ⟨_, rfl⟩
  rw [← hw2] at ST HB0 HB1 HB2 HB3 BW2
  have ST2 : Hid ((storeVar 176 ⟨w0.heap.size, 0, none⟩ (.agg hs)).run Tryz.prog (w0.alloc (.cells #[.int .u32 0, .int .u32 0, .int .u32 0, .int .u32 0, .int .u32 0, .int .u32 0, .int .u32 0, .int .u32 0] 176)) = .ok () w2) := Lib.hid (by
    have := ST.out
    rw [W1.out, Z0.out] at this
    rw [SZ0.out]
    exact this)
  clear hw2 ST W1 BW
  refine wp_region_list ?_
  simp only []
  refine wpList_load 176 rfl _ rfl ⟨_, _, rfl, LD.out, ?_⟩
  clear LD
  go_upto_region 2 with ((with_reducible refine wpList_store 176 rfl _ _ rfl ?_); refine ⟨_, _, _, rfl, rfl, ST2.out, ?_⟩)
  rw [SZ0.out]
  clear ST2 SZ0
  go_wp2_with fail
  go_loopg [6, 7, 8, 9, 10, 12] 64 (fun k v6 v7 v8 v9 v10 i wr => ∃ j : Nat, j ≤ 64 ∧ k = 64 - j ∧ i = .int .i64 (j : Int) ∧ VB wr w.heap.size h ∧ WB wr (w.heap.size + 1) 182 (prSt h ws j).2 ∧ VB wr (w.heap.size + 2) ⟨0, 0, 0, 0, 0, 0, 0, 0⟩ ∧ VB wr (w.heap.size + 3) (prSt h ws j).1 ∧ Below w.heap.size w wr)
  case atStart => exact ⟨0, by omega, rfl, rfl, HB0.out, HB1.out, HB2.out, HB3.out, BW2.out⟩
  case round =>
    clear HB0 HB1 HB2 HB3 BW2
    obtain ⟨j, hj, rfl, rfl, h0, h1, h2, h3, hbw⟩ := hrel
    have HE1 := Lib.hid (HE.out.below hbw HE.out.size)
    have HB := Lib.hid hbw
    have G0 := Lib.hid h0; have G1 := Lib.hid h1; have G2 := Lib.hid h2; have G3 := Lib.hid h3
    have OK := Lib.hid (prSt_ok HH.out HW.out j)
    have NX := Lib.hid (prSt_succ h ws j)
    clear h0 h1 h2 h3 hbw
-- round
    obtain ⟨v, hv⟩ : ∃ v, v = (prSt h ws j).1 := ⟨_, rfl⟩
    obtain ⟨W, hW⟩ : ∃ W, W = (prSt h ws j).2 := ⟨_, rfl⟩
    rw [← hv] at G3 OK
    rw [← hW] at G1 OK
    have NX1 : Hid (∀ W', wStep W j = W' → prSt h ws (j + 1) = (rnd v (shK.getD j 0) (W'.getD (j % 16) 0), W')) := Lib.hid (by rintro W' rfl; rw [NX.out]; unfold prStep; rw [← hv, ← hW])
    have HV := Lib.hid hv
    clear hv hW NX
    by_cases hlt : j < 64
    · by_cases h16 : j < 16
      · have HWW : Hid (wStep W j = W) := Lib.hid (by unfold wStep; rw [if_pos h16])
        have LW := Lib.hid OK.out.2
        have Z0 := Lib.hid G0.out; have Z1 := Lib.hid G1.out; have Z2 := Lib.hid G2.out; have Z3 := Lib.hid G3.out; have ZE := Lib.hid HE1.out; have ZB := Lib.hid HB.out
        clear G0 G1 G2 G3 HE1 HB HV
        have h16' : ¬ (16 : Int) ≤ (j : Int) := by omega
        obtain ⟨kk, hkk⟩ : ∃ kk, kk = shK.getD j 0 := ⟨_, rfl⟩
        have hk2 : kk < 4294967296 := by rw [hkk]; exact shK_lt j
        obtain ⟨t, ht⟩ : ∃ t, t = W.getD (j % 16) 0 := ⟨_, rfl⟩
        have ht2 : t < 4294967296 := by rw [ht]; exact LW.out.at _
        obtain ⟨wY, hY⟩ : ∃ wY, wY = wr.drew := ⟨_, rfl⟩
        have dY : Below wr.heap.size wr wY := by rw [hY]; exact (Below.refl _ _).drew
        obtain ⟨q, hq⟩ : ∃ q, q = j % 16 := ⟨_, rfl⟩
        have hq2 : q < 16 := by omega
        have jt : (j : Int).tmod 16 = (q : Int) := by rw [Int.tmod_eq_emod_of_nonneg (by omega)]; omega
        have q0 : (0 : Int) ≤ (q : Int) := by omega
        have q1 : (q : Int) < 16 := by omega
        have cK : wY.cell? ⟨1, j, none⟩ = some (.int .u32 ((kk : Nat) : Int)) := by rw [hkk]; exact (ZE.out.on dY).sha j hlt
        have cT : wY.cell? ⟨w.heap.size + 1, q, none⟩ = some (.int .u32 ((t : Nat) : Int)) := by rw [ht, ← hq]; exact (Z1.out.below dY).cell (by rw [LW.out.len]; exact hq2)
        have RD := Lib.hid (round_any wY v kk t OK.out.1 hk2 ht2)
        have LV := Lib.hid ((Z3.out.below dY).load)
        have NX2 := Lib.hid (NX1.out W HWW.out)
        rw [← hkk, ← ht] at NX2
        have FIN : Hid (∀ w4, Below wY.heap.size wY w4 → (storeVar 176 ⟨w.heap.size + 3, 0, none⟩ (.agg (wC (rnd v kk t)))).run Tryz.prog w4 = .ok () (w4.setRow (w.heap.size + 3) (wC (rnd v kk t))) ∧ VB (w4.setRow (w.heap.size + 3) (wC (rnd v kk t))) w.heap.size h ∧ WB (w4.setRow (w.heap.size + 3) (wC (rnd v kk t))) (w.heap.size + 1) 182 (prSt h ws (j + 1)).2 ∧ VB (w4.setRow (w.heap.size + 3) (wC (rnd v kk t))) (w.heap.size + 2) ⟨0, 0, 0, 0, 0, 0, 0, 0⟩ ∧ VB (w4.setRow (w.heap.size + 3) (wC (rnd v kk t))) (w.heap.size + 3) (prSt h ws (j + 1)).1 ∧ Below w.heap.size w (w4.setRow (w.heap.size + 3) (wC (rnd v kk t)))) := Lib.hid (by
          intro w4 hb4
          have x3 := (Z3.out.below dY).below hb4
          refine ⟨x3.store _, ((Z0.out.below dY).below hb4).other _ (by omega), ?_, ((Z2.out.below dY).below hb4).other _ (by omega), ?_, below_setRow ((ZB.out.trans (dY.mono ZB.out.size)).trans (hb4.mono (Nat.le_trans ZB.out.size dY.size))) (Nat.le_add_right _ 3) _⟩
          · rw [NX2.out]; exact ((Z1.out.below dY).below hb4).other _ (by omega)
          · rw [NX2.out]; exact x3.set _)
        obtain ⟨vs, hvs⟩ : ∃ vs, vs = wC v := ⟨_, rfl⟩
        obtain ⟨rs, hrs⟩ : ∃ rs, rs = wC (rnd v kk t) := ⟨_, rfl⟩
        rw [← hvs, ← hrs] at RD
        rw [← hvs] at LV
        rw [← hrs] at FIN
        clear hkk ht hq dY hvs hrs NX1 NX2 Z0 Z1 Z2 Z3 ZE ZB
        go_upto_region 10 with fail
        refine wp_region_still_tail 8 (by kernel_rfl) (by kernel_rfl) ?_
        simp only [List.take_succ_cons, List.take_zero, List.drop_succ_cons, List.drop_zero]
        change wpStill _ _ wr.drew (fun a' => wpList _ _ _ _ a' wr.drew) _ _
        rw [← hY]
        clear hY
        refine wpStill_load 176 rfl _ rfl ⟨_, _, rfl, LV.out, ?_⟩
        repeat still_step
        refine wpStill_nil ?_
        go_wp2_with fail
        refine RD.out.mono ?_
        rintro e w4 ⟨rfl, hb4⟩
        obtain ⟨f0, f1, f2, f3, f4, f5⟩ := FIN.out w4 hb4
        obtain ⟨w5, hw5⟩ : ∃ w5, w5 = w4.setRow (w.heap.size + 3) rs := ⟨_, rfl⟩
        rw [← hw5] at f0 f1 f2 f3 f4 f5
        have F0 := Lib.hid f0; have F1 := Lib.hid f1; have F2 := Lib.hid f2; have F3 := Lib.hid f3; have F4 := Lib.hid f4; have F5 := Lib.hid f5
        clear f0 f1 f2 f3 f4 f5 hw5 hb4 FIN RD LV cK cT
        go_wp2_with ((with_reducible refine wpList_store 176 rfl _ _ rfl ?_); refine ⟨_, _, _, rfl, rfl, F0.out, ?_⟩)
        go_roundg (64 - (j + 1))
        case measure => omega
        case rel => exact ⟨j + 1, by omega, rfl, by go_num, F1.out, F2.out, F3.out, F4.out, F5.out⟩
      · obtain ⟨qa, hqa⟩ : ∃ q, q = (j - 15) % 16 := ⟨_, rfl⟩
        obtain ⟨qb, hqb⟩ : ∃ q, q = (j - 2) % 16 := ⟨_, rfl⟩
        obtain ⟨qc, hqc⟩ : ∃ q, q = (j - 7) % 16 := ⟨_, rfl⟩
        obtain ⟨qd, hqd⟩ : ∃ q, q = j % 16 := ⟨_, rfl⟩
        have ja : ((j : Int) - 15).tmod 16 = (qa : Int) := by rw [Int.tmod_eq_emod_of_nonneg (by omega)]; omega
        have jb : ((j : Int) - 2).tmod 16 = (qb : Int) := by rw [Int.tmod_eq_emod_of_nonneg (by omega)]; omega
        have jc : ((j : Int) - 7).tmod 16 = (qc : Int) := by rw [Int.tmod_eq_emod_of_nonneg (by omega)]; omega
        have jd : (j : Int).tmod 16 = (qd : Int) := by rw [Int.tmod_eq_emod_of_nonneg (by omega)]; omega
        have wa : IntKind.i64.wrap ((j : Int) - 15) = (j : Int) - 15 := IntWalk.i64_in _ (by omega)
        have wb : IntKind.i64.wrap ((j : Int) - 2) = (j : Int) - 2 := IntWalk.i64_in _ (by omega)
        have wc : IntKind.i64.wrap ((j : Int) - 7) = (j : Int) - 7 := IntWalk.i64_in _ (by omega)
        have a0 : (0 : Int) ≤ (qa : Int) := by omega
        have a1 : (qa : Int) < 16 := by omega
        have b0 : (0 : Int) ≤ (qb : Int) := by omega
        have b1 : (qb : Int) < 16 := by omega
        have c0 : (0 : Int) ≤ (qc : Int) := by omega
        have c1 : (qc : Int) < 16 := by omega
        have d0 : (0 : Int) ≤ (qd : Int) := by omega
        have d1 : (qd : Int) < 16 := by omega
        obtain ⟨x, hx⟩ : ∃ x, x = W.getD qa 0 := ⟨_, rfl⟩
        obtain ⟨y, hy⟩ : ∃ x, x = W.getD qb 0 := ⟨_, rfl⟩
        obtain ⟨z, hz⟩ : ∃ x, x = W.getD qc 0 := ⟨_, rfl⟩
        obtain ⟨u, hu⟩ : ∃ x, x = W.getD qd 0 := ⟨_, rfl⟩
        have lx : x < 4294967296 := by rw [hx]; exact OK.out.2.at _
        have ly : y < 4294967296 := by rw [hy]; exact OK.out.2.at _
        have cx : wr.cell? ⟨w.heap.size + 1, qa, none⟩ = some (.int .u32 ((x : Nat) : Int)) := by rw [hx]; exact G1.out.cell (by rw [OK.out.2.len]; omega)
        have cy : wr.cell? ⟨w.heap.size + 1, qb, none⟩ = some (.int .u32 ((y : Nat) : Int)) := by rw [hy]; exact G1.out.cell (by rw [OK.out.2.len]; omega)
        obtain ⟨s0, hs0⟩ : ∃ s, s = rot x 7 ^^^ rot x 18 ^^^ x / 2 ^ 3 := ⟨_, rfl⟩
        obtain ⟨s1, hs1⟩ : ∃ s, s = rot y 17 ^^^ rot y 19 ^^^ y / 2 ^ 10 := ⟨_, rfl⟩
        have X0 : Hid (bits .xor .u32 (bits .xor .u32 ((rot x 7 : Nat) : Int) ((rot x 18 : Nat) : Int)) ((x : Int) / 8) = (s0 : Int)) := Lib.hid (by
          rw [u32_xor_nat _ _ (rot_lt lx) (rot_lt lx), show ((x : Int) / 8) = ((x / 2 ^ 3 : Nat) : Int) by omega, u32_xor_nat _ _ (xor_lt (rot_lt lx) (rot_lt lx)) (Nat.lt_of_le_of_lt (Nat.div_le_self _ _) lx), hs0])
        have X1 : Hid (bits .xor .u32 (bits .xor .u32 ((rot y 17 : Nat) : Int) ((rot y 19 : Nat) : Int)) ((y : Int) / 1024) = (s1 : Int)) := Lib.hid (by
          rw [u32_xor_nat _ _ (rot_lt ly) (rot_lt ly), show ((y : Int) / 1024) = ((y / 2 ^ 10 : Nat) : Int) by omega, u32_xor_nat _ _ (xor_lt (rot_lt ly) (rot_lt ly)) (Nat.lt_of_le_of_lt (Nat.div_le_self _ _) ly), hs1])
        have l0 : s0 < 4294967296 := by rw [hs0]; exact xor_lt (xor_lt (rot_lt lx) (rot_lt lx)) (Nat.lt_of_le_of_lt (Nat.div_le_self _ _) lx)
        have l1 : s1 < 4294967296 := by rw [hs1]; exact xor_lt (xor_lt (rot_lt ly) (rot_lt ly)) (Nat.lt_of_le_of_lt (Nat.div_le_self _ _) ly)
        obtain ⟨nw, hnw⟩ : ∃ n, n = add32 u (add32 (add32 s0 s1) z) := ⟨_, rfl⟩
        obtain ⟨W2, hW2⟩ : ∃ W2, W2 = W.set qd nw := ⟨_, rfl⟩
        have HWW : Hid (wStep W j = W2) := Lib.hid (by
          unfold wStep wNew
          rw [if_neg h16, hW2, hnw, hs0, hs1, hx, hy, hz, hu, hqa, hqb, hqc, hqd])
        have LW : Hid (L16 W2) := Lib.hid (by rw [hW2]; exact OK.out.2.set _ (by rw [hnw]; exact add_lt _ _))
        have R1 := Lib.hid (fun w => rot_any w x lx 7 (by decide) (by decide) 7 rfl)
        have R2 := Lib.hid (fun w => rot_any w x lx 18 (by decide) (by decide) 18 rfl)
        have R3 := Lib.hid (fun w => rot_any w y ly 17 (by decide) (by decide) 17 rfl)
        have R4 := Lib.hid (fun w => rot_any w y ly 19 (by decide) (by decide) 19 rfl)
        have NW : Hid (((nw : Nat) : Int) = ((u : Int) + (((s0 : Int) + (s1 : Int)) % 4294967296 + (z : Int)) % 4294967296) % 4294967296) := Lib.hid (by rw [hnw]; unfold add32; omega)
        have HZ := Lib.hid hz; have HU := Lib.hid hu
        have h16' : (16 : Int) ≤ (j : Int) := by omega
        clear hs0 hs1 hx hy hz hu hqa hqb hqc hqd hnw
        go_upto_region 6 with fail
        go_quiet (fail)
        obtain ⟨wk, hwk⟩ : ∃ wk, wk = wr.drewN nq := ⟨_, rfl⟩
        have dk : Below wr.heap.size wr wk := by rw [hwk]; exact Dr.below ⟨nq, rfl⟩
        rw [← hwk]
        clear cx cy hwk
        go_upto_region 8 with (first | (go_at_call 161; first | (with_reducible refine (R1.out _).mono ?_; rintro e w' ⟨rfl, rfl⟩) | (with_reducible refine (R2.out _).mono ?_; rintro e w' ⟨rfl, rfl⟩)))
        rw [X0.out]
        clear R1 R2 X0
        go_upto_region 9 with (first | (go_at_call 161; first | (with_reducible refine (R3.out _).mono ?_; rintro e w' ⟨rfl, rfl⟩) | (with_reducible refine (R4.out _).mono ?_; rintro e w' ⟨rfl, rfl⟩)))
        rw [X1.out]
        clear R3 R4 X1
        obtain ⟨wm, hwm⟩ : ∃ wm, wm = wk.drew := ⟨_, rfl⟩
        have dm : Below wr.heap.size wr wm := dk.trans (by rw [hwm]; exact ((Below.refl wk.heap.size wk).drew).mono dk.size)
        have K1 := G1.out.below dm
        have cu : wm.cell? ⟨w.heap.size + 1, qd, none⟩ = some (.int .u32 ((u : Nat) : Int)) := by rw [HU.out]; exact K1.cell (by rw [OK.out.2.len]; omega)
        have cz : wm.cell? ⟨w.heap.size + 1, qc, none⟩ = some (.int .u32 ((z : Nat) : Int)) := by rw [HZ.out]; exact K1.cell (by rw [OK.out.2.len]; omega)
        have fu : wm.frozen? ⟨w.heap.size + 1, qd, none⟩ = false := freeB K1 qd
        obtain ⟨wz, hwz⟩ : ∃ wz, wz = wm.setCell ⟨w.heap.size + 1, qd, none⟩ (.int .u32 ((nw : Nat) : Int)) := ⟨_, rfl⟩
        have ZB : Hid (Below w.heap.size w wz) := Lib.hid (by rw [hwz]; exact (HB.out.trans (dm.mono HB.out.size)).setCell (Nat.le_add_right _ 1) _)
        have Z1 : Hid (WB wz (w.heap.size + 1) 182 W2) := Lib.hid (by rw [hwz, hW2]; exact K1.set _ _)
        have Z0 : Hid (VB wz w.heap.size h) := Lib.hid (by rw [hwz]; exact (G0.out.below dm).setC _ _ (by omega))
        have Z2 : Hid (VB wz (w.heap.size + 2) ⟨0, 0, 0, 0, 0, 0, 0, 0⟩) := Lib.hid (by rw [hwz]; exact (G2.out.below dm).setC _ _ (by omega))
        have Z3 : Hid (VB wz (w.heap.size + 3) v) := Lib.hid (by rw [hwz]; exact (G3.out.below dm).setC _ _ (by omega))
        have ZE : Hid (Env wz) := Lib.hid (HE.out.below ZB.out HE.out.size)
        have WZ' := Lib.hid hwz
        clear G0 G1 G2 G3 HE1 HB HV dk dm K1 HU HZ hwz hW2
        refine wp_region_still_tail 15 (by kernel_rfl) (by kernel_rfl) ?_
        simp only [List.take_succ_cons, List.take_zero, List.drop_succ_cons, List.drop_zero]
        change wpStill _ _ wk.drew (fun a' => wpList _ _ _ _ a' wk.drew) _ _
        rw [← hwm]
        clear hwm
        repeat still_step
        refine wpStill_nil ?_
        go_upto_region 10 with fail
        rw [← NW.out, ← WZ'.out]
        clear WZ' NW cu cz fu ja jb jc jd wa wb wc
        obtain ⟨kk, hkk⟩ : ∃ kk, kk = shK.getD j 0 := ⟨_, rfl⟩
        have hk2 : kk < 4294967296 := by rw [hkk]; exact shK_lt j
        obtain ⟨t, ht⟩ : ∃ t, t = W2.getD (j % 16) 0 := ⟨_, rfl⟩
        have ht2 : t < 4294967296 := by rw [ht]; exact LW.out.at _
        obtain ⟨wY, hY⟩ : ∃ wY, wY = wz.drew := ⟨_, rfl⟩
        have dY : Below wz.heap.size wz wY := by rw [hY]; exact (Below.refl _ _).drew
        obtain ⟨q, hq⟩ : ∃ q, q = j % 16 := ⟨_, rfl⟩
        have hq2 : q < 16 := by omega
        have jt : (j : Int).tmod 16 = (q : Int) := by rw [Int.tmod_eq_emod_of_nonneg (by omega)]; omega
        have q0 : (0 : Int) ≤ (q : Int) := by omega
        have q1 : (q : Int) < 16 := by omega
        have cK : wY.cell? ⟨1, j, none⟩ = some (.int .u32 ((kk : Nat) : Int)) := by rw [hkk]; exact (ZE.out.on dY).sha j hlt
        have cT : wY.cell? ⟨w.heap.size + 1, q, none⟩ = some (.int .u32 ((t : Nat) : Int)) := by rw [ht, ← hq]; exact (Z1.out.below dY).cell (by rw [LW.out.len]; exact hq2)
        have RD := Lib.hid (round_any wY v kk t OK.out.1 hk2 ht2)
        have LV := Lib.hid ((Z3.out.below dY).load)
        have NX2 := Lib.hid (NX1.out W2 HWW.out)
        rw [← hkk, ← ht] at NX2
        have FIN : Hid (∀ w4, Below wY.heap.size wY w4 → (storeVar 176 ⟨w.heap.size + 3, 0, none⟩ (.agg (wC (rnd v kk t)))).run Tryz.prog w4 = .ok () (w4.setRow (w.heap.size + 3) (wC (rnd v kk t))) ∧ VB (w4.setRow (w.heap.size + 3) (wC (rnd v kk t))) w.heap.size h ∧ WB (w4.setRow (w.heap.size + 3) (wC (rnd v kk t))) (w.heap.size + 1) 182 (prSt h ws (j + 1)).2 ∧ VB (w4.setRow (w.heap.size + 3) (wC (rnd v kk t))) (w.heap.size + 2) ⟨0, 0, 0, 0, 0, 0, 0, 0⟩ ∧ VB (w4.setRow (w.heap.size + 3) (wC (rnd v kk t))) (w.heap.size + 3) (prSt h ws (j + 1)).1 ∧ Below w.heap.size w (w4.setRow (w.heap.size + 3) (wC (rnd v kk t)))) := Lib.hid (by
          intro w4 hb4
          have x3 := (Z3.out.below dY).below hb4
          refine ⟨x3.store _, ((Z0.out.below dY).below hb4).other _ (by omega), ?_, ((Z2.out.below dY).below hb4).other _ (by omega), ?_, below_setRow ((ZB.out.trans (dY.mono ZB.out.size)).trans (hb4.mono (Nat.le_trans ZB.out.size dY.size))) (Nat.le_add_right _ 3) _⟩
          · rw [NX2.out]; exact ((Z1.out.below dY).below hb4).other _ (by omega)
          · rw [NX2.out]; exact x3.set _)
        obtain ⟨vs, hvs⟩ : ∃ vs, vs = wC v := ⟨_, rfl⟩
        obtain ⟨rs, hrs⟩ : ∃ rs, rs = wC (rnd v kk t) := ⟨_, rfl⟩
        rw [← hvs, ← hrs] at RD
        rw [← hvs] at LV
        rw [← hrs] at FIN
        clear hkk ht hq dY hvs hrs NX1 NX2 Z0 Z1 Z2 Z3 ZE ZB
        go_upto_region 10 with fail
        refine wp_region_still_tail 8 (by kernel_rfl) (by kernel_rfl) ?_
        simp only [List.take_succ_cons, List.take_zero, List.drop_succ_cons, List.drop_zero]
        change wpStill _ _ wz.drew (fun a' => wpList _ _ _ _ a' wz.drew) _ _
        rw [← hY]
        clear hY
        refine wpStill_load 176 rfl _ rfl ⟨_, _, rfl, LV.out, ?_⟩
        repeat still_step
        refine wpStill_nil ?_
        go_wp2_with fail
        refine RD.out.mono ?_
        rintro e w4 ⟨rfl, hb4⟩
        obtain ⟨f0, f1, f2, f3, f4, f5⟩ := FIN.out w4 hb4
        obtain ⟨w5, hw5⟩ : ∃ w5, w5 = w4.setRow (w.heap.size + 3) rs := ⟨_, rfl⟩
        rw [← hw5] at f0 f1 f2 f3 f4 f5
        have F0 := Lib.hid f0; have F1 := Lib.hid f1; have F2 := Lib.hid f2; have F3 := Lib.hid f3; have F4 := Lib.hid f4; have F5 := Lib.hid f5
        clear f0 f1 f2 f3 f4 f5 hw5 hb4 FIN RD LV cK cT
        go_wp2_with ((with_reducible refine wpList_store 176 rfl _ _ rfl ?_); refine ⟨_, _, _, rfl, rfl, F0.out, ?_⟩)
        go_roundg (64 - (j + 1))
        case measure => omega
        case rel => exact ⟨j + 1, by omega, rfl, by go_num, F1.out, F2.out, F3.out, F4.out, F5.out⟩
    · obtain rfl : j = 64 := by omega
      have PL := Lib.hid (fun w => plus_any w h v)
      have L0 := Lib.hid G0.out.load
      have L3 := Lib.hid G3.out.load
      have FIN : Hid (∀ w4, Below wr.heap.size wr w4 → (storeVar 176 ⟨w.heap.size + 2, 0, none⟩ (.agg (wC (plusW h v)))).run Tryz.prog w4 = .ok () (w4.setRow (w.heap.size + 2) (wC (plusW h v))) ∧ VB (w4.setRow (w.heap.size + 2) (wC (plusW h v))) (w.heap.size + 2) (plusW h v) ∧ Below w.heap.size w (w4.setRow (w.heap.size + 2) (wC (plusW h v)))) := Lib.hid (by
        intro w4 hb4
        have x2 := G2.out.below hb4
        exact ⟨x2.store _, x2.set _, below_setRow (HB.out.trans (hb4.mono HB.out.size)) (Nat.le_add_right _ 2) _⟩)
      have RES : Hid (wC (procF h ws) = wC (plusW h v)) := Lib.hid (by unfold procF; rw [← HV.out])
      have SZ : Hid ((Tryz.prog.info? 176).map (·.size) = some (wC (plusW h v)).size) := Lib.hid (by rw [wC_size]; exact size_words)
      obtain ⟨h1, hh1⟩ : ∃ h1, h1 = wC h := ⟨_, rfl⟩
      obtain ⟨vs, hvs⟩ : ∃ vs, vs = wC v := ⟨_, rfl⟩
      obtain ⟨rs, hrs⟩ : ∃ rs, rs = wC (plusW h v) := ⟨_, rfl⟩
      have HRS := Lib.hid hrs
      rw [← hh1] at PL L0
      rw [← hvs] at PL L3
      rw [← hrs] at PL FIN RES SZ
      clear G0 G1 G2 G3 HE1 HB HV NX1 hh1 hvs hrs hlt OK
      go_wp2_with (first
        | ((with_reducible refine wpList_load 176 rfl _ rfl ?_); first | (refine ⟨_, _, rfl, L0.out, ?_⟩) | (refine ⟨_, _, rfl, L3.out, ?_⟩)))
      refine (PL.out _).mono ?_
      rintro e w4 ⟨rfl, hb4⟩
      obtain ⟨f0, f1, f2⟩ := FIN.out w4 hb4
      obtain ⟨w5, hw5⟩ : ∃ w5, w5 = w4.setRow (w.heap.size + 2) rs := ⟨_, rfl⟩
      rw [← hw5] at f0 f1 f2
      have F0 := Lib.hid f0; have F1 := Lib.hid f1; have F2 := Lib.hid f2
      clear f0 f1 f2 hw5 hb4 FIN PL L0 L3
      go_wp2_with ((with_reducible refine wpList_store 176 rfl _ _ rfl ?_); refine ⟨_, _, _, rfl, rfl, F0.out, ?_⟩)
      have f1 := F1.out
      unfold VB at f1
      rw [← HRS.out] at f1
      exact bodyPost_ret (results_cell_row Tryz.results122 _ _ (w.heap.size + 2) _ _ _ _ rfl f1 Tryz.underlying176 rfl SZ.out) rfl ⟨by rw [RES.out], F2.out⟩
end Go.Proofs.YtohmdledkhgdaaaGreatDoor
