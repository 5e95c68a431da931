/- The walk of TransferNil. -/
import Derived.Test.YtolhjijnbobphaaGreatDoorNil
namespace Go.Proofs.YtolhjijnbobphaaGreatDoor
open Go.RowKit Go.Maps
set_option linter.unusedVariables false
set_option maxRecDepth 100000
theorem wpList_runG {P : Program} {ops : Array Oper} {rest : List Oper} {o : Oper} {a : Act} {w w' : World} {Q : Exit → Act → World → Prop} {v : Value} (hw : Region.wanted o (yielded ops a.tmps) = true) (h : (execOp a.eval o).run P w = .ok (.value v) w') (hk : wpList P ops Q rest (a.put o.dst v) w') : wpList P ops Q (o :: rest) a w := by
  refine wpList_step fun K hK => ?_
  rw [if_pos hw]
  unfold Oper.wp
  rw [h]
  exact hK _ _ hk
theorem wpList_loadG {P : Program} {ops : Array Oper} {rest : List Oper} {o : Oper} {a : Act} {w : World} {Q : Exit → Act → World → Prop} (ty : TypeId) (x : Operand) (ho : o.op = .load ty x) (hw : Region.wanted o (yielded ops a.tmps) = true) (h : ∃ ad v, a.eval x = .pointer (some ad) ∧ (loadVar ty ad).run P w = .ok v w ∧ wpList P ops Q rest (a.put o.dst v) w) : wpList P ops Q (o :: rest) a w := by
  obtain ⟨ad, v, h1, h2, h3⟩ := h
  refine wpList_step fun K hK => ?_
  rw [if_pos hw]
  unfold Oper.wp
  rw [exec_load ho h1 h2]
  exact hK _ _ h3

set_option maxHeartbeats 4000000 in
theorem law_nil (w : World) (vb f : Int) {m : List Nat} (hm : IdOk m) (t : ByteArray) (ht : t.size ≤ maxLen) :
    Calls Tryz.prog 3 #[.agg (rcmC vb f m t)] w fun e w' => e = .returned (.bool true) ∧ Below w.heap.size w w' := by
  unfold maxLen at ht
  obtain ⟨p, hp⟩ : ∃ p, p = w.heap.size := ⟨_, rfl⟩
  have K : Hid (∀ w', Calls Tryz.prog 4 #[] w' fun e w'' => e = .returned (.bool true) ∧ Below w'.heap.size w' w'') := Lib.hid (fun w' => known_any w')
  have B0 : Hid (Below w.heap.size w (w.alloc (.cells (rcmC vb f m t) 25))) := Lib.hid ((Below.refl _ _).alloc (Nat.le_refl _) _)
  have C0 : Hid ((w.alloc (.cells (rcmC vb f m t) 25)).heap[w.heap.size]? = some (.cells (rcmC vb f m t) 25 (0, 0))) := Lib.hid (heap_alloc_new w _)
  have KEEP : Hid (∀ (W W' : World), W.heap[w.heap.size]? = some (.cells (rcmC vb f m t) 25 (0, 0)) → Below W.heap.size W W' → W'.heap[w.heap.size]? = some (.cells (rcmC vb f m t) 25 (0, 0))) := Lib.hid (fun W W' h hb => (hb.block _ (lt_of_block h)).trans h)
  have TXT : Hid (∀ (W : World), W.heap[w.heap.size]? = some (.cells (rcmC vb f m t) 25 (0, 0)) → W.cell? ⟨w.heap.size, 34, none⟩ = some (.string t)) := Lib.hid (fun W h => (cellB h 34).trans (rcm_at hm.len vb f t).2.2)
  have K1 := Lib.hid (K.out (w.alloc (.cells (rcmC vb f m t) 25)))
  by_cases h3 : 300 < t.size
  · go_enter Tryz.func3, Tryz.ntmps3
    go_wp2_with (go_at_call 4; ((with_reducible refine K1.out.mono ?_); rintro e w1 ⟨rfl, hb1⟩; have B1 := Lib.hid (B0.out.trans (hb1.mono B0.out.size)); have C1 := Lib.hid (KEEP.out _ _ C0.out hb1); have T1 := TXT.out _ C1.out; clear hb1))
    have K2 := Lib.hid (K.out w1)
    refine K2.out.mono ?_
    rintro e w2 ⟨rfl, hb2⟩
    have B2 := Lib.hid (B1.out.trans (hb2.mono B1.out.size))
    clear hb2
    go_wp2_with fail
    go_ret
    exact ⟨rfl, B2.out⟩
  · go_enter Tryz.func3, Tryz.ntmps3
    go_wp2_with (go_at_call 4; ((with_reducible refine K1.out.mono ?_); rintro e w1 ⟨rfl, hb1⟩; have B1 := Lib.hid (B0.out.trans (hb1.mono B0.out.size)); have C1 := Lib.hid (KEEP.out _ _ C0.out hb1); have T1 := TXT.out _ C1.out; clear hb1))
    refine (say_nil w1).mono ?_
    rintro e w2 ⟨rfl, hb2⟩
    have B2 := Lib.hid (B1.out.trans (hb2.mono B1.out.size))
    have C2 := Lib.hid (KEEP.out _ _ C1.out hb2)
    have hp2 : w.heap.size < w2.heap.size := lt_of_block C2.out
    clear hb2 B1 C1 T1 K1 K
    have ST := Lib.hid (store_at (P := Tryz.prog) w2 _ rfl 31 zc34 cmdZ size34z (by rw [cmdZ_size]; rfl) one_cmdZ)
    have B3 : Hid (Below w.heap.size w (w2.alloc (.cells cmdZ 31))) := Lib.hid (B2.out.alloc B2.out.size _)
    have C3 : Hid ((w2.alloc (.cells cmdZ 31)).heap[w.heap.size]? = some (.cells (rcmC vb f m t) 25 (0, 0))) := Lib.hid (alloc_block C2.out)
    have X3 : Hid ((w2.alloc (.cells cmdZ 31)).heap[w2.heap.size]? = some (.cells cmdZ 31 (0, 0))) := Lib.hid (heap_alloc_new w2 _)
    have EQ : Hid (∀ w', (Op.equal 31 (.agg cmdZ) (.agg cmdZ)).run Tryz.prog w' = .ok true w') := Lib.hid fun w' => eq_cmd w' zid_ok 0 0 ⟨#[]⟩ (by decide) (by decide) (by decide)
    have TN := Lib.hid (fun w => rtext_nil w)
    have RN := Lib.hid (fun w => reset_nil w)
    have L1 := Lib.hid (load_id (w2.alloc (.cells cmdZ 31)) w.heap.size 1 _ _ _ hm.len C3.out (rcm_id vb f t))
    have NR := Lib.hid (newrcv_any (w2.alloc (.cells cmdZ 31)) hm 3 (by decide) (by decide))
    go_wp2_with (first
      | ((with_reducible refine wpList_store 31 rfl _ _ rfl ?_); refine ⟨_, _, _, rfl, rfl, ST.out, ?_⟩)
      | ((with_reducible refine wpList_load 23 rfl _ rfl ?_); refine ⟨_, _, rfl, L1.out, ?_⟩)
      | (go_at_call 6; refine (TN.out _).mono ?_; rintro e w' ⟨rfl, rfl⟩)
      | (go_at_call 7; refine (RN.out _).mono ?_; rintro e w' ⟨rfl, rfl⟩))
    refine NR.out.mono ?_
    rintro e w4 ⟨rfl, hw4⟩
    have X4 : Hid (w4.heap[w2.heap.size]? = some (.cells cmdZ 31 (0, 0))) := Lib.hid (by rw [hw4]; exact alloc_block (alloc_block X3.out))
    have C4 : Hid (w4.heap[w.heap.size]? = some (.cells (rcmC vb f m t) 25 (0, 0))) := Lib.hid (by rw [hw4]; exact alloc_block (alloc_block C3.out))
    have B4 : Hid (Below w.heap.size w w4) := Lib.hid (by rw [hw4]; exact (B3.out.alloc B3.out.size _).alloc (by have := B3.out.size; simp at this ⊢; omega) _)
    obtain ⟨y, hy⟩ : ∃ y, y = (w2.alloc (.cells cmdZ 31)).heap.size + 1 := ⟨_, rfl⟩
    rw [← hy]
    clear hw4 hy NR L1 ST X3 C3 B3
    have L4 : Hid ((loadVar 31 ⟨w2.heap.size, 0, none⟩).run Tryz.prog w4 = .ok (.agg cmdZ) w4) := Lib.hid (load_cmd w4 w2.heap.size _ _ zid_ok.len X4.out)
    have R4 := Lib.hid (load_rcm w4 w.heap.size 0 (vb := vb) (f := f) (t := t) hm.len (fun j u hu => by rw [Nat.zero_add, cellB C4.out]; exact hu))
    have OW := Lib.hid (own_any w4 vb f hm.len t)
    have N1 := Lib.hid (fun w => sent_nil w)
    have N2 := Lib.hid (fun w => ended_nil w)
    have N3 := Lib.hid (fun w => from_nil w)
    have N4 := Lib.hid (fun w => complete_nil w)
    have N5 := Lib.hid (fun w => clone_nil w)
    have N6 := Lib.hid (fun w => equal_nn w)
    have N7 := Lib.hid (fun w => equal_np w y)
    have N8 := Lib.hid (fun w => equal_pn w y)
    simp only []
    apply_assumption
    refine wpList_run (v := .tuple #[.pointer (some ⟨y, 0, none⟩), .int .i64 0]) rfl rfl ?_
    refine wpList_run (v := .pointer (some ⟨y, 0, none⟩)) rfl rfl ?_
    refine wpList_run (v := .int .i64 0) rfl rfl ?_
    refine wpList_run (v := .pointer (some ⟨y, 0, none⟩)) rfl rfl ?_
    refine wpList_run (v := .int .i64 0) rfl rfl ?_
    refine wpList_nil ?_
    simp only [Exit.then]
    apply_assumption
    refine wp_seq_k fun K hK => ?_
    refine wp_region_list ?_
    simp only [List.nil_append, List.append_toArray, List.toList_toArray]
    refine wpList_load 31 rfl _ rfl ⟨_, _, rfl, L4.out, ?_⟩
    refine wpList_build0 31 rfl rfl ⟨_, build_cmd0' _, ?_⟩
    refine wpList_eql 31 rfl _ _ rfl guard34 ⟨cmdZ, cmdZ, true, by kernel_rfl, by kernel_rfl, EQ.out _, ?_⟩
    go_wp2_with (go_at_call 9; refine (N1.out _).mono ?_; rintro e w' ⟨rfl, rfl⟩)
    refine (N2.out _).mono ?_
    rintro e w' ⟨rfl, rfl⟩
    simp only []
    apply_assumption
    refine wpList_runG (v := .bool true) (by kernel_rfl) rfl ?_
    refine wpList_run (v := .bool true) rfl rfl ?_
    refine wpList_run (v := .bool true) rfl rfl ?_
    refine wpList_runG (v := .pointer none) (by kernel_rfl) rfl ?_
    refine wpList_loadG 25 _ rfl (by kernel_rfl) ⟨_, _, rfl, R4.out, ?_⟩
    go_wp2_with fail
    refine OW.out.mono ?_
    rintro e w5 ⟨rfl, hb5⟩
    have B5 : Hid (Below w.heap.size w w5) := Lib.hid (B4.out.trans (hb5.mono B4.out.size))
    clear hb5 OW L4 R4 X4 C4 B4
    go_wp2_with fail
    refine (hear_nil w5 hm.len t).mono ?_
    rintro e w6 ⟨rfl, hb6⟩
    have B6 : Hid (Below w.heap.size w w6) := Lib.hid (B5.out.trans (hb6.mono B5.out.size))
    clear hb6 B5
    go_wp2_with (first
      | (go_at_call 13; refine (N3.out _).mono ?_; rintro e w' ⟨rfl, rfl⟩)
      | (go_at_call 14; refine (N4.out _).mono ?_; rintro e w' ⟨rfl, rfl⟩))
    refine (accept_nil w6).mono ?_
    rintro e w7 ⟨rfl, hb7⟩
    have B7 : Hid (Below w.heap.size w w7) := Lib.hid (B6.out.trans (hb7.mono B6.out.size))
    clear hb7 B6
    go_wp2_with (first
      | (go_at_call 16; refine (N5.out _).mono ?_; rintro e w' ⟨rfl, rfl⟩)
      | (go_at_call 17; ((with_reducible refine (N6.out _).mono ?_); rintro e w' ⟨rfl, rfl⟩))
      | (go_at_call 17; ((with_reducible refine (N7.out _).mono ?_); rintro e w' ⟨rfl, rfl⟩))
      | (go_at_call 17; ((with_reducible refine (N8.out _).mono ?_); rintro e w' ⟨rfl, rfl⟩)))
    go_ret
    exact ⟨by simp, B7.out⟩
end Go.Proofs.YtolhjijnbobphaaGreatDoor
