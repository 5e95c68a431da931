/- The example with which each statement begins. -/
import Derived.Test.YtolhjijnbobphaaGreatDoorSay
namespace Go.Proofs.YtolhjijnbobphaaGreatDoor
open Go.RowKit Go.Maps
set_option linter.unusedVariables false
set_option maxRecDepth 100000

def id1 : List Nat := 1 :: List.replicate 31 0
theorem id1_ok : IdOk id1 := ⟨rfl, by decide⟩
theorem idA_id1 : idA id1 = idA (1 :: List.replicate 31 0) := rfl

theorem wpList_build1 {P : Program} {ops : Array Oper} {rest : List Oper} {o : Oper} {a : Act} {w : World} {Q : Exit → Act → World → Prop} (t : TypeId) (hgd : o.guard = none) {i : Nat} (x : Operand) (ho : o.op = .build t #[(i, x)]) (h : ∃ vx v, a.eval x = vx ∧ (Instr.build t #[(i, vx)]).run P w = .ok v w ∧ wpList P ops Q rest (a.put o.dst v) w) : wpList P ops Q (o :: rest) a w := by
  obtain ⟨vx, v, h1, h2, h3⟩ := h
  exact wpList_run hgd (exec_build ho (by simpa [h1] using h2)) h3
theorem sn_new (w : World) (o : Obj) (l : List Nat) (t : ByteArray) (c s : Nat) : Sn ((w.alloc o).alloc (.cells (sndC l t c s false) 48)) (w.heap.size + 1) l t c s false := by
  have := heap_alloc_new (w.alloc o) (.cells (sndC l t c s false) 48)
  rw [show (w.alloc o).heap.size = w.heap.size + 1 by simp] at this
  exact this
theorem rc_new2 (w : World) (o : Obj) {l : List Nat} (hl : l.length = 32) (n B : Nat) : Rc ((w.alloc o).alloc (.cells (rcvC l n (.pointer none) (.slice none 0 0) false) 54)) B (w.heap.size + 1) l n [] false (.slice none 0 0) := by
  have := rc_new (w.alloc o) l hl n B
  rw [show (w.alloc o).heap.size = w.heap.size + 1 by simp] at this
  exact this
theorem any_step {P : Program} {md : Region.Mode} {ops : Array Oper} {Q : Exit → Act → World → Prop} {fuel i : Nat} {listed : Array Bool} {a : Act} {w : World} {o : Oper} {v : Value} (hr : Region.ready md ops listed = [i]) (ho : ops[i]? = some o) (hw : Region.wanted o (yielded ops a.tmps) = true) (h : (execOp a.eval o).run P w = .ok (.value v) w)
    (hk : wpAny P md ops Q fuel (listed.setIfInBounds i true) (a.put o.dst v) w) : wpAny P md ops Q (fuel + 1) listed a w := by
  refine wpAny_ready hr (by simp) (AllReady.cons ho (fun K hK => ?_) AllReady.nil)
  rw [if_pos hw]
  unfold Oper.wp
  rw [h]
  exact hK _ _ hk
theorem any_step2 {P : Program} {md : Region.Mode} {ops : Array Oper} {Q : Exit → Act → World → Prop} {fuel i j : Nat} {listed : Array Bool} {a : Act} {w : World} {o o' : Oper} {v v' : Value} (hr : Region.ready md ops listed = [i, j]) (ho : ops[i]? = some o) (hw : Region.wanted o (yielded ops a.tmps) = true) (h : (execOp a.eval o).run P w = .ok (.value v) w)
    (ho' : ops[j]? = some o') (hw' : Region.wanted o' (yielded ops a.tmps) = true) (h' : (execOp a.eval o').run P w = .ok (.value v') w)
    (hk : wpAny P md ops Q fuel (listed.setIfInBounds i true) (a.put o.dst v) w) (hk' : wpAny P md ops Q fuel (listed.setIfInBounds j true) (a.put o'.dst v') w) : wpAny P md ops Q (fuel + 1) listed a w := by
  refine wpAny_ready hr (by simp) (AllReady.cons ho (fun K hK => ?_) (AllReady.cons ho' (fun K hK => ?_) AllReady.nil))
  · rw [if_pos hw]
    unfold Oper.wp
    rw [h]
    exact hK _ _ hk
  · rw [if_pos hw']
    unfold Oper.wp
    rw [h']
    exact hK _ _ hk'
theorem step_ok {P : Program} {ops : Array Oper} {o : Oper} {a : Act} {w w' : World} {Q : Exit → Act → World → Prop} {v : Value} {K : Act → World → Prop} {E : Prop} (hw : Region.wanted o (yielded ops a.tmps) = true) (h : (execOp a.eval o).run P w = .ok (.value v) w') (hk : K (a.put o.dst v) w') :
    if Region.wanted o (yielded ops a.tmps) = true then Oper.wp P o a w K Q else E := by
  rw [if_pos hw]
  unfold Oper.wp
  rw [h]
  exact hk
theorem exec_build1 {P : Program} {o : Oper} {a : Act} {w : World} {v : Value} {t : TypeId} {i : Nat} {x : Operand} {vx : Value} (ho : o.op = .build t #[(i, x)]) (hx : a.eval x = vx) (hb : (Instr.build t #[(i, vx)]).run P w = .ok v w) : (execOp a.eval o).run P w = .ok (.value v) w :=
  exec_build ho (by simpa [hx] using hb)
theorem exec_move {P : Program} {o : Oper} {a : Act} {w : World} {x : Operand} (ho : o.op = .move x) : (execOp a.eval o).run P w = .ok (.value (a.eval x)) w := BigFrame.run_move x ho w
def sAb : ByteArray := ⟨#[97, 98, 99, 100, 101]⟩

theorem hear_known : hearF id1 5 [] false 7 0 id1 ⟨#[97, 98]⟩ = ([97, 98], false, 0) := by decide
set_option maxHeartbeats 4000000 in
theorem known_any (w : World) : Calls Tryz.prog 4 #[] w fun e w' => e = .returned (.bool true) ∧ Below w.heap.size w w' := by
  have C1 := Lib.hid (newsnd_any w id1_ok sAb 2 0 (by decide) (by decide) (by decide) (by decide) (by decide))
  go_enter Tryz.func4, Tryz.ntmps4
  go_wp2_with (first
    | ((with_reducible refine wpList_build1 23 rfl _ rfl ?_); refine ⟨_, .agg (idA id1), rfl, build_id1 _, ?_⟩))
  refine C1.out.mono ?_
  rintro e w1 ⟨rfl, hw1⟩
  have B1 : Hid (Below w.heap.size w w1) := Lib.hid (by rw [hw1]; exact ((Below.refl _ _).alloc (Nat.le_refl _) _).alloc (by simp) _)
  have S1 : Hid (Sn w1 (w.heap.size + 1) id1 sAb 2 0 false) := Lib.hid (by rw [hw1]; exact sn_new w _ id1 sAb 2 0)
  clear hw1 C1
  obtain ⟨b, hb⟩ : ∃ b, b = w.heap.size + 1 := ⟨_, rfl⟩
  rw [← hb] at S1 ⊢
  have hbw : w.heap.size ≤ b := by omega
  clear hb
  have C2 := Lib.hid (say_data w1 S1.out id1_ok (by decide) (by decide) (by decide))
  go_wp2_with fail
  refine C2.out.mono ?_
  rintro e w2 ⟨rfl, S2, k2, b2⟩
  have e2 : sAb.extract 0 (min (0 + 2) sAb.size) = ⟨#[97, 98]⟩ := by decide
  rw [e2]
  have B2 : Hid (Below w.heap.size w w2) := Lib.hid (B1.out.trans (b2.mono hbw))
  have HS2 := Lib.hid S2
  clear S2 k2 b2 C2 B1 S1 e2
  go_wp2_with (first
    | ((with_reducible refine wpList_store 31 rfl _ _ rfl ?_); refine ⟨_, _, _, rfl, rfl, store_at w2 _ rfl 31 _ _ (size34' id1_ok.len) (by rw [cmd_size id1_ok.len]; rfl) (one_cmd _ _ _ _), ?_⟩))
  have e2s : min (0 + 2) sAb.size = 2 := by decide
  rw [e2s] at HS2
  clear e2s
  have A1 : Hid ((w2.alloc (.cells (cmdC 7 0 id1 ⟨#[97, 98]⟩) 31)).heap[w2.heap.size]? = some (.cells (cmdC 7 0 id1 ⟨#[97, 98]⟩) 31 (0, 0))) := Lib.hid (heap_alloc_new w2 _)
  have S2 : Hid (Sn (w2.alloc (.cells (cmdC 7 0 id1 ⟨#[97, 98]⟩) 31)) b id1 sAb 2 2 false) := Lib.hid (alloc_block HS2.out)
  have B3 : Hid (Below w.heap.size w (w2.alloc (.cells (cmdC 7 0 id1 ⟨#[97, 98]⟩) 31))) := Lib.hid (B2.out.alloc B2.out.size _)
  have na : w2.heap.size ≠ b := by have := HS2.out.lt; omega
  obtain ⟨a1, ha1⟩ : ∃ a1, a1 = w2.heap.size := ⟨_, rfl⟩
  have na1 : a1 ≠ b := by omega
  have la : w.heap.size ≤ a1 := by have := B2.out.size; omega
  generalize w2.alloc (.cells (cmdC 7 0 id1 ⟨#[97, 98]⟩) 31) = w3 at *
  rw [← ha1] at A1 ⊢
  clear ha1 na HS2 B2
  have C3 := Lib.hid (say_data w3 S2.out id1_ok (by decide) (by decide) (by decide))
  refine C3.out.mono ?_
  rintro e w4 ⟨rfl, S4, k4, b4⟩
  have e2 : sAb.extract 2 (min (2 + 2) sAb.size) = ⟨#[99, 100]⟩ := by decide
  rw [e2]
  have A4 : Hid (w4.heap[a1]? = some (.cells (cmdC 7 0 id1 ⟨#[97, 98]⟩) 31 (0, 0))) := Lib.hid ((k4 a1 (lt_of_block A1.out) na1).trans A1.out)
  have B4 : Hid (Below w.heap.size w w4) := Lib.hid (B3.out.trans (b4.mono hbw))
  clear S4 k4 b4 C3 B3 S2 e2 A1
  go_wp2_with (first
    | ((with_reducible refine wpList_store 31 rfl _ _ rfl ?_); refine ⟨_, _, _, rfl, rfl, store_at w4 _ rfl 31 _ _ (size34' id1_ok.len) (by rw [cmd_size id1_ok.len]; rfl) (one_cmd _ _ _ _), ?_⟩)
    | ((with_reducible refine wpList_build1 23 rfl _ rfl ?_); refine ⟨_, .agg (idA id1), rfl, build_id1 _, ?_⟩))
  refine (newrcv_any _ id1_ok 5 (by decide) (by decide)).mono ?_
  rintro e w5 ⟨rfl, hw5⟩
  have A5 : Hid (w5.heap[a1]? = some (.cells (cmdC 7 0 id1 ⟨#[97, 98]⟩) 31 (0, 0))) := Lib.hid (by rw [hw5]; exact alloc_block (alloc_block (alloc_block A4.out)))
  have D5 : Hid (w5.heap[w4.heap.size]? = some (.cells (cmdC 7 2 id1 ⟨#[99, 100]⟩) 31 (0, 0))) := Lib.hid (by rw [hw5]; exact alloc_block (alloc_block (heap_alloc_new w4 _)))
  have R5 : Hid (Rc w5 w.heap.size (w4.heap.size + 2) id1 5 [] false (.slice none 0 0)) := Lib.hid (by
    rw [hw5]
    have := rc_new2 (w4.alloc (.cells (cmdC 7 2 id1 ⟨#[99, 100]⟩) 31)) (.cells (idA id1) 23) id1_ok.len 5 w.heap.size
    rw [show (w4.alloc (.cells (cmdC 7 2 id1 ⟨#[99, 100]⟩) 31)).heap.size = w4.heap.size + 1 by simp] at this
    exact this)
  have B5 : Hid (Below w.heap.size w w5) := Lib.hid (by
    have hs4 := B4.out.size
    rw [hw5]; exact ((B4.out.alloc hs4 _).alloc (by simp; omega) _).alloc (by simp; omega) _)
  rw [show (w4.alloc (.cells (cmdC 7 2 id1 ⟨#[99, 100]⟩) 31)).heap.size + 1 = w4.heap.size + 2 by simp]
  obtain ⟨a2, ha2⟩ : ∃ a2, a2 = w4.heap.size := ⟨_, rfl⟩
  obtain ⟨br, hbr⟩ : ∃ br, br = w4.heap.size + 2 := ⟨_, rfl⟩
  rw [← ha2] at D5
  rw [← hbr] at R5
  rw [← hbr, ← ha2]
  have lbr : w.heap.size ≤ br := by have := B4.out.size; omega
  clear ha2 hw5 A4 B4 hbw na1 hbr
  go_wp2_with fail
  refine wp_region_any (by kernel_rfl) ?_
  change wpAny _ _ _ _ _ _ _ w5.drew
  have A6 : Hid (w5.drew.heap[a1]? = _) := A5
  have D6 : Hid (w5.drew.heap[a2]? = _) := D5
  have R6 : Hid (Rc w5.drew w.heap.size br id1 5 [] false (.slice none 0 0)) := Lib.hid (R5.out.drewN 1)
  have B6 : Hid (Below w.heap.size w w5.drew) := Lib.hid B5.out.drew
  generalize w5.drew = w6 at *
  clear A5 D5 R5 B5
  have EQ : Hid (∀ w, (Op.equal 31 (.agg (cmdC 7 0 id1 ⟨#[97, 98]⟩)) (.agg (cmdC 7 0 id1 ⟨#[97, 98]⟩))).run Tryz.prog w = .ok true w) := Lib.hid fun w => eq_cmd w id1_ok 7 0 _ (by decide) (by decide) (by decide)
  all_goals (refine wpAny_ready (rs := [0]) (by kernel_rfl) (by simp) ?_; refine AllReady.cons rfl (fun K hK => ?_) AllReady.nil; go_simp; refine hK _ _ ?_; clear hK K)
  all_goals (refine wpAny_ready (rs := [1]) (by kernel_rfl) (by simp) ?_; refine AllReady.cons rfl (fun K hK => ?_) AllReady.nil; go_simp; refine hK _ _ ?_; clear hK K)
  all_goals (refine wpAny_ready (rs := [2]) (by kernel_rfl) (by simp) ?_; refine AllReady.cons rfl (fun K hK => ?_) AllReady.nil; go_simp; refine hK _ _ ?_; clear hK K)
  all_goals (refine wpAny_ready (rs := [3]) (by kernel_rfl) (by simp) ?_; refine AllReady.cons rfl (fun K hK => ?_) AllReady.nil; go_simp; refine hK _ _ ?_; clear hK K)
  all_goals (refine wpAny_ready (rs := [4]) (by kernel_rfl) (by simp) ?_; refine AllReady.cons rfl (fun K hK => ?_) AllReady.nil; go_simp; refine hK _ _ ?_; clear hK K)
  all_goals (refine wpAny_ready (rs := [5]) (by kernel_rfl) (by simp) ?_; refine AllReady.cons rfl (fun K hK => ?_) AllReady.nil; go_simp; refine hK _ _ ?_; clear hK K)
  refine any_step2 (i := 6) (j := 7) (by kernel_rfl) rfl (by kernel_rfl) (exec_load rfl rfl (load_cmd _ _ _ _ id1_ok.len A6.out)) rfl (by kernel_rfl) (exec_build1 rfl rfl (build_id1 _)) ?_ ?_
  case' refine_1 =>
    refine any_step (i := 7) (by kernel_rfl) rfl (by kernel_rfl) (exec_build1 rfl rfl (build_id1 _)) ?_
    refine any_step (i := 8) (by kernel_rfl) rfl (by kernel_rfl) (exec_build3 rfl rfl rfl rfl (build_rcm3 _ id1_ok.len 7 ⟨#[97, 98]⟩)) ?_
    refine wpAny_ready (rs := [9]) (by kernel_rfl) (by simp) (AllReady.cons rfl (fun K hK => ?_) AllReady.nil)
    go_simp
    refine (own_any _ 7 0 id1_ok.len _).mono ?_
    rintro e w7 ⟨rfl, hb7⟩
    have A7 := Lib.hid ((hb7.block _ (lt_of_block A6.out)).trans A6.out)
    have D7 := Lib.hid ((hb7.block _ (lt_of_block D6.out)).trans D6.out)
    have R7 := Lib.hid (R6.out.below hb7)
    have B7 := Lib.hid (B6.out.trans (hb7.mono B6.out.size))
    clear hb7 A6 D6 R6 B6
    refine hK _ _ ?_
    clear hK K
  case' refine_2 =>
    refine any_step2 (i := 6) (j := 8) (by kernel_rfl) rfl (by kernel_rfl) (exec_load rfl rfl (load_cmd _ _ _ _ id1_ok.len A6.out)) rfl (by kernel_rfl) (exec_build3 rfl rfl rfl rfl (build_rcm3 _ id1_ok.len 7 ⟨#[97, 98]⟩)) ?c6 ?c8
    case' c6 =>
      refine any_step (i := 8) (by kernel_rfl) rfl (by kernel_rfl) (exec_build3 rfl rfl rfl rfl (build_rcm3 _ id1_ok.len 7 ⟨#[97, 98]⟩)) ?_
      refine wpAny_ready (rs := [9]) (by kernel_rfl) (by simp) (AllReady.cons rfl (fun K hK => ?_) AllReady.nil)
      go_simp
      refine (own_any _ 7 0 id1_ok.len _).mono ?_
      rintro e w7 ⟨rfl, hb7⟩
      have A7 := Lib.hid ((hb7.block _ (lt_of_block A6.out)).trans A6.out)
      have D7 := Lib.hid ((hb7.block _ (lt_of_block D6.out)).trans D6.out)
      have R7 := Lib.hid (R6.out.below hb7)
      have B7 := Lib.hid (B6.out.trans (hb7.mono B6.out.size))
      clear hb7 A6 D6 R6 B6
      refine hK _ _ ?_
      clear hK K
    case' c8 =>
      refine wpAny_ready (rs := [6, 9]) (by kernel_rfl) (by simp) (AllReady.cons rfl (fun K hK => ?d6) (AllReady.cons rfl (fun K hK => ?d9) AllReady.nil))
      case' d6 =>
        refine step_ok (by kernel_rfl) (exec_load rfl rfl (load_cmd _ _ _ _ id1_ok.len A6.out)) ?_
        refine hK _ _ ?_
        clear hK K
        refine wpAny_ready (rs := [9]) (by kernel_rfl) (by simp) (AllReady.cons rfl (fun K hK => ?_) AllReady.nil)
        go_simp
        refine (own_any _ 7 0 id1_ok.len _).mono ?_
        rintro e w7 ⟨rfl, hb7⟩
        have A7 := Lib.hid ((hb7.block _ (lt_of_block A6.out)).trans A6.out)
        have D7 := Lib.hid ((hb7.block _ (lt_of_block D6.out)).trans D6.out)
        have R7 := Lib.hid (R6.out.below hb7)
        have B7 := Lib.hid (B6.out.trans (hb7.mono B6.out.size))
        clear hb7 A6 D6 R6 B6
        refine hK _ _ ?_
        clear hK K
      case' d9 =>
        go_simp
        refine (own_any _ 7 0 id1_ok.len _).mono ?_
        rintro e w7 ⟨rfl, hb7⟩
        have A7 := Lib.hid ((hb7.block _ (lt_of_block A6.out)).trans A6.out)
        have D7 := Lib.hid ((hb7.block _ (lt_of_block D6.out)).trans D6.out)
        have R7 := Lib.hid (R6.out.below hb7)
        have B7 := Lib.hid (B6.out.trans (hb7.mono B6.out.size))
        clear hb7 A6 D6 R6 B6
        refine hK _ _ ?_
        clear hK K
        refine any_step (i := 6) (by kernel_rfl) rfl (by kernel_rfl) (exec_load rfl rfl (load_cmd _ _ _ _ id1_ok.len A7.out)) ?_
  all_goals (have c35 := (cellB D7.out 35).trans (cmd_at id1_ok.len 7 2 _).2.1; have c38 := (cellB D7.out 38).trans (cmd_at id1_ok.len 7 2 _).2.2; clear D7)
  all_goals (refine any_step (i := 10) (by kernel_rfl) rfl (by kernel_rfl) (exec_eql rfl rfl rfl guard34 (EQ.out _)) ?_)
  all_goals clear EQ
  all_goals (refine wpAny_ready (rs := [11]) (by kernel_rfl) (by simp) ?_; refine AllReady.cons rfl (fun K hK => ?_) AllReady.nil; go_simp; refine hK _ _ ?_; clear hK K)
  all_goals (refine wpAny_ready (rs := [12]) (by kernel_rfl) (by simp) ?_; refine AllReady.cons rfl (fun K hK => ?_) AllReady.nil; go_simp; refine hK _ _ ?_; clear hK K)
  all_goals (refine wpAny_ready (rs := [13]) (by kernel_rfl) (by simp) ?_; refine AllReady.cons rfl (fun K hK => ?_) AllReady.nil; go_simp; refine hK _ _ ?_; clear hK K)
  all_goals (refine wpAny_ready (rs := [14]) (by kernel_rfl) (by simp) ?_; refine AllReady.cons rfl (fun K hK => ?_) AllReady.nil; go_simp; refine hK _ _ ?_; clear hK K)
  all_goals (refine wpAny_ready (rs := [15]) (by kernel_rfl) (by simp) ?_; refine AllReady.cons rfl (fun K hK => ?_) AllReady.nil; go_simp; refine hK _ _ ?_; clear hK K)
  all_goals (refine wpAny_ready (rs := [16]) (by kernel_rfl) (by simp) ?_; refine AllReady.cons rfl (fun K hK => ?_) AllReady.nil; go_simp; refine hK _ _ ?_; clear hK K)
  all_goals (refine wpAny_ready (rs := [17]) (by kernel_rfl) (by simp) ?_; refine AllReady.cons rfl (fun K hK => ?_) AllReady.nil; go_simp; refine hK _ _ ?_; clear hK K)
  all_goals (refine wpAny_ready (rs := [18]) (by kernel_rfl) (by simp) ?_; refine AllReady.cons rfl (fun K hK => ?_) AllReady.nil; go_simp; refine hK _ _ ?_; clear hK K)
  all_goals (refine wpAny_ready (rs := [19]) (by kernel_rfl) (by simp) ?_; refine AllReady.cons rfl (fun K hK => ?_) AllReady.nil; go_simp; refine hK _ _ ?_; clear hK K)
  all_goals (refine wpAny_ready (rs := [20]) (by kernel_rfl) (by simp) ?_; refine AllReady.cons rfl (fun K hK => ?_) AllReady.nil; go_simp; refine hK _ _ ?_; clear hK K)
  all_goals (refine wpAny_ready (rs := [21]) (by kernel_rfl) (by simp) ?_; refine AllReady.cons rfl (fun K hK => ?_) AllReady.nil; go_simp; refine hK _ _ ?_; clear hK K)
  all_goals (refine wpAny_ready (rs := [22]) (by kernel_rfl) (by simp) ?_; refine AllReady.cons rfl (fun K hK => ?_) AllReady.nil; go_simp; refine hK _ _ ?_; clear hK K)
  all_goals (refine wpAny_ready (rs := [23]) (by kernel_rfl) (by simp) ?_; refine AllReady.cons rfl (fun K hK => ?_) AllReady.nil; go_simp; refine hK _ _ ?_; clear hK K)
  all_goals (refine wpAny_ready (rs := [24]) (by kernel_rfl) (by simp) ?_; refine AllReady.cons rfl (fun K hK => ?_) AllReady.nil; go_simp; refine hK _ _ ?_; clear hK K)
  all_goals (refine wpAny_ready (rs := [25]) (by kernel_rfl) (by simp) ?_; refine AllReady.cons rfl (fun K hK => ?_) AllReady.nil; go_simp; refine hK _ _ ?_; clear hK K)
  all_goals (refine wpAny_ready (rs := [26]) (by kernel_rfl) (by simp) ?_; refine AllReady.cons rfl (fun K hK => ?_) AllReady.nil; go_simp; refine hK _ _ ?_; clear hK K)
  all_goals (refine wpAny_ready (rs := [27]) (by kernel_rfl) (by simp) ?_; refine AllReady.cons rfl (fun K hK => ?_) AllReady.nil; go_simp; refine hK _ _ ?_; clear hK K)
  all_goals (refine wpAny_ready (rs := [28]) (by kernel_rfl) (by simp) ?_; refine AllReady.cons rfl (fun K hK => ?_) AllReady.nil; go_simp; refine hK _ _ ?_; clear hK K)
  all_goals (refine wpAny_ready (rs := [29]) (by kernel_rfl) (by simp) ?_; refine AllReady.cons rfl (fun K hK => ?_) AllReady.nil; go_simp; refine hK _ _ ?_; clear hK K)
  all_goals (refine any_step2 (i := 30) (j := 31) (by kernel_rfl) rfl (by kernel_rfl) (exec_move rfl) rfl (by kernel_rfl) (exec_load rfl rfl (load_cmd _ _ _ _ id1_ok.len A7.out)) (any_step (i := 31) (by kernel_rfl) rfl (by kernel_rfl) (exec_load rfl rfl (load_cmd _ _ _ _ id1_ok.len A7.out)) ?_) (any_step (i := 30) (by kernel_rfl) rfl (by kernel_rfl) (exec_move rfl) ?_))
  all_goals clear A7 c35 c38
  all_goals (refine wpAny_ready (rs := [32]) (by kernel_rfl) (by simp) ?_; refine AllReady.cons rfl (fun K hK => ?_) AllReady.nil; go_simp)
  all_goals (have C8 := hear_any _ R7.out id1_ok (by decide) (by decide) B7.out.size 7 0 id1_ok ⟨#[97, 98]⟩ (by decide); rw [hear_known] at C8)
  all_goals (refine C8.mono ?_)
  all_goals (rintro e w8 ⟨rfl, v8, R8, hv8, hf8⟩; have HR8 := Lib.hid R8; have B8 : Hid (Below w.heap.size w w8) := Lib.hid (B7.out.trans (hf8.below B7.out.size lbr (fun k hk => by simp [Value.ownBlock] at hk))); clear C8 R8 hv8 hf8 R7 B7; refine hK _ _ ?_; clear hK K)
  all_goals (refine wpAny_ready (rs := [33]) (by kernel_rfl) (by simp) ?_; refine AllReady.cons rfl (fun K hK => ?_) AllReady.nil; go_simp; refine hK _ _ ?_; clear hK K)
  all_goals (refine wpAny_ready (rs := [34]) (by kernel_rfl) (by simp) ?_; refine AllReady.cons rfl (fun K hK => ?_) AllReady.nil; go_simp; refine hK _ _ ?_; clear hK K)
  all_goals (refine wpAny_ready (rs := [35]) (by kernel_rfl) (by simp) ?_; refine AllReady.cons rfl (fun K hK => ?_) AllReady.nil; go_simp; refine hK _ _ ?_; clear hK K)
  all_goals (refine wpAny_ready (rs := [36]) (by kernel_rfl) (by simp) ?_; refine AllReady.cons rfl (fun K hK => ?_) AllReady.nil; go_simp; refine hK _ _ ?_; clear hK K)
  all_goals (refine wpAny_ready (rs := [37]) (by kernel_rfl) (by simp) ?_; refine AllReady.cons rfl (fun K hK => ?_) AllReady.nil; go_simp; refine (from_any _ HR8.out).mono ?_; rintro e w9 ⟨rfl, hw9⟩; subst hw9; refine hK _ _ ?_; clear hK K)
  all_goals (refine wpAny_ready (rs := [38]) (by kernel_rfl) (by simp) ?_; refine AllReady.cons rfl (fun K hK => ?_) AllReady.nil; go_simp; refine hK _ _ ?_; clear hK K)
  all_goals (refine wpAny_ready (rs := [39]) (by kernel_rfl) (by simp) ?_; refine AllReady.cons rfl (fun K hK => ?_) AllReady.nil; go_simp; refine hK _ _ ?_; clear hK K)
  all_goals (refine wpAny_ready (rs := [40]) (by kernel_rfl) (by simp) ?_; refine AllReady.cons rfl (fun K hK => ?_) AllReady.nil; go_simp; refine hK _ _ ?_; clear hK K)
  all_goals (refine wpAny_done (by kernel_rfl) ?_ _)
  all_goals go_wp2_with fail
  all_goals go_ret
  all_goals exact ⟨rfl, B8.out⟩
end Go.Proofs.YtolhjijnbobphaaGreatDoor
