/- The receiver's small methods. -/
import Derived.Test.YtolhjijnbobphaaGreatDoorEq
import Derived.StillTailTactics
namespace Go.Proofs.YtolhjijnbobphaaGreatDoor
open Go.RowKit Go.Maps
set_option linter.unusedVariables false
set_option maxRecDepth 100000

theorem id_self (l : List Nat) : ∀ j u, (idA l)[j]? = some u → (idA l)[0 + j]? = some u := fun j u hu => by rw [Nat.zero_add]; exact hu
theorem exec_build2 {P : Program} {o : Oper} {a : Act} {w : World} {v : Value} {t : TypeId} {i j : Nat} {x y : Operand} {vx vy : Value} (ho : o.op = .build t #[(i, x), (j, y)]) (hx : a.eval x = vx) (hy : a.eval y = vy) (hb : (Instr.build t #[(i, vx), (j, vy)]).run P w = .ok v w) : (execOp a.eval o).run P w = .ok (.value v) w := by
  refine exec_build ho ?_
  simpa [hx, hy] using hb
theorem exec_build3 {P : Program} {o : Oper} {a : Act} {w : World} {v : Value} {t : TypeId} {i j k : Nat} {x y z : Operand} {vx vy vz : Value} (ho : o.op = .build t #[(i, x), (j, y), (k, z)]) (hx : a.eval x = vx) (hy : a.eval y = vy) (hz : a.eval z = vz) (hb : (Instr.build t #[(i, vx), (j, vy), (k, vz)]).run P w = .ok v w) : (execOp a.eval o).run P w = .ok (.value v) w := by
  refine exec_build ho ?_
  simpa [hx, hy, hz] using hb
theorem exec_build4 {P : Program} {o : Oper} {a : Act} {w : World} {v : Value} {t : TypeId} {i j k m : Nat} {x y z u : Operand} {vx vy vz vu : Value} (ho : o.op = .build t #[(i, x), (j, y), (k, z), (m, u)]) (hx : a.eval x = vx) (hy : a.eval y = vy) (hz : a.eval z = vz) (hu : a.eval u = vu) (hb : (Instr.build t #[(i, vx), (j, vy), (k, vz), (m, vu)]).run P w = .ok v w) : (execOp a.eval o).run P w = .ok (.value v) w := by
  refine exec_build ho ?_
  simpa [hx, hy, hz, hu] using hb

section
variable {P : Program} {ops : Array Oper} {rest : List Oper} {o : Oper} {a : Act} {w : World} {Q : Exit → Act → World → Prop}
theorem wpList_load (ty : TypeId) (hgd : o.guard = none) (x : Operand) (ho : o.op = .load ty x) (h : ∃ ad v, a.eval x = .pointer (some ad) ∧ (loadVar ty ad).run P w = .ok v w ∧ wpList P ops Q rest (a.put o.dst v) w) : wpList P ops Q (o :: rest) a w := by
  obtain ⟨ad, v, h1, h2, h3⟩ := h
  exact wpList_run hgd (exec_load ho h1 h2) h3
theorem wpList_build2 (t : TypeId) (hgd : o.guard = none) {i j : Nat} (x y : Operand) (ho : o.op = .build t #[(i, x), (j, y)]) (h : ∃ vx vy v, a.eval x = vx ∧ a.eval y = vy ∧ (Instr.build t #[(i, vx), (j, vy)]).run P w = .ok v w ∧ wpList P ops Q rest (a.put o.dst v) w) : wpList P ops Q (o :: rest) a w := by
  obtain ⟨vx, vy, v, h1, h2, h3, h4⟩ := h
  exact wpList_run hgd (exec_build2 ho h1 h2 h3) h4
theorem wpList_build3 (t : TypeId) (hgd : o.guard = none) {i j k : Nat} (x y z : Operand) (ho : o.op = .build t #[(i, x), (j, y), (k, z)]) (h : ∃ vx vy vz v, a.eval x = vx ∧ a.eval y = vy ∧ a.eval z = vz ∧ (Instr.build t #[(i, vx), (j, vy), (k, vz)]).run P w = .ok v w ∧ wpList P ops Q rest (a.put o.dst v) w) : wpList P ops Q (o :: rest) a w := by
  obtain ⟨vx, vy, vz, v, h1, h2, h3, h4, h5⟩ := h
  exact wpList_run hgd (exec_build3 ho h1 h2 h3 h4) h5
theorem wpList_build4 (t : TypeId) (hgd : o.guard = none) {i j k m : Nat} (x y z u : Operand) (ho : o.op = .build t #[(i, x), (j, y), (k, z), (m, u)]) (h : ∃ vx vy vz vu v, a.eval x = vx ∧ a.eval y = vy ∧ a.eval z = vz ∧ a.eval u = vu ∧ (Instr.build t #[(i, vx), (j, vy), (k, vz), (m, vu)]).run P w = .ok v w ∧ wpList P ops Q rest (a.put o.dst v) w) : wpList P ops Q (o :: rest) a w := by
  obtain ⟨vx, vy, vz, vu, v, h1, h2, h3, h4, h5, h6⟩ := h
  exact wpList_run hgd (exec_build4 ho h1 h2 h3 h4 h5) h6
theorem wpList_store (t : TypeId) (hgd : o.guard = none) (x y : Operand) (ho : o.op = .store t x y) (h : ∃ ad u w', a.eval x = .pointer (some ad) ∧ a.eval y = u ∧ (storeVar t ad u).run P w = .ok () w' ∧ wpList P ops Q rest (a.put o.dst undef) w') : wpList P ops Q (o :: rest) a w := by
  obtain ⟨ad, u, w', h1, h2, h3, h4⟩ := h
  exact wpList_run_skip hgd (exec_store ho h1 h2 h3) h4
theorem wpList_neq (t : TypeId) (hgd : o.guard = none) (x y : Operand) {t' : TypeId} (ho : o.op = .binOp .neq t x y t') (hm : P.eqGuardType P.depth t = false) (h : ∃ xs ys r, a.eval x = .agg xs ∧ a.eval y = .agg ys ∧ (Op.equal t (.agg xs) (.agg ys)).run P w = .ok r w ∧ wpList P ops Q rest (a.put o.dst (.bool !r)) w) : wpList P ops Q (o :: rest) a w := by
  obtain ⟨xs, ys, r, h1, h2, h3, h4⟩ := h
  exact wpList_run hgd (exec_neq ho h1 h2 hm h3) h4
theorem wpList_eql (t : TypeId) (hgd : o.guard = none) (x y : Operand) {t' : TypeId} (ho : o.op = .binOp .eql t x y t') (hm : P.eqGuardType P.depth t = false) (h : ∃ xs ys r, a.eval x = .agg xs ∧ a.eval y = .agg ys ∧ (Op.equal t (.agg xs) (.agg ys)).run P w = .ok r w ∧ wpList P ops Q rest (a.put o.dst (.bool r)) w) : wpList P ops Q (o :: rest) a w := by
  obtain ⟨xs, ys, r, h1, h2, h3, h4⟩ := h
  exact wpList_run hgd (exec_eql ho h1 h2 hm h3) h4
theorem wpStill_load {Q : Act → Prop} (ty : TypeId) (hgd : o.guard = none) (x : Operand) (ho : o.op = .load ty x) (h : ∃ ad v, a.eval x = .pointer (some ad) ∧ (loadVar ty ad).run P w = .ok v w ∧ wpStill P ops w Q rest (a.put o.dst v)) : wpStill P ops w Q (o :: rest) a := by
  obtain ⟨ad, v, h1, h2, h3⟩ := h
  refine wpStill_step fun K hK => ?_
  rw [if_pos (by simp [Region.wanted, hgd])]
  unfold Oper.still
  rw [exec_load ho h1 h2]
  exact ⟨rfl, hK _ h3⟩
theorem wpQuiet_load {Q : Act → Prop} {C : World → Prop} (ty : TypeId) (hgd : Region.wanted o (yielded ops a.tmps) = true) (x : Operand) (ho : o.op = .load ty x) (h : ∃ ad v, a.eval x = .pointer (some ad) ∧ (∀ w, C w → (loadVar ty ad).run P w = .ok v w) ∧ wpQuiet P ops C Q rest (a.put o.dst v)) : wpQuiet P ops C Q (o :: rest) a := by
  obtain ⟨ad, v, h1, h2, h3⟩ := h
  exact BigFrame.wpQuiet_want hgd fun K hK => quiet_run (fun w hw => exec_load ho h1 (h2 w hw)) (hK _ h3)
theorem wpQuiet_neq {Q : Act → Prop} {C : World → Prop} (t : TypeId) (hgd : Region.wanted o (yielded ops a.tmps) = true) (x y : Operand) {t' : TypeId} (ho : o.op = .binOp .neq t x y t') (hm : P.eqGuardType P.depth t = false) (h : ∃ xs ys r, a.eval x = .agg xs ∧ a.eval y = .agg ys ∧ (∀ w, (Op.equal t (.agg xs) (.agg ys)).run P w = .ok r w) ∧ wpQuiet P ops C Q rest (a.put o.dst (.bool !r))) : wpQuiet P ops C Q (o :: rest) a := by
  obtain ⟨xs, ys, r, h1, h2, h3, h4⟩ := h
  exact BigFrame.wpQuiet_want hgd fun K hK => quiet_run (fun w hw => exec_neq ho h1 h2 hm (h3 w)) (hK _ h4)
theorem wpQuiet_eql {Q : Act → Prop} {C : World → Prop} (t : TypeId) (hgd : Region.wanted o (yielded ops a.tmps) = true) (x y : Operand) {t' : TypeId} (ho : o.op = .binOp .eql t x y t') (hm : P.eqGuardType P.depth t = false) (h : ∃ xs ys r, a.eval x = .agg xs ∧ a.eval y = .agg ys ∧ (∀ w, (Op.equal t (.agg xs) (.agg ys)).run P w = .ok r w) ∧ wpQuiet P ops C Q rest (a.put o.dst (.bool r))) : wpQuiet P ops C Q (o :: rest) a := by
  obtain ⟨xs, ys, r, h1, h2, h3, h4⟩ := h
  exact BigFrame.wpQuiet_want hgd fun K hK => quiet_run (fun w hw => exec_eql ho h1 h2 hm (h3 w)) (hK _ h4)
end

theorem newrcv_no (w : World) (l : List Nat) (n : Int) (hn : n < 0 ∨ 65536 < n) :
    Calls Tryz.prog 8 #[.agg (idA l), .int .i64 n] w fun e w' => e = .returned (.tuple #[.pointer none, .int .i64 2]) ∧ w' = w.alloc (.cells (idA l) 23) := by
  rcases hn with hn | hn
  · go_enter Tryz.func8, Tryz.ntmps8
    go_wp2_with fail
    go_ret2
    exact ⟨rfl, rfl⟩
  · have h0 : ¬ n < 0 := by omega
    go_enter Tryz.func8, Tryz.ntmps8
    go_wp2_with fail
    go_ret2
    exact ⟨rfl, rfl⟩
theorem newrcv_any (w : World) {l : List Nat} (h : IdOk l) (n : Int) (h0 : 0 ≤ n) (h1 : n ≤ 65536) :
    Calls Tryz.prog 8 #[.agg (idA l), .int .i64 n] w fun e w' => e = .returned (.tuple #[.pointer (some ⟨w.heap.size + 1, 0, none⟩), .int .i64 0]) ∧
      w' = (w.alloc (.cells (idA l) 23)).alloc (.cells (rcvC l n (.pointer none) (.slice none 0 0) false) 54) := by
  go_enter Tryz.func8, Tryz.ntmps8
  go_wp2_with (first
    | ((with_reducible refine wpList_load 23 rfl _ rfl ?_); refine ⟨_, _, rfl, load_id _ w.heap.size 0 _ _ _ h.len (heap_alloc_last w _) (id_self l), ?_⟩)
    | ((with_reducible refine wpList_build2 54 rfl _ _ rfl ?_); refine ⟨_, _, _, rfl, rfl, build_rcv _ h.len n, ?_⟩))
  go_ret2
  exact ⟨rfl, rfl⟩

end Go.Proofs.YtolhjijnbobphaaGreatDoor
