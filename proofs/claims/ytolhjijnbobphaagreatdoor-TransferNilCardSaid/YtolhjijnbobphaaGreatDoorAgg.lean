/- Laws on values that are arrays or structs of many cells, the cells whatever: a load out of the middle of a block, a build, a store into a new block, a comparison. -/
import Derived.Test.YtolhjijnbobphaaGreatDoorBldS
import Derived.Deep.WholeRow
import Derived.Deep.QuietTactic
import Derived.BigQuiet
import Derived.DeepKeys
import Derived.IntWalk
import Derived.Outline
import Derived.OpenShut
namespace Go.Proofs.YtolhjijnbobphaaGreatDoor
open Go.RowKit Go.Maps
set_option linter.unusedVariables false
set_option maxRecDepth 100000

section
variable {P : Program} {ops : Array Oper} {rest : List Oper} {o : Oper} {a : Act} {w w' : World} {Q : Exit → Act → World → Prop} {v : Value}

/-- One operation by its run. -/
theorem wpList_run (hgd : o.guard = none) (h : (execOp a.eval o).run P w = .ok (.value v) w') (hk : wpList P ops Q rest (a.put o.dst v) w') : wpList P ops Q (o :: rest) a w :=
  wpList_plain hgd fun K hK => by unfold Oper.wp; rw [h]; exact hK _ _ hk
theorem wpList_run_skip (hgd : o.guard = none) (h : (execOp a.eval o).run P w = .ok .skip w') (hk : wpList P ops Q rest (a.put o.dst undef) w') : wpList P ops Q (o :: rest) a w :=
  wpList_plain hgd fun K hK => by unfold Oper.wp; rw [h]; exact hK _ _ hk
theorem quiet_run {C : World → Prop} {K : Act → Prop} (h : ∀ w, C w → (execOp a.eval o).run P w = .ok (.value v) w) (hk : K (a.put o.dst v)) : o.quiet P a C K :=
  ⟨v, fun w hw => by unfold Oper.quietAt; rw [h w hw]; exact ⟨rfl, rfl⟩, hk⟩
theorem step_run {K : Act → World → Prop} {E : Prop} (hgd : o.guard = none) (h : (execOp a.eval o).run P w = .ok (.value v) w') (hk : K (a.put o.dst v) w') :
    if Region.wanted o (yielded ops a.tmps) = true then Oper.wp P o a w K Q else E := by
  have hw : Region.wanted o (yielded ops a.tmps) = true := by simp [Region.wanted, hgd]
  rw [if_pos hw]
  unfold Oper.wp
  rw [h]
  exact hk

theorem exec_load {ty : TypeId} {x : Operand} {ad : Addr} (ho : o.op = .load ty x) (hx : a.eval x = .pointer (some ad)) (hl : (loadVar ty ad).run P w = .ok v w) : (execOp a.eval o).run P w = .ok (.value v) w := by
  unfold execOp
  simp only [ho, hx, Instr.loadAt, Instr.sureAddr, Sem.run_bind, Sem.run_pure, Result.andThen_ok, hl]
theorem exec_build {t : TypeId} {ps : Array (Nat × Operand)} (ho : o.op = .build t ps) (hb : (Instr.build t (ps.map fun (i, x) => (i, a.eval x))).run P w = .ok v w) : (execOp a.eval o).run P w = .ok (.value v) w := by
  unfold execOp
  simp only [ho, Sem.run_bind, Sem.run_pure, Result.andThen_ok, hb]
theorem exec_store {t : TypeId} {x y : Operand} {ad : Addr} {u : Value} (ho : o.op = .store t x y) (hx : a.eval x = .pointer (some ad)) (hy : a.eval y = u) (hs : (storeVar t ad u).run P w = .ok () w') : (execOp a.eval o).run P w = .ok .skip w' := by
  unfold execOp
  simp only [ho, hx, hy, Instr.storeAt, Instr.sureAddr, Sem.run_bind, Sem.run_pure, Result.andThen_ok, hs]
theorem exec_eql {t t' : TypeId} {x y : Operand} {xs ys : Array Value} {r : Bool} (ho : o.op = .binOp .eql t x y t') (hx : a.eval x = .agg xs) (hy : a.eval y = .agg ys) (hm : P.eqGuardType P.depth t = false) (he : (Op.equal t (.agg xs) (.agg ys)).run P w = .ok r w) : (execOp a.eval o).run P w = .ok (.value (.bool r)) w := by
  unfold execOp
  simp only [ho, hx, hy, Sem.run_bind, Sem.run_pure, Result.andThen_ok, run_eqGuard_agg w _ _ _ _ _ _ hm, binOp, he]
theorem exec_neq {t t' : TypeId} {x y : Operand} {xs ys : Array Value} {r : Bool} (ho : o.op = .binOp .neq t x y t') (hx : a.eval x = .agg xs) (hy : a.eval y = .agg ys) (hm : P.eqGuardType P.depth t = false) (he : (Op.equal t (.agg xs) (.agg ys)).run P w = .ok r w) : (execOp a.eval o).run P w = .ok (.value (.bool !r)) w := by
  unfold execOp
  simp only [ho, hx, hy, Sem.run_bind, Sem.run_pure, Result.andThen_ok, run_eqGuard_agg w _ _ _ _ _ _ hm, binOp, he]

/-- Cells out of the middle of a block. -/
theorem run_loadVar_part (w : World) (g off : Nat) (t ty : TypeId) (cs ids : Array Value) (fr : Nat × Nat) (d : TypeDesc) (hg : w.heap[g]? = some (.cells cs t fr))
    (hu : P.underlying ty = some d) (hd : (match d with | .struct _ | .array _ _ => true | _ => false) = true) (hi : (P.info? ty).map (·.size) = some ids.size)
    (hp : ∀ j u, ids[j]? = some u → cs[off + j]? = some u) : (loadVar ty ⟨g, off, none⟩).run P w = .ok (.agg ids) w := by
  have hl : (loadCells ⟨g, off, none⟩ ids.toList.length).run P w = .ok ids.toList.toArray w :=
    run_loadCells_list (P := P) w ⟨g, off, none⟩ ids.toList (fun j u hv => by
      have hadd : (⟨g, off, none⟩ : Addr).add j = ⟨g, off + j, none⟩ := by unfold Addr.add; split <;> simp_all
      rw [hadd, cell_of_row w g (off + j) cs t fr hg]
      exact hp j u (by simpa using hv))
  cases hq : P.info? ty with
  | none => simp [hq] at hi
  | some i =>
    have hs : i.size = ids.size := by simpa [hq] using hi
    have hagg : (isAgg ty).run P w = .ok true w := by
      unfold isAgg
      rw [Sem.run_bind, run_underlying hu w]
      cases d <;> simp_all
    simp only [Array.length_toList, Array.toArray_toList] at hl
    simp [loadVar, Sem.run_bind, hagg, sizeOf, typeInfo, hq, hs, hl]
end

/-- One part of a build. -/
theorem foldl_set (off : Nat) : ∀ (vs : List Value) (k : Nat) (cs : Array Value), off + k + vs.length ≤ cs.size →
    (vs.zipIdx k).foldl (fun cs (p : Value × Nat) => cs.setIfInBounds (off + p.2) p.1) cs = (cs.toList.take (off + k) ++ vs ++ cs.toList.drop (off + k + vs.length)).toArray
  | [], k, cs, h => by simp
  | v :: vs, k, cs, h => by
    rw [List.zipIdx_cons, List.foldl_cons, foldl_set off vs (k + 1) _ (by simp at h ⊢; omega)]
    congr 1
    simp only [Array.toList_setIfInBounds, List.length_cons]
    have h1 : off + k < cs.toList.length := by simp at h ⊢; omega
    rw [List.take_set, List.drop_set_of_lt (by omega), show off + (k + 1) = (off + k) + 1 by omega]
    have h2 : (cs.toList.take (off + k + 1)).set (off + k) v = cs.toList.take (off + k) ++ [v] := by
      rw [List.take_succ_eq_append_getElem h1, List.set_append_right _ _ (by simp; omega)]
      simp only [List.length_take]
      rw [Nat.min_eq_left (by omega), Nat.sub_self, List.set_cons_zero]
    rw [h2, show off + k + 1 + vs.length = off + k + (vs.length + 1) by omega]
    simp
def splice (cs : Array Value) (off : Nat) (vs : Array Value) : Array Value := (cs.toList.take off ++ vs.toList ++ cs.toList.drop (off + vs.size)).toArray
theorem fill_step {place : Nat → Option (Nat × Nat)} {cs : Array Value} {i off size : Nat} {v : Value} {rest : List (Nat × Value)} (hp : place i = some (off, size)) (hs : v.cells.size = size) (hl : off + size ≤ cs.size) :
    Instr.fill place cs ((i, v) :: rest) = Instr.fill place (splice cs off v.cells) rest := by
  rw [Instr.fill, hp]
  simp only
  rw [if_neg (by simp; omega)]
  congr 1
  rw [← Array.foldl_toList, Array.toList_zipIdx]
  have := foldl_set off v.cells.toList 0 cs (by simp; omega)
  simp only [Nat.add_zero, Array.length_toList] at this
  exact this
theorem run_build_struct {P : Program} (w : World) (t : TypeId) (fs : Array Field) (zs cells : Array Value) (pl : Array (Nat × Nat)) (ps : Array (Nat × Value)) (hz : (zeroValue t).run P w = .ok (.agg zs) w) (hu : P.underlying t = some (.struct fs))
    (hpl : (fs.mapM fun (f : Field) => do pure (f.offset, ← sizeOf f.type)).run P w = .ok pl w) (hf : Instr.fill (pl[·]?) zs ps.toList = some cells) : (Instr.build t ps).run P w = .ok (.agg cells) w := by
  unfold Instr.build
  simp only [Sem.run_bind, hz, Result.andThen_ok, run_underlying hu, hpl, Value.cells, hf, Sem.run_pure]

end Go.Proofs.YtolhjijnbobphaaGreatDoor
