/- (*strings.Builder).String. -/
import Derived.Test.YtohmdledkhgdaaaGreatDoorLo01
import Derived.Deep.WholeRow
import Derived.DeepKeys
import Derived.IntWalk
import Derived.Outline
import Derived.OpenShut
import Derived.StillTailTactics
import Derived.BigRegion
import Derived.Deep.RegionWith
import Derived.Deep.LoopGhost
import Derived.Deep.DeepCutAuto
namespace Go.Proofs.YtohmdledkhgdaaaGreatDoor
open Go.RowKit
set_option linter.unusedVariables false
theorem cells8 : Tryz.prog.cellsOf 5 = 1 := by kernel_rfl
theorem freeze_block {w : World} {g n : Nat} {cur : Array Value} {e : TypeId} {fz : Nat × Nat} (hg : w.heap[g]? = some (.cells cur e fz)) (hn : n ≠ 0) (hfz : fz.2 ≤ n) :
    ∃ fz', (w.freeze ⟨g, 0, none⟩ n).heap[g]? = some (.cells cur e fz') ∧ fz'.2 ≤ n := by
  obtain ⟨lo, hi⟩ := fz
  simp only at hfz
  unfold World.freeze
  rw [if_neg hn]
  simp only [Array.getElem?_modify, hg, if_true, Option.map_some]
  refine ⟨_, rfl, ?_⟩
  split
  · simp
  · simp only [Nat.zero_add]; omega
theorem freeze_other {w : World} {g n k : Nat} (h : k ≠ g) : (w.freeze ⟨g, 0, none⟩ n).heap[k]? = w.heap[k]? := by
  unfold World.freeze
  split
  · rfl
  · simp only [Array.getElem?_modify]
    rw [if_neg (by omega)]
theorem freeze_size (w : World) (g n : Nat) : (w.freeze ⟨g, 0, none⟩ n).heap.size = w.heap.size := by
  unfold World.freeze
  split
  · rfl
  · simp
/-- What String leaves: the bytes are frozen, nothing else has turned. -/
theorem bd_frozen {w : World} {B b o T g n cap : Nat} {cs : Array Value} {xs : List Nat} (h : Bd w B b o T cs (.slice (some ⟨g, 0, none⟩) n cap) xs) (hT : T ≠ 5) (hn : n = xs.length) (h0 : n ≠ 0) :
    Bd (w.freeze ⟨g, 0, none⟩ n) B b o T cs (.slice (some ⟨g, 0, none⟩) n cap) xs ∧ FrB b (.slice (some ⟨g, 0, none⟩) n cap) w (w.freeze ⟨g, 0, none⟩ n) := by
  have hne := ownF_ne h.row h.heap hT
  have hgb : b ≠ g := fun e => hne (by simp [Value.ownBlock, e])
  refine ⟨⟨(freeze_other hgb).trans h.heap, h.addr, h.buf, h.row.1, ?_⟩, ?_⟩
  · rcases h.row.2 with ⟨hv, _⟩ | ⟨g', cap', cur, fz, hv, hb, hg, hfz, r⟩
    · simp at hv
    · have hv' := hv
      simp only [Value.slice.injEq, Option.some.injEq, Addr.mk.injEq] at hv'
      obtain ⟨⟨rfl, _⟩, _, rfl⟩ := hv'
      obtain ⟨fz', h1, h2⟩ := freeze_block hg h0 (by rw [hn]; simpa using hfz)
      exact .inr ⟨g, cap, cur, fz', hv, hb, h1, by rw [← hn]; simpa using h2, r⟩
  · refine ⟨?_, ?_, ?_, by rw [freeze_size]; exact Nat.le_refl _, fun k _ _ h2 => freeze_other (fun e => h2 (by simp [Value.ownBlock, e]))⟩ <;> (unfold World.freeze; split <;> rfl)
theorem FrB.refl (b : Nat) (v : Value) (w : World) : FrB b v w w := ⟨rfl, rfl, rfl, Nat.le_refl _, fun _ _ _ _ => rfl⟩
theorem Bd.drewN {w : World} {B b o T : Nat} {cs : Array Value} {v : Value} {xs : List Nat} (h : Bd w B b o T cs v xs) (n : Nat) : Bd (w.drewN n) B b o T cs v xs := ⟨h.1, h.2, h.3, h.4⟩
theorem Bd.drew {w : World} {B b o T : Nat} {cs : Array Value} {v : Value} {xs : List Nat} (h : Bd w B b o T cs v xs) : Bd w.drew B b o T cs v xs := ⟨h.1, h.2, h.3, h.4⟩
theorem FrB.drew {b : Nat} {v : Value} {w w' : World} (h : FrB b v w w') : FrB b v w w'.drew := ⟨h.1, h.2, h.3, h.4, h.5⟩
theorem ownF_alloc {w : World} {base e size n : Nat} {v : Value} {xs : List Value} (h : w.ownsRowF base e size v n xs) (o : Obj) : (w.alloc o).ownsRowF base e size v n xs :=
  h.kept (World.grownBy_alloc w o none) (by cases hv : v.ownBlock <;> simp)
theorem Bd.alloc {w : World} {B b o T : Nat} {cs : Array Value} {v : Value} {xs : List Nat} (h : Bd w B b o T cs v xs) (x : Obj) : Bd (w.alloc x) B b o T cs v xs := ⟨alloc_block h.1, h.2, h.3, ownF_alloc h.4 x⟩
theorem FrB.alloc {b : Nat} {v : Value} {w w' : World} (h : FrB b v w w') (x : Obj) : FrB b v w (w'.alloc x) := ⟨h.1, h.2, h.3, by have := h.4; simp; omega, fun k hk h1 h2 => (Below.heap_alloc w' x k (Nat.lt_of_lt_of_le hk h.4)).trans (h.5 k hk h1 h2)⟩
def StrPost (w : World) (B b o : Nat) (T : TypeId) (cs : Array Value) (v : Value) (xs : List Nat) (e : Ending) (w' : World) : Prop :=
  e = .returned (.string (strN xs)) ∧ Bd w' B b o T cs v xs ∧ FrB b v w w'
set_option maxHeartbeats 400000 in
theorem bstring_any (w : World) (B b o : Nat) (T : TypeId) (cs : Array Value) (v : Value) (xs : List Nat) (h : Bd w B b o T cs v xs) (hT : T ≠ 5) (hx : ∀ x ∈ xs, x < 256) (hlen : xs.length ≤ 140737488355328) :
    Calls Tryz.prog 43 #[.pointer (some ⟨b, o, none⟩)] w (StrPost w B b o T cs v xs) := by
  have hc1 := cellB h.heap (o + 1)
  rw [h.buf] at hc1
  rcases h.row.2 with ⟨rfl, h0⟩ | ⟨g, cap, cur, fz, rfl, hbg, hg, hfz, hnc, hcm, hcs, htake⟩
  · obtain rfl : xs = [] := List.eq_nil_of_length_eq_zero h0
    have H := Lib.hid h
    have s1 := fun (w : World) => Lib.run_unsafeSliceData_nil (P := Tryz.prog) w #[62] 132 0 0
    have s2 := fun (w : World) => Lib.run_unsafeString_none (P := Tryz.prog) w 132 3 9 none
    clear h
    go_enter Tryz.func43, Tryz.ntmps43
    go_wp2_with fail
    go_region
    all_goals go_wp2_with fail
    all_goals go_ret
    all_goals exact ⟨rfl, H.out.drew, (FrB.refl _ _ _).drew⟩
  · obtain ⟨n, hn⟩ : ∃ n, n = xs.length := ⟨_, rfl⟩
    rw [← hn] at hc1 h ⊢
    by_cases h0 : n = 0
    · obtain rfl : xs = [] := List.eq_nil_of_length_eq_zero (by omega)
      subst h0
      have H := Lib.hid h
      have s2 := fun (w : World) (p : Option Addr) => Lib.run_unsafeString_none (P := Tryz.prog) w 132 3 9 p
      by_cases hc0 : cap = 0
      · subst hc0
        have s1 := Lib.run_unsafeSliceData_zero (P := Tryz.prog) w.drew #[62] 132 5 Tryz.underlying132 ⟨g, 0, none⟩ 0 _ (shapeB (w := w.drew) hg)
        have h1' := cellB (w := w.alloc (.view ⟨g, 0, none⟩ 5)) (alloc_block h.heap) (o + 1)
        rw [h.buf] at h1'
        clear h hg hcs htake hfz hnc hcm hn
        go_enter Tryz.func43, Tryz.ntmps43
        go_wp2_with fail
        go_region
        all_goals go_wp2_with fail
        all_goals go_ret
        all_goals exact ⟨rfl, (H.out.alloc _).drew, ((FrB.refl _ _ _).alloc _).drew⟩
      · have s1 := fun (w : World) => Lib.run_unsafeSliceData_row (P := Tryz.prog) w #[62] 132 ⟨g, 0, none⟩ 0 cap hc0
        clear h hg hcs htake hfz hnc hcm hn
        go_enter Tryz.func43, Tryz.ntmps43
        go_wp2_with fail
        go_region
        all_goals go_wp2_with fail
        all_goals go_ret
        all_goals exact ⟨rfl, H.out.drew, (FrB.refl _ _ _).drew⟩
    · have H := Lib.hid (bd_frozen h.drew hT hn h0)
      have s1 := fun (w : World) => Lib.run_unsafeSliceData_row (P := Tryz.prog) w #[62] 132 ⟨g, 0, none⟩ n cap (by omega)
      have hl : (xs.map UInt8.ofNat).length = n := by rw [List.length_map, hn]
      have s2 : (Builtin.unsafeString_ #[132, 3] 9 #[.pointer (some ⟨g, 0, none⟩), .int .i64 (n : Int)]).run Tryz.prog w.drew = .ok (.string (strN xs)) (w.drew.freeze ⟨g, 0, none⟩ n) := by
        have hs := Lib.run_unsafeString_row (P := Tryz.prog) w.drew 132 3 9 5 Tryz.underlying132 cells8 g cur.size (shapeB hg) (xs.map UInt8.ofNat) (by intro e; rw [e] at hl; simp at hl; omega) (by rw [hl, hcs]; omega) (by rw [hl]; omega) ?_
        · rw [hl] at hs
          exact hs
        · intro j x hj
          have hjl : j < xs.length := by have := (List.getElem?_eq_some_iff.1 hj).1; simpa using this
          have hc := h.row.cells (g := g) rfl j (U xs[j]) (by rw [List.getElem?_map, List.getElem?_eq_getElem hjl]; rfl)
          rw [List.getElem?_map, List.getElem?_eq_getElem hjl] at hj
          simp only [Option.map_some, Option.some.injEq] at hj
          subst hj
          have hx1 := hx _ (List.getElem_mem hjl)
          have e2 : (UInt8.ofNat xs[j]).toNat = xs[j] := Nat.mod_eq_of_lt hx1
          rw [e2]
          exact hc
      have hn63 : n ≤ 9223372036854775807 := by omega
      clear h hl hcs htake hg hfz hnc hcm hn hx
      go_enter Tryz.func43, Tryz.ntmps43
      go_wp2_with fail
      go_region
      all_goals go_wp2_with fail
      all_goals go_ret
      all_goals exact ⟨rfl, H.out.1, ⟨H.out.2.1, H.out.2.2, H.out.2.3, H.out.2.4, H.out.2.5⟩⟩
end Go.Proofs.YtohmdledkhgdaaaGreatDoor
/- Laws on values that are arrays or structs of many cells, the cells whatever: a load out of the middle of a block, a build, a store into a new block, a comparison. -/
namespace Go.Proofs.YtohmdledkhgdaaaGreatDoor
open Go.RowKit Go.Maps
set_option linter.unusedVariables false
set_option maxRecDepth 100000
section
variable {P : Program} {ops : Array Oper} {rest : List Oper} {o : Oper} {a : Act} {w w' : World} {Q : Exit → Act → World → Prop} {v : Value}
/-- One operation by its run. -/
theorem wpList_run (hgd : o.guard = none) (h : (execOp a.eval o).run P w = .ok (.value v) w') (hk : wpList P ops Q rest (a.put o.dst v) w') : wpList P ops Q (o :: rest) a w :=
  wpList_plain hgd fun K hK => by unfold Oper.wp; rw [h]; exact hK _ _ hk
theorem wpList_run_skip (hgd : o.guard = none) (h : (execOp a.eval o).run P w = .ok .skip w') (hk : wpList P ops Q rest (a.put o.dst undef) w') : wpList P ops Q (o :: rest) a w :=
  wpList_plain hgd fun K hK => by unfold Oper.wp; rw [h]; exact hK _ _ hk
theorem quiet_run {C : World → Prop} {K : Act → Prop} (h : ∀ w, C w → (execOp a.eval o).run P w = .ok (.value v) w) (hk : K (a.put o.dst v)) : o.quiet P a C K :=
  ⟨v, fun w hw => by unfold Oper.quietAt; rw [h w hw]; exact ⟨rfl, rfl⟩, hk⟩
theorem exec_load {ty : TypeId} {x : Operand} {ad : Addr} (ho : o.op = .load ty x) (hx : a.eval x = .pointer (some ad)) (hl : (loadVar ty ad).run P w = .ok v w) : (execOp a.eval o).run P w = .ok (.value v) w := by
  unfold execOp
  simp only [ho, hx, Instr.loadAt, Instr.sureAddr, Sem.run_bind, Sem.run_pure, Result.andThen_ok, hl]
theorem exec_build {t : TypeId} {ps : Array (Nat × Operand)} (ho : o.op = .build t ps) (hb : (Instr.build t (ps.map fun (i, x) => (i, a.eval x))).run P w = .ok v w) : (execOp a.eval o).run P w = .ok (.value v) w := by
  unfold execOp
  simp only [ho, Sem.run_bind, Sem.run_pure, Result.andThen_ok, hb]
theorem exec_store {t : TypeId} {x y : Operand} {ad : Addr} {u : Value} (ho : o.op = .store t x y) (hx : a.eval x = .pointer (some ad)) (hy : a.eval y = u) (hs : (storeVar t ad u).run P w = .ok () w') : (execOp a.eval o).run P w = .ok .skip w' := by
  unfold execOp
  simp only [ho, hx, hy, Instr.storeAt, Instr.sureAddr, Sem.run_bind, Sem.run_pure, Result.andThen_ok, hs]
theorem exec_eql {t t' : TypeId} {x y : Operand} {xs ys : Array Value} {r : Bool} (ho : o.op = .binOp .eql t x y t') (hx : a.eval x = .agg xs) (hy : a.eval y = .agg ys) (hm : P.eqGuardType P.depth t = false) (he : (Op.equal t (.agg xs) (.agg ys)).run P w = .ok r w) : (execOp a.eval o).run P w = .ok (.value (.bool r)) w := by
  unfold execOp
  simp only [ho, hx, hy, Sem.run_bind, Sem.run_pure, Result.andThen_ok, run_eqGuard_agg w _ _ _ _ _ _ hm, binOp, he]
theorem exec_neq {t t' : TypeId} {x y : Operand} {xs ys : Array Value} {r : Bool} (ho : o.op = .binOp .neq t x y t') (hx : a.eval x = .agg xs) (hy : a.eval y = .agg ys) (hm : P.eqGuardType P.depth t = false) (he : (Op.equal t (.agg xs) (.agg ys)).run P w = .ok r w) : (execOp a.eval o).run P w = .ok (.value (.bool !r)) w := by
  unfold execOp
  simp only [ho, hx, hy, Sem.run_bind, Sem.run_pure, Result.andThen_ok, run_eqGuard_agg w _ _ _ _ _ _ hm, binOp, he]
/-- Cells out of the middle of a block. -/
theorem run_loadVar_part (w : World) (g off : Nat) (t ty : TypeId) (cs ids : Array Value) (fr : Nat × Nat) (d : TypeDesc) (hg : w.heap[g]? = some (.cells cs t fr))
    (hu : P.underlying ty = some d) (hd : (match d with | .struct _ | .array _ _ => true | _ => false) = true) (hi : (P.info? ty).map (·.size) = some ids.size)
    (hp : ∀ j u, ids[j]? = some u → cs[off + j]? = some u) : (loadVar ty ⟨g, off, none⟩).run P w = .ok (.agg ids) w := by
  have hl : (loadCells ⟨g, off, none⟩ ids.toList.length).run P w = .ok ids.toList.toArray w :=
    run_loadCells_list (P := P) w ⟨g, off, none⟩ ids.toList (fun j u hv => by
      have hadd : (⟨g, off, none⟩ : Addr).add j = ⟨g, off + j, none⟩ := by unfold Addr.add; split <;> simp_all
      rw [hadd, cell_of_row w g (off + j) cs t fr hg]
      exact hp j u (by simpa using hv))
  cases hq : P.info? ty with
  | none => simp [hq] at hi
  | some i =>
    have hs : i.size = ids.size := by simpa [hq] using hi
    have hagg : (isAgg ty).run P w = .ok true w := by
      unfold isAgg
      rw [Sem.run_bind, run_underlying hu w]
      cases d <;> simp_all
    simp only [Array.length_toList, Array.toArray_toList] at hl
    simp [loadVar, Sem.run_bind, hagg, sizeOf, typeInfo, hq, hs, hl]
end
end Go.Proofs.YtohmdledkhgdaaaGreatDoor
/- Identities as cells; parts of blocks; builds of structs. -/
namespace Go.Proofs.YtohmdledkhgdaaaGreatDoor
open Go.RowKit Go.Maps
set_option linter.unusedVariables false
set_option maxRecDepth 100000
def idA (l : List Nat) : Array Value := (l.map U).toArray
structure IdOk (l : List Nat) : Prop where
  len : l.length = 32
  lt : ∀ x ∈ l, x < 256
theorem idA_size (l : List Nat) : (idA l).size = l.length := by simp [idA]
theorem at_mid (xs : List Value) (l : List Nat) (ys : List Value) (n : Nat) (h : xs.length = n) : ∀ j u, (idA l)[j]? = some u → (xs ++ l.map U ++ ys).toArray[n + j]? = some u := by
  intro j u hu
  subst h
  unfold idA at hu
  rw [List.getElem?_toArray] at hu ⊢
  have hj := (List.getElem?_eq_some_iff.1 hu).1
  rw [List.append_assoc, List.getElem?_append_right (by omega), Nat.add_sub_cancel_left, List.getElem?_append_left hj]
  exact hu
theorem size23 : (Tryz.prog.info? 26).map (·.size) = some 32 := by kernel_rfl
theorem load_id (w : World) (g off : Nat) (t : TypeId) (cs : Array Value) (fr : Nat × Nat) {l : List Nat} (h : l.length = 32) (hg : w.heap[g]? = some (.cells cs t fr)) (hp : ∀ j u, (idA l)[j]? = some u → cs[off + j]? = some u) :
    (loadVar 26 ⟨g, off, none⟩).run Tryz.prog w = .ok (.agg (idA l)) w :=
  run_loadVar_part w g off t 26 cs (idA l) fr _ hg Tryz.underlying26 rfl (by rw [idA_size, h]; exact size23) hp
def z32 : List Value := List.replicate 32 (.int .u8 0)
end Go.Proofs.YtohmdledkhgdaaaGreatDoor
/- Comparisons of identities. -/
namespace Go.Proofs.YtohmdledkhgdaaaGreatDoor
open Go.RowKit Go.Maps
set_option linter.unusedVariables false
set_option maxRecDepth 100000
theorem mapM_some {α β : Type} (f : α → Option β) (g : α → β) : ∀ (L : List α), (∀ i ∈ L, f i = some (g i)) → L.mapM f = some (L.map g)
  | [], _ => rfl
  | x :: L, h => by
    rw [List.mapM_cons, h x (by simp), mapM_some f g L (fun i hi => h i (by simp [hi]))]
    rfl
theorem cells23 : Tryz.prog.cellsOf 26 = 32 := by kernel_rfl
theorem cells5 : Tryz.prog.cellsOf 5 = 1 := by kernel_rfl
def byteLits (l : List Nat) : List Lit := l.map fun n : Nat => Lit.int .u8 (n : Int)
theorem byteLits_inj {l m : List Nat} (h : byteLits l = byteLits m) : l = m := by
  unfold byteLits at h
  exact (List.map_inj_right (fun a b hab => by simp at hab; omega)).1 h
section
variable {P : Program} {d n : Nat} {t e : TypeId} {cs : List Value} {fs : Array Field} {q : IntKind}
theorem keyLits_array (hu : P.underlying t = some (.array n e)) : P.keyLits (d + 1) t cs = if cs.length = P.cellsOf t then ((List.range n).mapM fun i => P.keyLits d e ((cs.drop (i * P.cellsOf e)).take (P.cellsOf e))).map List.flatten else none := by
  rw [Program.keyLits.eq_def]; simp only [hu]
theorem keyLits_int (hu : P.underlying t = some (.int q)) {m : Int} (hw : (Lit.int q m).wf = true) : P.keyLits (d + 1) t [.int q m] = some [.int q m] := by
  rw [Program.keyLits.eq_def]; simp only [hu, hw, and_self, if_true]
end
theorem lits_id (D : Nat) {l : List Nat} (h : IdOk l) : Tryz.prog.keyLits (D + 2) 26 (l.map U) = some (byteLits l) := by
  rw [keyLits_array Tryz.underlying26, if_pos (by rw [List.length_map, h.len, cells23])]
  rw [mapM_some _ (fun i => [Lit.int .u8 (l.getD i 0 : Int)])]
  · simp only [Option.map_some, Option.some.injEq]
    unfold byteLits
    have : (List.range 32).map (fun i => [Lit.int .u8 (l.getD i 0 : Int)]) = (l.map fun n : Nat => [Lit.int .u8 (n : Int)]) := by
      apply List.ext_getElem
      · simp [h.len]
      · intro i h1 h2
        simp at h1
        simp [List.getD, List.getElem?_eq_getElem (show i < l.length by rw [h.len]; exact h1)]
    rw [this]
    clear this h
    induction l with
    | nil => rfl
    | cons x l ih => simp [ih]
  · intro i hi
    have hi' : i < l.length := by rw [h.len]; exact List.mem_range.1 hi
    have hx := h.lt _ (List.getElem_mem hi')
    have e : ((l.map U).drop (i * Tryz.prog.cellsOf 5)).take (Tryz.prog.cellsOf 5) = [Value.int .u8 (l[i] : Int)] := by
      rw [cells5, Nat.mul_one, List.drop_eq_getElem_cons (by simpa using hi')]
      simp [U]
    rw [e, keyLits_int Tryz.underlying5 (by simp [Lit.wf, IntKind.min, IntKind.max, IntKind.signed, IntKind.bits]; omega)]
    simp [List.getD, List.getElem?_eq_getElem hi']
theorem eq_id (w : World) {l m : List Nat} (hl : IdOk l) (hm : IdOk m) : (Op.equal 26 (.agg (idA l)) (.agg (idA m))).run Tryz.prog w = .ok (decide (l = m)) w := by
  obtain ⟨r, hr, hiff⟩ := run_equalIn_deep (P := Tryz.prog) 9997 3 26 (by kernel_rfl) w 2 2 (.agg (idA l)) (.agg (idA m)) (byteLits l) (byteLits m) (by simp [Value.formed, Tryz.underlying26, cells23, idA_size, hl.len]) (by simp [Value.formed, Tryz.underlying26, cells23, idA_size, hm.len]) (lits_id 0 hl) (lits_id 0 hm)
  have e : r = decide (l = m) := by
    rw [Bool.eq_iff_iff, hiff, decide_eq_true_iff]
    exact ⟨byteLits_inj, fun e => by rw [e]⟩
  rw [← e]
  exact hr
theorem guard23 : Tryz.prog.eqGuardType Tryz.prog.depth 26 = false := by kernel_rfl
end Go.Proofs.YtohmdledkhgdaaaGreatDoor
/- Laws on loads, stores, builds and comparisons of values of many cells. -/
namespace Go.Proofs.YtohmdledkhgdaaaGreatDoor
open Go.RowKit Go.Maps
set_option linter.unusedVariables false
set_option maxRecDepth 100000
theorem id_self (l : List Nat) : ∀ j u, (idA l)[j]? = some u → (idA l)[0 + j]? = some u := fun j u hu => by rw [Nat.zero_add]; exact hu
theorem exec_build2 {P : Program} {o : Oper} {a : Act} {w : World} {v : Value} {t : TypeId} {i j : Nat} {x y : Operand} {vx vy : Value} (ho : o.op = .build t #[(i, x), (j, y)]) (hx : a.eval x = vx) (hy : a.eval y = vy) (hb : (Instr.build t #[(i, vx), (j, vy)]).run P w = .ok v w) : (execOp a.eval o).run P w = .ok (.value v) w := by
  refine exec_build ho ?_
  simpa [hx, hy] using hb
section
variable {P : Program} {ops : Array Oper} {rest : List Oper} {o : Oper} {a : Act} {w : World} {Q : Exit → Act → World → Prop}
theorem wpList_load (ty : TypeId) (hgd : o.guard = none) (x : Operand) (ho : o.op = .load ty x) (h : ∃ ad v, a.eval x = .pointer (some ad) ∧ (loadVar ty ad).run P w = .ok v w ∧ wpList P ops Q rest (a.put o.dst v) w) : wpList P ops Q (o :: rest) a w := by
  obtain ⟨ad, v, h1, h2, h3⟩ := h
  exact wpList_run hgd (exec_load ho h1 h2) h3
theorem wpList_build2 (t : TypeId) (hgd : o.guard = none) {i j : Nat} (x y : Operand) (ho : o.op = .build t #[(i, x), (j, y)]) (h : ∃ vx vy v, a.eval x = vx ∧ a.eval y = vy ∧ (Instr.build t #[(i, vx), (j, vy)]).run P w = .ok v w ∧ wpList P ops Q rest (a.put o.dst v) w) : wpList P ops Q (o :: rest) a w := by
  obtain ⟨vx, vy, v, h1, h2, h3, h4⟩ := h
  exact wpList_run hgd (exec_build2 ho h1 h2 h3) h4
theorem wpList_store (t : TypeId) (hgd : o.guard = none) (x y : Operand) (ho : o.op = .store t x y) (h : ∃ ad u w', a.eval x = .pointer (some ad) ∧ a.eval y = u ∧ (storeVar t ad u).run P w = .ok () w' ∧ wpList P ops Q rest (a.put o.dst undef) w') : wpList P ops Q (o :: rest) a w := by
  obtain ⟨ad, u, w', h1, h2, h3, h4⟩ := h
  exact wpList_run_skip hgd (exec_store ho h1 h2 h3) h4
theorem wpList_neq (t : TypeId) (hgd : o.guard = none) (x y : Operand) {t' : TypeId} (ho : o.op = .binOp .neq t x y t') (hm : P.eqGuardType P.depth t = false) (h : ∃ xs ys r, a.eval x = .agg xs ∧ a.eval y = .agg ys ∧ (Op.equal t (.agg xs) (.agg ys)).run P w = .ok r w ∧ wpList P ops Q rest (a.put o.dst (.bool !r)) w) : wpList P ops Q (o :: rest) a w := by
  obtain ⟨xs, ys, r, h1, h2, h3, h4⟩ := h
  exact wpList_run hgd (exec_neq ho h1 h2 hm h3) h4
theorem wpList_eql (t : TypeId) (hgd : o.guard = none) (x y : Operand) {t' : TypeId} (ho : o.op = .binOp .eql t x y t') (hm : P.eqGuardType P.depth t = false) (h : ∃ xs ys r, a.eval x = .agg xs ∧ a.eval y = .agg ys ∧ (Op.equal t (.agg xs) (.agg ys)).run P w = .ok r w ∧ wpList P ops Q rest (a.put o.dst (.bool r)) w) : wpList P ops Q (o :: rest) a w := by
  obtain ⟨xs, ys, r, h1, h2, h3, h4⟩ := h
  exact wpList_run hgd (exec_eql ho h1 h2 hm h3) h4
theorem wpStill_load {Q : Act → Prop} (ty : TypeId) (hgd : o.guard = none) (x : Operand) (ho : o.op = .load ty x) (h : ∃ ad v, a.eval x = .pointer (some ad) ∧ (loadVar ty ad).run P w = .ok v w ∧ wpStill P ops w Q rest (a.put o.dst v)) : wpStill P ops w Q (o :: rest) a := by
  obtain ⟨ad, v, h1, h2, h3⟩ := h
  refine wpStill_step fun K hK => ?_
  rw [if_pos (by simp [Region.wanted, hgd])]
  unfold Oper.still
  rw [exec_load ho h1 h2]
  exact ⟨rfl, hK _ h3⟩
theorem wpQuiet_load {Q : Act → Prop} {C : World → Prop} (ty : TypeId) (hgd : Region.wanted o (yielded ops a.tmps) = true) (x : Operand) (ho : o.op = .load ty x) (h : ∃ ad v, a.eval x = .pointer (some ad) ∧ (∀ w, C w → (loadVar ty ad).run P w = .ok v w) ∧ wpQuiet P ops C Q rest (a.put o.dst v)) : wpQuiet P ops C Q (o :: rest) a := by
  obtain ⟨ad, v, h1, h2, h3⟩ := h
  exact BigFrame.wpQuiet_want hgd fun K hK => quiet_run (fun w hw => exec_load ho h1 (h2 w hw)) (hK _ h3)
theorem wpQuiet_eql {Q : Act → Prop} {C : World → Prop} (t : TypeId) (hgd : Region.wanted o (yielded ops a.tmps) = true) (x y : Operand) {t' : TypeId} (ho : o.op = .binOp .eql t x y t') (hm : P.eqGuardType P.depth t = false) (h : ∃ xs ys r, a.eval x = .agg xs ∧ a.eval y = .agg ys ∧ (∀ w, (Op.equal t (.agg xs) (.agg ys)).run P w = .ok r w) ∧ wpQuiet P ops C Q rest (a.put o.dst (.bool r))) : wpQuiet P ops C Q (o :: rest) a := by
  obtain ⟨xs, ys, r, h1, h2, h3, h4⟩ := h
  exact BigFrame.wpQuiet_want hgd fun K hK => quiet_run (fun w hw => exec_eql ho h1 h2 hm (h3 w)) (hK _ h4)
end
end Go.Proofs.YtohmdledkhgdaaaGreatDoor
/- Walk of regroup and its closures: groups of 'fr' bits come in, groups of 'tt' bits go out through 'pass'. -/
namespace Go.Proofs.YtohmdledkhgdaaaGreatDoor
open Go.RowKit
set_option linter.unusedVariables false
/-- A box of one int. -/
def BoxI (w : World) (b : Nat) (n : Nat) : Prop := w.heap[b]? = some (.cells #[.int .i64 n] 3 (0, 0))
/-- The memory of a regrouping: text box B+1, from B+2, to B+3, pass B+4, bits B+5, count B+6. -/
structure RG (B fr tt pf bits count : Nat) (xs : List Nat) (w : World) : Prop where
  bBits : BoxI w (B + 5) bits
  bFrom : BoxI w (B + 2) fr
  bCount : BoxI w (B + 6) count
  bTo : BoxI w (B + 3) tt
  bPass : w.heap[B + 4]? = some (.cells #[.func (.func pf) #[] #[.pointer (some ⟨B + 1, 0, none⟩)]] 81 (0, 0))
  txt : ∃ v, w.heap[B + 1]? = some (.cells #[v] 62 (0, 0)) ∧ w.ownsRow B 5 1 v xs.length (xs.map U)
/-- What is asked of 'pass'. -/
def PassOK (w0 : World) (B pf m : Nat) (f : Nat → Nat) : Prop :=
  ∀ (w : World) (v : Value) (xs : List Nat) (g : Nat), Below B w0 w → w.heap[B + 1]? = some (.cells #[v] 62 (0, 0)) → w.ownsRow B 5 1 v xs.length (xs.map U) → xs.length ≤ 1000000 → g < m →
    Calls Tryz.prog pf #[.int .i64 g, .pointer (some ⟨B + 1, 0, none⟩)] w fun e w' => e = .returned (.tuple #[]) ∧
      (∃ v', w'.heap[B + 1]? = some (.cells #[v'] 62 (0, 0)) ∧ w'.ownsRow B 5 1 v' (xs.length + 1) ((xs ++ [f g]).map U)) ∧ Frame1 B (B + 1) v w w'
theorem bits_or_i64 (a b : Nat) (ha : a < 9223372036854775808) (hb : b < 9223372036854775808) : bits .or .i64 (a : Int) (b : Int) = ((a ||| b : Nat) : Int) := by
  have hx : a ||| b < 2 ^ 63 := Nat.or_lt_two_pow (by omega) (by omega)
  have h1 : (BitVec.ofInt 64 (a : Int)).toNat = a := by
    rw [BitVec.ofInt_natCast, BitVec.toNat_ofNat]; exact Nat.mod_eq_of_lt (by omega)
  have h2 : (BitVec.ofInt 64 (b : Int)).toNat = b := by
    rw [BitVec.ofInt_natCast, BitVec.toNat_ofNat]; exact Nat.mod_eq_of_lt (by omega)
  show IntKind.i64.wrap ((BitVec.ofInt 64 (a : Int) ||| BitVec.ofInt 64 (b : Int)).toNat : Int) = _
  rw [BitVec.toNat_or, h1, h2, IntKind.wrap_i64]
  omega
theorem bits_and_i64 (a b : Nat) (ha : a < 9223372036854775808) (hb : b < 9223372036854775808) : bits .and .i64 (a : Int) (b : Int) = ((a &&& b : Nat) : Int) := by
  have hx : a &&& b < 2 ^ 63 := Nat.and_lt_two_pow _ (by omega)
  have h1 : (BitVec.ofInt 64 (a : Int)).toNat = a := by
    rw [BitVec.ofInt_natCast, BitVec.toNat_ofNat]; exact Nat.mod_eq_of_lt (by omega)
  have h2 : (BitVec.ofInt 64 (b : Int)).toNat = b := by
    rw [BitVec.ofInt_natCast, BitVec.toNat_ofNat]; exact Nat.mod_eq_of_lt (by omega)
  show IntKind.i64.wrap ((BitVec.ofInt 64 (a : Int) &&& BitVec.ofInt 64 (b : Int)).toNat : Int) = _
  rw [BitVec.toNat_and, h1, h2, IntKind.wrap_i64]
  omega
theorem wrap_nat {n : Int} (h0 : 0 ≤ n) (h1 : n ≤ 9223372036854775807) : wrap64 n = n := by unfold wrap64; omega
theorem or_group (b fr g : Nat) (hb : b < 256) (hfr : fr ≤ 8) (hg : g < 2 ^ fr) : bits .or .i64 (wrap64 ((b : Int) * 2 ^ fr)) (g : Int) = ((b * 2 ^ fr + g : Nat) : Int) := by
  have hp : 2 ^ fr ≤ 2 ^ 8 := Nat.pow_le_pow_right (by omega) hfr
  have hm : b * 2 ^ fr ≤ 256 * 256 := Nat.mul_le_mul (by omega) (by omega)
  have e : ((b : Int) * 2 ^ fr) = ((b * 2 ^ fr : Nat) : Int) := by push_cast; rfl
  rw [e, wrap_nat (by omega) (by omega), bits_or_i64 _ _ (by omega) (by omega)]
  congr 1
  have := Nat.shiftLeft_add_eq_or_of_lt hg b
  rw [Nat.shiftLeft_eq] at this
  exact this.symm
theorem and_mask (b c : Nat) (hb : b < 65536) (hc : c ≤ 16) : bits .and .i64 (b : Int) (2 ^ c - 1) = ((b % 2 ^ c : Nat) : Int) := by
  have hp : 2 ^ c ≤ 2 ^ 16 := Nat.pow_le_pow_right (by omega) hc
  have h1 : 0 < 2 ^ c := Nat.pow_pos (by omega)
  have e : ((2 : Int) ^ c - 1) = ((2 ^ c - 1 : Nat) : Int) := by rw [Int.ofNat_sub h1]; push_cast; rfl
  rw [e, bits_and_i64 _ _ (by omega) (by omega), Nat.and_two_pow_sub_one_eq_mod]
theorem and_mask' (b d : Nat) (hb : b < 65536) (hc : d ≤ 16) : bits .and .i64 (b : Int) (wrap64 (wrap64 (2 ^ d) - 1)) = ((b % 2 ^ d : Nat) : Int) := by
  have hp : 2 ^ d ≤ 2 ^ 16 := Nat.pow_le_pow_right (by omega) hc
  have h1 : 0 < 2 ^ d := Nat.pow_pos (by omega)
  have e : ((2 : Int) ^ d) = ((2 ^ d : Nat) : Int) := by push_cast; rfl
  rw [wrap_nat (n := 2 ^ d) (by rw [e]; omega) (by rw [e]; omega), wrap_nat (by rw [e]; omega) (by rw [e]; omega)]
  exact and_mask b d hb hc
theorem BoxI.drew {w : World} {b n : Nat} (h : BoxI w b n) : BoxI w.drew b n := h
theorem BoxI.same {w w' : World} {b n : Nat} (h : BoxI w b n) (e : w'.heap[b]? = w.heap[b]?) : BoxI w' b n := e.trans h
theorem BoxI.set {w : World} {b n m : Nat} (h : BoxI w b n) : BoxI (w.setCell ⟨b, 0, none⟩ (.int .i64 m)) b m := one_setCell h
theorem BoxI.other {w : World} {b n : Nat} {a : Addr} {u : Value} (h : BoxI w b n) (ha : b ≠ a.block) : BoxI (w.setCell a u) b n := h.same (Below.heap_setCell _ _ _ _ ha)
theorem RG.setBits {B fr tt pf b c : Nat} {xs : List Nat} {w : World} (h : RG B fr tt pf b c xs w) (b' : Nat) : RG B fr tt pf b' c xs (w.setCell ⟨B + 5, 0, none⟩ (.int .i64 b')) := by
  obtain ⟨h1, h2, h3, h4, h5, v, h6, h7⟩ := h
  exact ⟨h1.set, h2.other (by simp), h3.other (by simp), h4.other (by simp), (Below.heap_setCell _ _ _ _ (by simp)).trans h5, v, (Below.heap_setCell _ _ _ _ (by simp)).trans h6, ownsRow_setCell_other h7 (own_ne (b := B + 5) (t := 3) h7 h1 (by decide)) _⟩
theorem RG.setCount {B fr tt pf b c : Nat} {xs : List Nat} {w : World} (h : RG B fr tt pf b c xs w) (c' : Nat) : RG B fr tt pf b c' xs (w.setCell ⟨B + 6, 0, none⟩ (.int .i64 c')) := by
  obtain ⟨h1, h2, h3, h4, h5, v, h6, h7⟩ := h
  exact ⟨h1.other (by simp), h2.other (by simp), h3.set, h4.other (by simp), (Below.heap_setCell _ _ _ _ (by simp)).trans h5, v, (Below.heap_setCell _ _ _ _ (by simp)).trans h6, ownsRow_setCell_other h7 (own_ne (b := B + 6) (t := 3) h7 h3 (by decide)) _⟩
theorem RG.drew {B fr tt pf b c : Nat} {xs : List Nat} {w : World} (h : RG B fr tt pf b c xs w) : RG B fr tt pf b c xs w.drew := ⟨h.1, h.2, h.3, h.4, h.5, h.6⟩
theorem RG.below {B fr tt pf b c : Nat} {xs : List Nat} {w w' : World} (h : RG B fr tt pf b c xs w) (hb : Below w.heap.size w w') : RG B fr tt pf b c xs w' := by
  obtain ⟨h1, h2, h3, h4, h5, v, h6, h7⟩ := h
  refine ⟨h1.same (hb.block _ (lt_of_block h1)), h2.same (hb.block _ (lt_of_block h2)), h3.same (hb.block _ (lt_of_block h3)), h4.same (hb.block _ (lt_of_block h4)), (hb.block _ (lt_of_block h5)).trans h5, v, (hb.block _ (lt_of_block h6)).trans h6, h7.1, ?_⟩
  rcases h7.2 with h | ⟨g, cap, cur, hv, hg, hh, r⟩
  · exact .inl h
  · exact .inr ⟨g, cap, cur, hv, hg, (hb.block _ (lt_of_block hh)).trans hh, r⟩
/-- Behind a call of 'pass'. -/
theorem RG.passed {B fr tt pf b c : Nat} {xs : List Nat} {z : Nat} {w w' : World} {v : Value} (h : RG B fr tt pf b c xs w) (hown : w.ownsRow B 5 1 v xs.length (xs.map U))
    (hn : ∃ v', w'.heap[B + 1]? = some (.cells #[v'] 62 (0, 0)) ∧ w'.ownsRow B 5 1 v' (xs.length + 1) ((xs ++ [z]).map U)) (hf : Frame1 B (B + 1) v w w') : RG B fr tt pf b c (xs ++ [z]) w' := by
  obtain ⟨h1, h2, h3, h4, h5, _⟩ := h
  exact ⟨h1.same (hf.other _ (lt_of_block h1) (by omega) (own_ne (t := 3) hown h1 (by decide))), h2.same (hf.other _ (lt_of_block h2) (by omega) (own_ne (t := 3) hown h2 (by decide))), h3.same (hf.other _ (lt_of_block h3) (by omega) (own_ne (t := 3) hown h3 (by decide))), h4.same (hf.other _ (lt_of_block h4) (by omega) (own_ne (t := 3) hown h4 (by decide))),
    (hf.other _ (lt_of_block h5) (by omega) (own_ne hown h5 (by decide))).trans h5, by rw [List.length_append]; exact hn⟩
set_option maxHeartbeats 400000 in
theorem addE (w0 w : World) (B fr tt bits count g : Nat) (f : Nat → Nat) (xs : List Nat) (h : RG B fr tt 217 bits count xs w) (hb : Below B w0 w) (hp : PassOK w0 B 217 (2 ^ tt) f)
    (hfr : fr ≤ 8) (htt : 1 ≤ tt) (htt8 : tt ≤ 8) (hc : count < tt) (hbits : bits < 2 ^ count) (hg : g < 2 ^ fr) (hn : xs.length ≤ 900000) :
    Calls Tryz.prog 239 #[.int .i64 g, .pointer (some ⟨B + 5, 0, none⟩), .pointer (some ⟨B + 2, 0, none⟩), .pointer (some ⟨B + 6, 0, none⟩), .pointer (some ⟨B + 3, 0, none⟩), .pointer (some ⟨B + 4, 0, none⟩)] w fun e w' =>
      e = .returned (.tuple #[]) ∧ Below B w0 w' ∧ KM w w' ∧ ∃ b c ys, drain f tt 16 (bits * 2 ^ fr + g) (count + fr) xs = (b, c, ys) ∧ RG B fr tt 217 b c ys w' := by
  have c5 := cell_of_one h.bBits
  have c2 := cell_of_one h.bFrom
  have c6 := cell_of_one h.bCount
  have f5 := free_of_one h.bBits
  have f6 := free_of_one h.bCount
  have hp1 : 2 ^ count ≤ 2 ^ 8 := Nat.pow_le_pow_right (by omega) (by omega)
  have hp2 : 2 ^ fr ≤ 2 ^ 8 := Nat.pow_le_pow_right (by omega) (by omega)
  have bd0 := group_lt hbits hg
  have b1 : bits < 256 := by omega
  have b2 : g < 256 := by omega
  obtain ⟨x, hx⟩ : ∃ x, x = bits * 2 ^ fr + g := ⟨_, rfl⟩
  obtain ⟨y, hy⟩ : ∃ y, y = count + fr := ⟨_, rfl⟩
  have hy16 : y < 16 := by omega
  have ey : (count : Int) + (fr : Int) = (y : Int) := by omega
  have e0 : Go.bits .or .i64 (wrap64 ((bits : Int) * 2 ^ fr)) (g : Int) = (x : Int) := by rw [hx]; exact or_group bits fr g b1 hfr hg
  have r0 : RG B fr tt 217 x y xs (((w.setCell ⟨B + 5, 0, none⟩ (.int .i64 (x : Int))).setCell ⟨B + 6, 0, none⟩ (.int .i64 (y : Int))).drew) := ((h.setBits _).setCount _).drew
  have q0 : Below B w0 (((w.setCell ⟨B + 5, 0, none⟩ (.int .i64 (x : Int))).setCell ⟨B + 6, 0, none⟩ (.int .i64 (y : Int))).drew) := ((hb.setCell (by simp) _).setCell (by simp) _).drew
  have bd : x < 2 ^ y := by rw [hx, hy]; exact bd0
  rw [← hx, ← hy]
  have k0 : KM w (((w.setCell ⟨B + 5, 0, none⟩ (.int .i64 (x : Int))).setCell ⟨B + 6, 0, none⟩ (.int .i64 (y : Int))).drew) := ((KM.setCell h.bBits 0 _).trans (KM.setCell (h.setBits x).bCount 0 _)).drew
  have K0 := Lib.hid k0
  clear k0
  have HP := Lib.hid hp; have R0 := Lib.hid r0; have Q0 := Lib.hid q0; have BD := Lib.hid bd
  clear hp h hb hp1 hp2 r0 q0 bd hbits hg hx hy bd0
  go_enter Tryz.func239, Tryz.ntmps239
  go_wp2_with fail
  go_region
  all_goals go_wp2_with fail
  go_loopg [] 16 (fun k wr => ∃ b c ys, RG B fr tt 217 b c ys wr ∧ Below B w0 wr ∧ KM w wr ∧ b < 2 ^ c ∧ c ≤ k ∧ c < 16 ∧ ys.length + c ≤ 900000 + 16 ∧ drain f tt k b c ys = drain f tt 16 x y xs)
  case atStart => exact ⟨x, y, xs, R0.out, Q0.out, K0.out, BD.out, by omega, hy16, by omega, rfl⟩
  case round =>
    obtain ⟨b, c, ys, hr, hq, hkm, hbc, hck, hc16, hlen, hdr⟩ := hrel
    obtain ⟨v, hv, hown⟩ := hr.txt
    have k5 := cell_of_one hr.bBits
    have k3 := cell_of_one hr.bTo
    have k6 := cell_of_one hr.bCount
    have k4 := cell_of_one hr.bPass
    have l5 := free_of_one hr.bBits
    have l6 := free_of_one hr.bCount
    clear e0 c5 c2 c6 f5 f6
    have HKM := Lib.hid hkm
    clear hkm
    by_cases hlt : c < tt
    · have HR := Lib.hid hr; have HQ := Lib.hid hq; have HD := Lib.hid hdr
      clear hr hq hdr hv hown hbc
      go_wp2_with fail
      go_end0
      refine ⟨rfl, HQ.out, HKM.out, b, c, ys, ?_, HR.out⟩
      rw [← HD.out]
      cases gk <;> simp [drain, hlt]
    · obtain ⟨d, hd⟩ : ∃ d, d = c - tt := ⟨_, rfl⟩
      obtain ⟨q, hq'⟩ : ∃ q, q = b / 2 ^ d := ⟨_, rfl⟩
      have ed : (c : Int) - (tt : Int) = (d : Int) := by omega
      have eq : (b : Int) / 2 ^ d = (q : Int) := by rw [hq']; push_cast; rfl
      have hd16 : d < 16 := by omega
      obtain ⟨r, hr'⟩ : ∃ r, r = b % 2 ^ d := ⟨_, rfl⟩
      have hb16 : b < 65536 := Nat.lt_of_lt_of_le hbc (Nat.pow_le_pow_right (n := 2) (by omega) (show c ≤ 16 by omega))
      have em : Go.bits .and .i64 (b : Int) (wrap64 (wrap64 (2 ^ d) - 1)) = (r : Int) := by rw [hr']; exact and_mask' b d hb16 (by omega)
      have EM := Lib.hid em; have W := Lib.hid hr'
      clear em hr'
      have hqlt : q < 2 ^ tt := by rw [hq']; apply Nat.div_lt_of_lt_mul; rw [← Nat.pow_add]; have : d + tt = c := by omega
                                   rw [this]; exact hbc
      have r1 := hr.setCount d
      have q1 : Below B w0 (wr.setCell ⟨B + 6, 0, none⟩ (.int .i64 (d : Int))) := hq.setCell (by simp) _
      have hylen : ys.length ≤ 1000000 := by omega
      have o1 := (ownsRow_setCell_other (a := ⟨B + 6, 0, none⟩) hown (own_ne (b := B + 6) (t := 3) hown hr.bCount (by decide)) (.int .i64 (d : Int))).drew
      have P1 := Lib.hid (HP.out (wr.setCell ⟨B + 6, 0, none⟩ (.int .i64 (d : Int))).drew v ys q q1.drew ((Below.heap_setCell _ _ _ _ (by simp)).trans hv) o1 hylen hqlt)
      have O1 := Lib.hid o1
      have K1 := Lib.hid (KM.setCell hr.bCount 0 (.int .i64 (d : Int)))
      have V1 : Hid ((wr.setCell ⟨B + 6, 0, none⟩ (.int .i64 (d : Int))).drew.heap[B + 1]? = some (.cells #[v] 62 (0, 0))) := (Below.heap_setCell _ _ _ _ (by simp)).trans hv
      have R1 := Lib.hid r1; have HD := Lib.hid hdr; have Q1 := Lib.hid q1; have X := Lib.hid hq'; have Y := Lib.hid hd; have Z := Lib.hid hbc
      clear hr hq hdr hv hown hbc r1 q1 hq' hd hqlt o1
      go_wp2_with fail
      go_region_held3 (fun w' => w'.cell? ⟨B + 4, 0, none⟩ = some (.func (.func 217) #[] #[.pointer (some ⟨B + 1, 0, none⟩)]) ∧ w'.cell? ⟨B + 5, 0, none⟩ = some (.int .i64 (b : Int)) ∧ w'.cell? ⟨B + 6, 0, none⟩ = some (.int .i64 (d : Int)))
        (first | exact ⟨cell_of_one R1.out.drew.bPass, cell_of_one R1.out.drew.bBits, cell_of_one R1.out.drew.bCount⟩ | exact ⟨cell_of_one HR3.out.bPass, cell_of_one HR3.out.bBits, cell_of_one HR3.out.bCount⟩)
        (first | (go_at_call 217; refine (P1.out).mono ?_; rintro e w2 ⟨rfl, hn, hf⟩; have HR3 := Lib.hid (RG.passed R1.out.drew O1.out hn hf); clear hn))
      all_goals (have k5 := cell_of_one HR3.out.bBits; have k6 := cell_of_one HR3.out.bCount; have l5 := free_of_one HR3.out.bBits; have em := EM.out)
      all_goals go_wp2_with fail
      all_goals go_region
      all_goals go_wp2_with fail
      all_goals clear em
      all_goals go_roundg (gk - 1)
      case measure => omega
      case rel =>
        refine ⟨r, d, ys ++ [f q], (HR3.out.setBits r).drew, (((Q1.out.drew.trans hf.below).setCell (by simp) _).drew), ?_, ?_, by omega, hd16, by simp; omega, ?_⟩
        · exact (((HKM.out.trans K1.out).drew.trans (hf.km V1.out O1.out)).trans (KM.setCell HR3.out.bBits 0 _)).drew
        · rw [W.out]; exact Nat.mod_lt _ (Nat.pow_pos (by omega))
        · rw [← HD.out]
          obtain ⟨k', rfl⟩ : ∃ k', gk = k' + 1 := ⟨gk - 1, by omega⟩
          rw [drain_succ _ _ _ _ _ _ hlt, ← Y.out, ← W.out, ← X.out]
          rfl
theorem info5 : (Tryz.prog.info? 5).map (fun i => (i.zero, i.size, i.bytes)) = some (some (.int .u8 0), 1, 1) := by kernel_rfl
/-- encode$1: the letter of a group is appended to the text. -/
theorem enc1 (w : World) (Bt g base al : Nat) (v : Value) (xs : List Nat)
    (hT : w.heap[Bt]? = some (.cells #[v] 62 (0, 0))) (hown : w.ownsRow base 5 1 v xs.length (xs.map U)) (hbase : base ≤ w.heap.size) (hBt : base ≤ Bt)
    (hn : xs.length ≤ 1000000) (hg : g < 64) (ha : w.cell? ⟨3, g, none⟩ = some (U al)) :
    Calls Tryz.prog 217 #[.int .i64 g, .pointer (some ⟨Bt, 0, none⟩)] w fun e w' => e = .returned (.tuple #[]) ∧
      (∃ v', w'.heap[Bt]? = some (.cells #[v'] 62 (0, 0)) ∧ w'.ownsRow base 5 1 v' (xs.length + 1) ((xs ++ [al]).map U)) ∧ Frame1 base Bt v w w' := by
  obtain ⟨i0, hi0, hz0, hz1, hz2⟩ := info_parts info5
  have hc := cell_of_one hT
  have hf := free_of_one hT
  have lt := lt_of_block hT
  have g0 : (0 : Int) ≤ (g : Int) := Int.natCast_nonneg _
  have g1 : (g : Int) < 64 := by omega
  have hne : v.ownBlock ≠ some Bt := own_ne hown hT (by decide)
  have hTA : (w.drew.alloc (.cells #[U al] 5)).heap[Bt]? = some (.cells #[v] 62 (0, 0)) := alloc_block hT
  have HT := Lib.hid hT
  have HTA := Lib.hid hTA
  have HNE := Lib.hid hne
  clear hT hTA hne
  unfold U at ha HTA
  go_enter Tryz.func217, Tryz.ntmps217
  go_wp2_with fail
  go_region_law
    ((refine step_append_lies _ (by rfl) _ _ _ (by rfl) base 5 i0 _ 1 1 Tryz.underlying62 hi0 hz0 hz1 hz2 rfl (by omega) v xs.length (xs.map U) (by rfl) ((hown.drew).alloc _)
        ⟨w.heap.size, 0, none⟩ 1 1 [.int .u8 al] (by rfl) (by rfl) (World.news_of_block (cs := #[.int .u8 al]) (t := 5) (fr := (0, 0)) (heap_alloc_new w _)) (by simp [Value.oneCell'])
        (by omega) (by unfold maxLen; omega) (by omega) (by simp; omega) (w.heap.size + 1) (by simp) ?_; intro gg cap w1 hown1 hgrow hat hlt; have hc1 := own_kept_block hgrow HTA.out HNE.out; have hc2 := cell_of_one hc1; have hc3 := free_of_one hc1; have HC1 := Lib.hid hc1; clear hc1))
  all_goals go_end0
  all_goals (refine ⟨rfl, ?_⟩; rw [List.map_append]; exact app_close hown1 hgrow (((Below.refl _ _).alloc (Nat.le_refl _) _).drew) HC1.out (by decide) hBt hbase hown)
end Go.Proofs.YtohmdledkhgdaaaGreatDoor
