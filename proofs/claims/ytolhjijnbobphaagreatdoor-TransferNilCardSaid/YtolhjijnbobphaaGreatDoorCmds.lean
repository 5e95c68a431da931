/- Slices of commands of the reference that are read. -/
import Derived.Test.YtolhjijnbobphaaGreatDoorKnown
import Derived.Deep.LoopGhost
import Derived.Deep.DeepCutAuto
namespace Go.Proofs.YtolhjijnbobphaaGreatDoor
open Go.RowKit Go.Maps
set_option linter.unusedVariables false
set_option maxRecDepth 100000

/-- A command of the reference: verb, offset, identity, text. -/
structure Cm where
  vb : Int
  f : Int
  m : List Nat
  t : ByteArray
def Cm.cells (c : Cm) : Array Value := rcmC c.vb c.f c.m c.t
structure CmOk (c : Cm) : Prop where
  id : IdOk c.m
  vb : (Lit.int .i64 c.vb).wf = true
  f : (Lit.int .i64 c.f).wf = true
  t : c.t.size ≤ 140737488355328
theorem CmOk.fr {c : Cm} (h : CmOk c) : -9223372036854775808 ≤ c.f ∧ c.f ≤ 9223372036854775807 := by
  have := h.f
  simpa [Lit.wf, IntKind.min, IntKind.max, IntKind.signed, IntKind.bits] using this
theorem CmOk.vr {c : Cm} (h : CmOk c) : -9223372036854775808 ≤ c.vb ∧ c.vb ≤ 9223372036854775807 := by
  have := h.vb
  simpa [Lit.wf, IntKind.min, IntKind.max, IntKind.signed, IntKind.bits] using this

/-- A slice of commands. -/
structure RdC (w : World) (a : Option Addr) (L : List Cm) : Prop where
  at_ : 0 < L.length → ∃ b off, a = some ⟨b, off, none⟩ ∧ b < w.heap.size ∧ ∀ i (h : i < L.length) j u, L[i].cells[j]? = some u → w.cell? ⟨b, off + i * 35 + j, none⟩ = some u
  each : ∀ c ∈ L, CmOk c
theorem RdC.below {w w' : World} {a : Option Addr} {L : List Cm} (h : RdC w a L) (hb : Below w.heap.size w w') : RdC w' a L := by
  refine ⟨fun h0 => ?_, h.each⟩
  obtain ⟨b, off, rfl, hbw, hc⟩ := h.at_ h0
  exact ⟨b, off, rfl, Nat.lt_of_lt_of_le hbw hb.size, fun i hi j u hu => (hb.cell (by exact hbw)).trans (hc i hi j u hu)⟩

/-- Cells in a row out of memory. -/
theorem run_loadVar_cells {P : Program} (w : World) (g off : Nat) (ty : TypeId) (ids : Array Value) (d : TypeDesc)
    (hu : P.underlying ty = some d) (hd : (match d with | .struct _ | .array _ _ => true | _ => false) = true) (hi : (P.info? ty).map (·.size) = some ids.size)
    (hp : ∀ j u, ids[j]? = some u → w.cell? ⟨g, off + j, none⟩ = some u) : (loadVar ty ⟨g, off, none⟩).run P w = .ok (.agg ids) w := by
  have hl : (loadCells ⟨g, off, none⟩ ids.toList.length).run P w = .ok ids.toList.toArray w :=
    run_loadCells_list (P := P) w ⟨g, off, none⟩ ids.toList (fun j u hv => by
      have hadd : (⟨g, off, none⟩ : Addr).add j = ⟨g, off + j, none⟩ := by unfold Addr.add; split <;> simp_all
      rw [hadd]
      exact hp j u (by simpa using hv))
  cases hq : P.info? ty with
  | none => simp [hq] at hi
  | some i =>
    have hs : i.size = ids.size := by simpa [hq] using hi
    have hagg : (isAgg ty).run P w = .ok true w := by
      unfold isAgg
      rw [Sem.run_bind, run_underlying hu w]
      cases d <;> simp_all
    simp only [Array.length_toList, Array.toArray_toList] at hl
    simp [loadVar, Sem.run_bind, hagg, sizeOf, typeInfo, hq, hs, hl]
theorem load_rcm (w : World) (g off : Nat) {vb f : Int} {m : List Nat} {t : ByteArray} (h : m.length = 32) (hp : ∀ j u, (rcmC vb f m t)[j]? = some u → w.cell? ⟨g, off + j, none⟩ = some u) :
    (loadVar 25 ⟨g, off, none⟩).run Tryz.prog w = .ok (.agg (rcmC vb f m t)) w :=
  run_loadVar_cells w g off 25 _ _ Tryz.underlying25 rfl (by rw [rcm_size h]; exact size31) hp
theorem size31' {v f : Int} {l : List Nat} {t : ByteArray} (h : l.length = 32) : (Tryz.prog.info? 25).map (·.size) = some (rcmC v f l t).size := by rw [rcm_size h]; exact size31
theorem one_rcm (v f : Int) (l : List Nat) (t : ByteArray) : (rcmC v f l t).all (·.oneCell') = true := by
  rw [Array.all_eq_true']
  intro x hx
  simp [rcmC] at hx
  rcases hx with rfl | ⟨y, _, rfl⟩ | rfl | rfl <;> rfl
theorem rcm_set33 {l : List Nat} (h : l.length = 32) (v f f' : Int) (t : ByteArray) : (rcmC v f l t).setIfInBounds 33 (.int .i64 f') = rcmC v f' l t := by
  unfold rcmC
  apply Array.toList_inj.1
  simp only [Array.toList_setIfInBounds]
  rw [List.set_append_right _ _ (by simp [h])]
  simp [h]
theorem rcm_set34 {l : List Nat} (h : l.length = 32) (v f : Int) (t t' : ByteArray) : (rcmC v f l t).setIfInBounds 34 (.string t') = rcmC v f l t' := by
  unfold rcmC
  apply Array.toList_inj.1
  simp only [Array.toList_setIfInBounds]
  rw [List.set_append_right _ _ (by simp [h])]
  simp [h]
theorem Rc.own_ge {w : World} {B b n : Nat} {l xs : List Nat} {d : Bool} {v : Value} (h : Rc w B b l n xs d v) : ∀ k, v.ownBlock = some k → B ≤ k := by
  obtain ⟨ad, h⟩ := h
  intro k hk
  rcases h.row.2 with ⟨rfl, _⟩ | ⟨g, cap, cur, fz, rfl, hg, _⟩
  · simp [Value.ownBlock] at hk
  · simp [Value.ownBlock] at hk; omega
/-- The frame of a receiver's method, from the law's own world on. -/
theorem FrB.law {w0 w w' : World} {b n : Nat} {l xs : List Nat} {d : Bool} {v : Value} (h : FrB b v w w') (hr : Rc w w0.heap.size b l n xs d v) (hb : Below w0.heap.size w0 w) (hlt : w0.heap.size ≤ b) : Below w0.heap.size w0 w' :=
  hb.trans (h.below hb.size hlt hr.own_ge)
theorem bs_extract (t : ByteArray) (a b : Nat) : bs (t.extract a b) = ((bs t).take b).drop a := by
  unfold bs
  rw [← List.map_take, ← List.map_drop]
  congr 1
  simp [ByteArray.data_extract, Array.toList_extract, List.extract_eq_take_drop, List.drop_take]

end Go.Proofs.YtolhjijnbobphaaGreatDoor
