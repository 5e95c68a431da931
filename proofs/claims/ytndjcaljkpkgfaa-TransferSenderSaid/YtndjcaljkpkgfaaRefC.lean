/- ref.Commands: what a sender says, as a row of commands. -/
import Derived.Test.YtndjcaljkpkgfaaCmds
import Derived.Great.BuildSlice
import Derived.Maps.AppendAt
namespace Go.Proofs.Ytndjcaljkpkgfaa
open Go.RowKit Go.Maps
set_option linter.unusedVariables false

/-- The offset after some commands. -/
def gs (t : ByteArray) (c f : Nat) : Nat → Nat
  | 0 => f
  | i + 1 => min (gs t c f i + c) t.size
theorem gs_le {t : ByteArray} {c f : Nat} (h : f ≤ t.size) : ∀ i, gs t c f i ≤ t.size
  | 0 => h
  | i + 1 => Nat.min_le_right _ _
theorem gs_ge {t : ByteArray} {c f : Nat} (hc : 1 ≤ c) : ∀ i, (∀ j, j < i → gs t c f j < t.size) → f + i ≤ gs t c f i
  | 0, _ => Nat.le_refl _
  | i + 1, h => by
    have h1 := gs_ge hc i (fun j hj => h j (by omega))
    have h2 := h i (by omega)
    simp only [gs]
    omega
/-- The commands with bytes, and all of them. -/
def dcm (id : List Nat) (t : ByteArray) (c f i : Nat) : Cm := ⟨7, (gs t c f i : Int), id, t.extract (gs t c f i) (gs t c f (i + 1))⟩
def dL (id : List Nat) (t : ByteArray) (c f k : Nat) : List Cm := (List.range k).map (dcm id t c f)
def eC (id : List Nat) : Cm := ⟨8, 0, id, ⟨#[]⟩⟩
theorem dL_succ (id : List Nat) (t : ByteArray) (c f k : Nat) : dL id t c f (k + 1) = dL id t c f k ++ [dcm id t c f k] := by simp [dL, List.range_succ]
theorem dL_len (id : List Nat) (t : ByteArray) (c f k : Nat) : (dL id t c f k).length = k := by simp [dL]
def flat (L : List Cm) : List Value := L.flatMap (fun c => c.cells.toList)
theorem flat_snoc (L : List Cm) (c : Cm) : flat (L ++ [c]) = flat L ++ c.cells.toList := by simp [flat]
theorem flat_len : ∀ (L : List Cm), (∀ c ∈ L, c.m.length = 32) → (flat L).length = L.length * 35
  | [], _ => rfl
  | c :: L, h => by
    have h1 := flat_len L (fun x hx => h x (by simp [hx]))
    have h2 : c.cells.size = 35 := rcm_size (h c (by simp)) _ _ _
    simp only [flat, List.flatMap_cons, List.length_append, Array.length_toList, h2, List.length_cons] at h1 ⊢
    omega
theorem flat_at : ∀ (L : List Cm), (∀ c ∈ L, c.m.length = 32) → ∀ i (h : i < L.length) j u, L[i].cells[j]? = some u → (flat L)[i * 35 + j]? = some u
  | [], _, i, h, _, _, _ => absurd h (by simp)
  | c :: L, hl, 0, h, j, u, hu => by
    have hj := (Array.getElem?_eq_some_iff.1 hu).1
    simp only [List.getElem_cons_zero] at hu hj
    rw [flat, List.flatMap_cons, Nat.zero_mul, Nat.zero_add, List.getElem?_append_left (by simpa using hj)]
    simpa using hu
  | c :: L, hl, i + 1, h, j, u, hu => by
    have h2 : c.cells.size = 35 := rcm_size (hl c (by simp)) _ _ _
    have h1 := flat_at L (fun x hx => hl x (by simp [hx])) i (by simpa using h) j u (by simpa using hu)
    rw [flat, List.flatMap_cons, List.getElem?_append_right (by simp [h2]; omega)]
    rw [show (i + 1) * 35 + j - c.cells.toList.length = i * 35 + j by simp [h2]; omega]
    exact h1

/-- A row of commands that a function owns is a slice of commands. -/
theorem RdC.of_own {w : World} {base : Nat} {v : Value} {L : List Cm} (h : w.ownsRow base 31 35 v L.length (flat L)) (h0 : 0 < L.length) (hok : ∀ c ∈ L, CmOk c) :
    ∃ g cap, v = .slice (some ⟨g, 0, none⟩) L.length cap ∧ base ≤ g ∧ RdC w (some ⟨g, 0, none⟩) L := by
  have hown := h
  rcases h.2 with ⟨rfl, hn⟩ | ⟨g, cap, cur, rfl, hb, hg, _, _, _, ht⟩
  · omega
  · refine ⟨g, cap, rfl, hb, ⟨fun _ => ⟨g, 0, rfl, lt_of_block hg, fun i hi j u hu => ?_⟩, hok⟩⟩
    have h1 := flat_at L (fun c hc => (hok c hc).id.len) i hi j u hu
    have h2 := hown.cells (g := g) rfl (i * 35 + j) u h1
    have hadd : (⟨g, 0, none⟩ : Addr).add (i * 35 + j) = ⟨g, 0 + i * 35 + j, none⟩ := by
      unfold Addr.add; simp; omega
    rw [hadd] at h2
    exact h2

/-- One command laid in a new block. -/
theorem lay_one (w : World) {c : Cm} (h : c.m.length = 32) : (Instr.buildSlice 24 1 #[(0, .agg c.cells)]).run Try.prog w = .ok (.slice (some ⟨w.heap.size, 0, none⟩) 1 1) (w.alloc (.cells c.cells 31)) := by
  have hs : c.cells.size = 35 := rcm_size h _ _ _
  obtain ⟨ie, hie⟩ : ∃ ie, Try.prog.info? 31 = some ie := Option.isSome_iff_exists.1 (by kernel_rfl)
  have hsz : ie.size = 35 := by have := size31; rw [hie] at this; simpa using this
  obtain ⟨z, hz⟩ : ∃ z, ie.zero = some z := by
    have : ((Try.prog.info? 31).bind (·.zero)).isSome = true := by kernel_rfl
    rw [hie] at this
    exact Option.isSome_iff_exists.1 this
  refine run_buildSlice w _ _ 1 _ c.cells ie z Try.underlying24 hie hz (by rw [hsz]; decide) (by rw [hsz]; decide) ?_
  show Instr.fill _ _ [((0 : Nat), (.agg c.cells : Value))] = _
  rw [hsz]
  refine fill_to (off := 0) (size := 35) rfl hs (by simp) ?_ rfl
  simp [splice, Value.cells, hs]
  rw [List.drop_of_length_le (by simp)]
  simp
theorem exec_lay {P : Program} {o : Oper} {a : Act} {w w' : World} {t : TypeId} {i : Nat} {x : Operand} {vx v : Value} (ho : o.op = .buildSlice t 1 #[(i, x)]) (h1 : a.eval x = vx) (h2 : (Instr.buildSlice t 1 #[(i, vx)]).run P w = .ok v w') : (execOp a.eval o).run P w = .ok (.value v) w' := by
  unfold execOp
  simp only [ho, Sem.run_bind, Sem.run_pure, Result.andThen_ok, List.map_toArray, List.map_cons, List.map_nil, h1, h2]
theorem exec_append {P : Program} {o : Oper} {a : Act} {w w' : World} {t : TypeId} {s x : Operand} {vs vx v : Value} (ho : o.op = .call { callee := .builtin .append, args := #[s, x], argTypes := #[t, t] }) (hs : a.eval s = vs) (hx : a.eval x = vx) (h2 : (Builtin.append_ #[t, t] o.type #[vs, vx]).run P w = .ok v w') : (execOp a.eval o).run P w = .ok (.value v) w' := by
  unfold execOp
  simp only [ho, resolve, invoke, builtin, Sem.run_bind, Sem.run_pure, Result.andThen_ok, List.map_toArray, List.map_cons, List.map_nil, hs, hx, h2]
theorem any_stepW {P : Program} {md : Region.Mode} {ops : Array Oper} {Q : Exit → Act → World → Prop} {fuel i : Nat} {listed : Array Bool} {a : Act} {w w' : World} {o : Oper} {v : Value} (hr : Region.ready md ops listed = [i]) (ho : ops[i]? = some o) (hw : Region.wanted o (yielded ops a.tmps) = true) (h : (execOp a.eval o).run P w = .ok (.value v) w')
    (hk : wpAny P md ops Q fuel (listed.setIfInBounds i true) (a.put o.dst v) w') : wpAny P md ops Q (fuel + 1) listed a w := by
  refine wpAny_ready hr (by simp) (AllReady.cons ho (fun K hK => ?_) AllReady.nil)
  rw [if_pos hw]
  unfold Oper.wp
  rw [h]
  exact hK _ _ hk
/-- A command is appended to a row, out of a new block. -/
theorem append_cm {w : World} {base : Nat} {v : Value} {n : Nat} {L : List Cm} {c : Cm} (ty : TypeId) (hown : w.ownsRow base 31 35 v n (flat L)) (hc : c.m.length = 32) (hn : n ≤ 100000) (hbase : base ≤ w.heap.size) :
    ∃ v' w', (Builtin.append_ #[24, 24] ty #[v, .slice (some ⟨w.heap.size, 0, none⟩) 1 1]).run Try.prog (w.alloc (.cells c.cells 31)) = .ok v' w' ∧
      w'.ownsRow base 31 35 v' (n + 1) (flat (L ++ [c])) ∧ (∀ k, k < w.heap.size → v.ownBlock ≠ some k → w'.heap[k]? = w.heap[k]?) ∧ Below base w w' := by
  obtain ⟨ie, hie⟩ : ∃ ie, Try.prog.info? 31 = some ie := Option.isSome_iff_exists.1 (by kernel_rfl)
  have hsz : ie.size = 35 := by have := size31; rw [hie] at this; simpa using this
  have hby : ie.bytes ≤ 1000 := by
    have : ((Try.prog.info? 31).map (fun i => decide (i.bytes ≤ 1000))) = some true := by kernel_rfl
    rw [hie] at this
    simpa using this
  obtain ⟨z, hz⟩ : ∃ z, ie.zero = some z := by
    have : ((Try.prog.info? 31).bind (·.zero)).isSome = true := by kernel_rfl
    rw [hie] at this
    exact Option.isSome_iff_exists.1 this
  have hzs : z.cells.size = 35 := by
    have : ((Try.prog.info? 31).bind (·.zero)).map (·.cells.size) = some 35 := by kernel_rfl
    rw [hie] at this
    simpa [hz] using this
  have hs : c.cells.size = 35 := rcm_size hc _ _ _
  have hown' : (w.alloc (.cells c.cells 31)).ownsRow base 31 35 v n (flat L) := by
    refine ⟨hown.1, ?_⟩
    rcases hown.2 with h | ⟨g, cap, cur, h1, h2, h3, h4⟩
    · exact Or.inl h
    · exact Or.inr ⟨g, cap, cur, h1, h2, alloc_block h3, h4⟩
  obtain ⟨v', w', h1, h2, h3, h4, h5⟩ := run_append_own_at (P := Try.prog) (w.alloc (.cells c.cells 31)) base 24 ty 31 ie z 35 ie.bytes Try.underlying24 hie hz hsz rfl hzs (by omega) v n (flat L) hown'
    ⟨w.heap.size, 0, none⟩ 1 1 c.cells.toList (by simp [hs]) (fun j u hu => by
      have hadd : (⟨w.heap.size, 0, none⟩ : Addr).add j = ⟨w.heap.size, j, none⟩ := by unfold Addr.add; simp; omega
      rw [hadd]
      exact (cellB (heap_alloc_new w _) j).trans (by simpa using hu)) (fun u hu => by
      have := one_rcm c.vb c.f c.m c.t
      rw [Array.all_eq_true'] at this
      exact this u (show u ∈ c.cells by simpa using hu)) (by unfold maxLen; omega) (Nat.le_trans (Nat.mul_le_mul (show n + 1 ≤ 100001 by omega) hby) (by decide)) (by simp; omega)
  refine ⟨v', w', h1, by rw [flat_snoc]; exact h2, fun k hk hne => (h3.block k (by simp; omega) (fun h => hne h.symm)).trans (Below.heap_alloc w _ k hk), ?_⟩
  refine Below.grown ((Below.refl base w).alloc hbase _) h3 (by simp; omega) ?_
  intro k hk
  exact (hown.lt k hk).1
theorem wpList_lay {P : Program} {ops : Array Oper} {rest : List Oper} {o : Oper} {a : Act} {w : World} {Q : Exit → Act → World → Prop} (t : TypeId) (hgd : o.guard = none) {i : Nat} (x : Operand) (ho : o.op = .buildSlice t 1 #[(i, x)])
    (h : ∃ vx v w', a.eval x = vx ∧ (Instr.buildSlice t 1 #[(i, vx)]).run P w = .ok v w' ∧ wpList P ops Q rest (a.put o.dst v) w') : wpList P ops Q (o :: rest) a w := by
  obtain ⟨vx, v, w', h1, h2, h3⟩ := h
  refine wpList_run hgd ?_ h3
  unfold execOp
  simp only [ho, Sem.run_bind, Sem.run_pure, Result.andThen_ok, List.map_toArray, List.map_cons, List.map_nil, h1, h2]
theorem wpList_app {P : Program} {ops : Array Oper} {rest : List Oper} {o : Oper} {a : Act} {w : World} {Q : Exit → Act → World → Prop} (t : TypeId) (hgd : o.guard = none) (s x : Operand) (ho : o.op = .call { callee := .builtin .append, args := #[s, x], argTypes := #[t, t] })
    (h : ∃ vs vx v w', a.eval s = vs ∧ a.eval x = vx ∧ (Builtin.append_ #[t, t] o.type #[vs, vx]).run P w = .ok v w' ∧ wpList P ops Q rest (a.put o.dst v) w') : wpList P ops Q (o :: rest) a w := by
  obtain ⟨vs, vx, v, w', h1, h2, h3, h4⟩ := h
  exact wpList_run hgd (exec_append ho h1 h2 h3) h4

end Go.Proofs.Ytndjcaljkpkgfaa
