/- strings.Builder at any place of a block: what its methods do. The buffer's head may be frozen (behind String). -/
import Derived.Test.YtolhjijnbobphaaGreatDoorProg
import Derived.Test.YtolhjijnbobphaaGreatDoorKit
import Derived.Test.YtolhjijnbobphaaGreatDoorPure
import Derived.Lib.FrozenHead
import Derived.BigQuiet
import Derived.Deep.QuietTactic
import Derived.Deep.RegionLaw
import Derived.Deep.RegionHeld3
import Derived.KernelRfl
namespace Go.Proofs.YtolhjijnbobphaaGreatDoor
open Go.RowKit
set_option linter.unusedVariables false
set_option maxRecDepth 100000

theorem strCells_bs (s : ByteArray) : Lib.strCells s = (bs s).map U := by
  unfold Lib.strCells bs
  rw [List.map_map]
  rfl

theorem infoB5 : (Tryz.prog.info? 5).map (fun i => (i.zero, i.size, i.bytes)) = some (some (.int .u8 0), 1, 1) := by kernel_rfl

/-- What a row with a frozen head and a block of another type are to each other. -/
theorem ownF_ne {w : World} {base e size : Nat} {v : Value} {n : Nat} {xs : List Value} {b t : Nat} {cs : Array Value} {fz : Nat × Nat}
    (hown : w.ownsRowF base e size v n xs) (hT : w.heap[b]? = some (.cells cs t fz)) (hne : t ≠ e) : v.ownBlock ≠ some b := by
  intro h
  rcases hown.2 with ⟨rfl, _⟩ | ⟨g, cap, cur, fz', rfl, _, hg, _⟩
  · simp [Value.ownBlock] at h
  · simp [Value.ownBlock] at h
    subst h
    rw [hg] at hT
    simp at hT
    exact hne hT.2.1.symm
theorem ownF_shape {w : World} {base e size n : Nat} {v : Value} {xs : List Value} (h : w.ownsRowF base e size v n xs) : ∃ a cap, v = .slice a n cap := by
  rcases h.2 with ⟨rfl, rfl⟩ | ⟨g, cap, cur, fz, rfl, _⟩
  · exact ⟨none, 0, rfl⟩
  · exact ⟨some ⟨g, 0, none⟩, cap, rfl⟩

/-- Where the row lies behind an append: where it lay, or in a new block. -/
def Lies (w : World) (v v' : Value) : Prop := v'.ownBlock = v.ownBlock ∨ v'.ownBlock = some w.heap.size

theorem append_str {P : Program} (w : World) (base : Nat) (t u ty e : TypeId) (i : TypeInfo) (ht : P.underlying t = some (.slice e)) (hu : P.underlying u = some .string) (hi : P.info? e = some i) (hz : i.zero = some (.int .u8 0))
    (hsize : i.size = 1) (hby : i.bytes = 1) (v : Value) (n : Nat) (xs : List Value) (hown : w.ownsRowF base e 1 v n xs) (s : ByteArray) (hbytes : n + s.size ≤ 140737488355328) (hbase : base ≤ w.heap.size) :
    ∃ v' w', (Builtin.append_ #[t, u] ty #[v, .string s]).run P w = .ok v' w' ∧ w'.ownsRowF base e 1 v' (n + s.size) (xs ++ Lib.strCells s) ∧ w.grownBy w' v.ownBlock ∧ Lies w v v' := by
  obtain ⟨v', w', hr, h2, h3, h4⟩ := Lib.run_append_own_stringF (P := P) w base t u ty e i ht hu hi hz hsize hby v n xs hown s (by unfold maxLen; omega) hbytes hbase
  refine ⟨v', w', hr, h2, h3, ?_⟩
  rcases hown.2 with ⟨rfl, rfl⟩ | ⟨g, cap, cur, fz, rfl, hbg, hg, hfz, hnc, hcm, hcs, htake⟩
  · by_cases hm : s.size = 0
    · left
      rw [(h4.2 ⟨rfl, hm⟩)]
    · right
      have hr2 := run_append_nil_string (P := P) w t u ty e i (.int .u8 0) ht hu hi hz s (by omega) (by omega) (by rw [hby]; omega)
      rw [hr] at hr2
      cases hr2
      rfl
  · by_cases hroom : n + s.size ≤ cap
    · left
      have hr2 := Lib.run_append_room_stringF (P := P) w t u ty e i ht hu hi hsize g n cap cur fz hg (by simpa using hfz) s hroom (by omega)
      rw [hr] at hr2
      cases hr2
      rfl
    · right
      have hr2 := Lib.run_append_grow_string (P := P) w t u ty e i (.int .u8 0) ht hu hi hz ⟨g, 0, none⟩ n cap xs (by rw [hsize]; exact hown.1) (hown.cells (g := g) rfl) s (by omega) (by omega) (by rw [hby]; exact growslice_fits (by omega) (by omega))
      rw [hr] at hr2
      cases hr2
      rfl

/-- Appending other cells behind a frozen head. -/
theorem append_cells {P : Program} (w : World) (base : Nat) (t ty e : TypeId) (i : TypeInfo) (ht : P.underlying t = some (.slice e)) (hi : P.info? e = some i) (hz : i.zero = some (.int .u8 0))
    (hsize : i.size = 1) (hby : i.bytes = 1) (v : Value) (n : Nat) (xs : List Value) (hown : w.ownsRowF base e 1 v n xs) (ad : Addr) (m c : Nat) (news : List Value) (hl : news.length = m) (hm : 0 < m)
    (hnews : ∀ j u, news[j]? = some u → w.cell? (ad.add j) = some u) (h1 : ∀ u ∈ news, u.oneCell' = true) (hbytes : n + m ≤ 140737488355328) (hbase : base ≤ w.heap.size) :
    ∃ v' w', (Builtin.append_ #[t, t] ty #[v, .slice (some ad) m c]).run P w = .ok v' w' ∧ w'.ownsRowF base e 1 v' (n + m) (xs ++ news) ∧ w.grownBy w' v.ownBlock ∧ Lies w v v' := by
  rcases hown.2 with ⟨rfl, rfl⟩ | ⟨g, cap, cur, fz, rfl, hbg, hg, hfz, hnc, hcm, hcs, htake⟩
  · obtain ⟨v', w', hr, h2, h3, _⟩ := run_append_own (P := P) w base t ty e i (.int .u8 0) 1 1 ht hi hz hsize hby rfl (by decide) (.slice none 0 0) 0 xs ⟨hown.1, .inl ⟨rfl, rfl⟩⟩ ad m c news (by rw [hl]; omega) hnews h1 (by unfold maxLen; omega) (by omega) hbase
    refine ⟨v', w', hr, World.ownsRowF_of h2, h3, .inr ?_⟩
    have hr2 := run_append_nil (P := P) w t ty e i (.int .u8 0) ht hi hz ad m c news (by rw [hl, hsize]; omega) hnews hm (by omega) (by rw [hby]; omega)
    rw [hr] at hr2
    cases hr2
    rfl
  · have hxl : xs.length = n := by simpa using hown.1
    have hlen : (xs ++ news).length = (n + m) * 1 := by rw [List.length_append, hxl, hl, Nat.mul_one]
    by_cases hroom : n + m ≤ cap
    · have hcs' : cur.size = cap := by simpa using hcs
      have hf := run_firstCells_some (P := P) w i.size m ad m c news (by rw [hl, hsize]; omega) hnews
      have hst := run_storeCells_atF P g n e fz news 0 cur w hg (by simpa using hfz) (by rw [hl]; omega) h1
      simp only [Nat.add_zero] at hst
      have hr : (Builtin.append_ #[t, t] ty #[.slice (some ⟨g, 0, none⟩) n cap, .slice (some ad) m c]).run P w = .ok (.slice (some ⟨g, 0, none⟩) (n + m) cap) (w.setRow g (cur.toList.take n ++ news ++ cur.toList.drop (n + news.length)).toArray) := by
        rw [hsize] at hf
        simp [Builtin.append_, run_underlying ht, sizeOf, typeInfo, hi, hsize, Builtin.lenOf, hroom, hf, Addr.add_lit, hst]
      refine ⟨_, _, hr, ⟨hlen, .inr ⟨g, cap, _, fz, rfl, hbg, setRow_heap w g cur _ e _ hg, by omega, hroom, hcm, ?_, ?_⟩⟩, ⟨rfl, rfl, rfl, by simp, fun k _ hk => setRow_other w g k _ (fun e => hk (by simp [Value.ownBlock, e]))⟩, .inl rfl⟩
      · simp only [List.size_toArray, List.length_append, List.length_take, List.length_drop, Array.length_toList, hl]
        omega
      · have ht' : cur.toList.take n = xs := by simpa using htake
        rw [ht', ← hlen]
        exact List.take_left
    · have hr := run_append_grow (P := P) w t ty e i (.int .u8 0) ht hi hz ⟨g, 0, none⟩ n cap xs (by rw [hsize]; exact hown.1) (hown.cells (g := g) rfl) ad m c news (by rw [hl, hsize]; omega) hnews (by omega) (by omega) (by rw [hby]; exact growslice_fits (by omega) (by omega))
      have hge := grownCap_ge w (n + m) cap e
      have hcm' : grownCap w (n + m) cap e ≤ maxLen := grownCap_le_maxLen w (n + m) cap e (by unfold maxLen; omega)
      refine ⟨_, _, hr, ⟨hlen, .inr ⟨w.heap.size, _, _, (0, 0), rfl, hbase, heap_alloc_new w.drew _, Nat.zero_le _, hge, hcm', ?_, ?_⟩⟩, ⟨rfl, rfl, rfl, by simp, fun k hk _ => Below.heap_alloc w.drew _ k hk⟩, .inr rfl⟩
      · have hz1 : (Value.int IntKind.u8 0).cells.size = 1 := rfl
        simp only [Array.size_append, List.size_toArray, size_zeroCells, hz1, hxl, hl]
        omega
      · simp only [Array.toList_append, List.append_assoc]
        rw [← List.append_assoc, ← hlen]
        exact List.take_left

/-- A builder in block b from cell o on: block b whole, its buffer, its bytes. -/
structure Bd (w : World) (B b o : Nat) (T : TypeId) (cs : Array Value) (v : Value) (xs : List Nat) : Prop where
  heap : w.heap[b]? = some (.cells cs T (0, 0))
  addr : cs[o]? = some (.pointer none) ∨ cs[o]? = some (.pointer (some ⟨b, o, none⟩))
  buf : cs[o + 1]? = some v
  row : w.ownsRowF B 5 1 v xs.length (xs.map U)

theorem cellB {w : World} {b : Nat} {cs : Array Value} {T : TypeId} {fr : Nat × Nat} (hb : w.heap[b]? = some (.cells cs T fr)) (j : Nat) : w.cell? ⟨b, j, none⟩ = cs[j]? := by simp [World.cell?, hb]
theorem freeB {w : World} {b : Nat} {cs : Array Value} {T : TypeId} (hb : w.heap[b]? = some (.cells cs T (0, 0))) (j : Nat) : w.frozen? ⟨b, j, none⟩ = false := by simp [World.frozen?, hb]
theorem shapeB {w : World} {b : Nat} {cs : Array Value} {T : TypeId} {fr : Nat × Nat} (hb : w.heap[b]? = some (.cells cs T fr)) : w.shape? b = some (T, cs.size) := by simp [World.shape?, hb]
theorem setB {w : World} {b : Nat} {cs : Array Value} {T : TypeId} {fr : Nat × Nat} (hb : w.heap[b]? = some (.cells cs T fr)) (j : Nat) (u : Value) : (w.setCell ⟨b, j, none⟩ u).heap[b]? = some (.cells (cs.setIfInBounds j u) T fr) := by
  simp [World.setCell, Array.getElem?_modify, hb]
theorem otherB (w : World) (b j k : Nat) (u : Value) (h : k ≠ b) : (w.setCell ⟨b, j, none⟩ u).heap[k]? = w.heap[k]? := Below.heap_setCell _ _ _ _ h
theorem ownF_set {w : World} {base e size n : Nat} {v : Value} {xs : List Value} (h : w.ownsRowF base e size v n xs) {b : Nat} (hne : v.ownBlock ≠ some b) (j : Nat) (u : Value) : (w.setCell ⟨b, j, none⟩ u).ownsRowF base e size v n xs := by
  refine ⟨h.1, ?_⟩
  rcases h.2 with h | ⟨g, cap, cur, fz, rfl, hg, hh, r⟩
  · exact .inl h
  · exact .inr ⟨g, cap, cur, fz, rfl, hg, (otherB w b j g u (fun e => hne (by simp [Value.ownBlock, e]))).trans hh, r⟩

theorem infoBuilder : ∃ j, Tryz.prog.info? 52 = some j ∧ j.size ≠ 0 := by
  have h : (Tryz.prog.info? 52).map (·.size) = some 2 := by kernel_rfl
  obtain ⟨j, hj, hs⟩ := Option.map_eq_some_iff.1 h
  exact ⟨j, hj, by rw [hs]; decide⟩

theorem noEscape (w : World) (x : Value) : (callFunc 91 #[x]).run Tryz.prog w = .ok (.value x) w := by
  rw [run_callFunc_extern Tryz.func91 (by kernel_rfl) (by kernel_rfl) (by kernel_rfl) (e := Extern.AbiNoEscape.same) (by kernel_rfl), Lib.run_noEscape]
  rfl
/-- copyCheck of a builder that has not been written yet. -/
theorem copy_new (w : World) (b o : Nat) (T : TypeId) (cs : Array Value) (hb : w.heap[b]? = some (.cells cs T (0, 0))) (ha : cs[o]? = some (.pointer none))
    (hl : liesAt Tryz.prog Tryz.prog.depth T (cs.size / Tryz.prog.cellsOf T) o 52 1 = true) :
    Calls Tryz.prog 43 #[.pointer (some ⟨b, o, none⟩)] w fun e w' => e = .returned (.tuple #[]) ∧ w' = w.setCell ⟨b, o, none⟩ (.pointer (some ⟨b, o, none⟩)) := by
  have hc := cellB hb o
  rw [ha] at hc
  have hf := freeB hb o
  have ho : o < cs.size := (Array.getElem?_eq_some_iff.1 ha).1
  obtain ⟨j, hj, hjs⟩ := infoBuilder
  have r1 := fun w (h : w.shape? b = some (T, cs.size)) => Lib.run_to_unsafe (P := Tryz.prog) w (src := 49) (dst := 141) ⟨b, o, none⟩ Tryz.underlying49 Tryz.underlying141 hj hjs h ho
  have r2 := fun w (h : w.shape? b = some (T, cs.size)) => Lib.run_from_unsafe (P := Tryz.prog) w (src := 141) (dst := 49) ⟨b, o, none⟩ Tryz.underlying141 Tryz.underlying49 hj h hl
  have q1 := r1 w (shapeB hb)
  have q2 := r2 w (shapeB hb)
  have e1 := noEscape
  clear r1 r2 hb ha hl hjs
  go_enter Tryz.func43, Tryz.ntmps43
  go_wp2
  go_end0
  exact ⟨rfl, rfl⟩

/-- copyCheck of a builder that has been written. -/
theorem copy_old (w : World) (b o : Nat) (T : TypeId) (cs : Array Value) (hb : w.heap[b]? = some (.cells cs T (0, 0))) (ha : cs[o]? = some (.pointer (some ⟨b, o, none⟩))) :
    Calls Tryz.prog 43 #[.pointer (some ⟨b, o, none⟩)] w fun e w' => e = .returned (.tuple #[]) ∧ w = w' := by
  have hc := cellB hb o
  rw [ha] at hc
  obtain ⟨j, hj, hjs⟩ := infoBuilder
  have r1 := fun w => Lib.run_neq_ptr_same (P := Tryz.prog) w (tp := 49) ⟨b, o, none⟩ Tryz.underlying49 hj
  clear hb ha hjs
  go_enter Tryz.func43, Tryz.ntmps43
  go_wp2
  go_end0
  exact ⟨rfl, rfl⟩

theorem wpList_append_strF {P : Program} {w : World} {ops : Array Oper} {rest : List Oper} {o : Oper} {a : Act} {Q : Exit → Act → World → Prop} (hgd : o.guard = none) (sl x : Operand) (t u : TypeId)
    (ho : o.op = .call { callee := .builtin .append, args := #[sl, x], argTypes := #[t, u] })
    (base : Nat) (e : TypeId) (i : TypeInfo) (ht : P.underlying t = some (.slice e)) (hu : P.underlying u = some .string) (hi : P.info? e = some i) (hz : i.zero = some (.int .u8 0))
    (hsize : i.size = 1) (hby : i.bytes = 1)
    (v : Value) (n : Nat) (xs : List Value) (hs : a.eval sl = v) (hown : w.ownsRowF base e 1 v n xs) (s : ByteArray) (hx : a.eval x = .string s) (hbytes : n + s.size ≤ 140737488355328) (hbase : base ≤ w.heap.size)
    (h : ∀ v' w', w'.ownsRowF base e 1 v' (n + s.size) (xs ++ Lib.strCells s) → w.grownBy w' v.ownBlock → Lies w v v' → wpList P ops Q rest (a.put o.dst v') w') : wpList P ops Q (o :: rest) a w := by
  refine wpList_plain hgd fun K hK => ?_
  obtain ⟨v', w', hr, h2, h3, h4⟩ := append_str (P := P) w base t u o.type e i ht hu hi hz hsize hby v n xs hown s hbytes hbase
  unfold Oper.wp execOp
  simp only [ho, resolve, invoke, builtin, Sem.run_bind, Sem.run_pure, Result.andThen_ok, List.map_toArray, List.map_cons, List.map_nil, hs, hx, hr]
  exact hK _ _ (h v' w' h2 h3 h4)
theorem wpList_append_cellsF {P : Program} {w : World} {ops : Array Oper} {rest : List Oper} {o : Oper} {a : Act} {Q : Exit → Act → World → Prop} (hgd : o.guard = none) (sl x : Operand) (t : TypeId)
    (ho : o.op = .call { callee := .builtin .append, args := #[sl, x], argTypes := #[t, t] })
    (base : Nat) (e : TypeId) (i : TypeInfo) (ht : P.underlying t = some (.slice e)) (hi : P.info? e = some i) (hz : i.zero = some (.int .u8 0))
    (hsize : i.size = 1) (hby : i.bytes = 1)
    (v : Value) (n : Nat) (xs : List Value) (hs : a.eval sl = v) (hown : w.ownsRowF base e 1 v n xs) (ad : Addr) (m c : Nat) (news : List Value) (hx : a.eval x = .slice (some ad) m c) (hl : news.length = m) (hm : 0 < m)
    (hnews : ∀ j u, news[j]? = some u → w.cell? (ad.add j) = some u) (h1 : ∀ u ∈ news, u.oneCell' = true) (hbytes : n + m ≤ 140737488355328) (hbase : base ≤ w.heap.size)
    (h : ∀ v' w', w'.ownsRowF base e 1 v' (n + m) (xs ++ news) → w.grownBy w' v.ownBlock → Lies w v v' → wpList P ops Q rest (a.put o.dst v') w') : wpList P ops Q (o :: rest) a w := by
  refine wpList_plain hgd fun K hK => ?_
  obtain ⟨v', w', hr, h2, h3, h4⟩ := append_cells (P := P) w base t o.type e i ht hi hz hsize hby v n xs hown ad m c news hl hm hnews h1 hbytes hbase
  unfold Oper.wp execOp
  simp only [ho, resolve, invoke, builtin, Sem.run_bind, Sem.run_pure, Result.andThen_ok, List.map_toArray, List.map_cons, List.map_nil, hs, hx, hr]
  exact hK _ _ (h v' w' h2 h3 h4)

/-- What a writing method leaves of other blocks. -/
structure FrB (b : Nat) (v : Value) (w w' : World) : Prop where
  os : w'.os = w.os
  tape : w'.tape = w.tape
  output : w'.output = w.output
  size : w.heap.size ≤ w'.heap.size
  other : ∀ k, k < w.heap.size → k ≠ b → v.ownBlock ≠ some k → w'.heap[k]? = w.heap[k]?
theorem FrB.below {b B : Nat} {v : Value} {w w' : World} (h : FrB b v w w') (hB : B ≤ w.heap.size) (hb : B ≤ b) (hv : ∀ k, v.ownBlock = some k → B ≤ k) : Below B w w' :=
  ⟨h.os, h.tape, h.output, h.size, fun k hk => h.other k (by omega) (by omega) (fun e => by have := hv k e; omega)⟩

/-- A builder behind a write. -/
def BdPost (w : World) (B b o : Nat) (T : TypeId) (cs : Array Value) (v : Value) (xs : List Nat) (w' : World) : Prop :=
  ∃ cs' v', Bd w' B b o T cs' v' xs ∧ cs'.size = cs.size ∧ (∀ j, j ≠ o → j ≠ o + 1 → cs'[j]? = cs[j]?) ∧ (v'.ownBlock = v.ownBlock ∨ ∃ g, v'.ownBlock = some g ∧ w.heap.size ≤ g) ∧ FrB b v w w'

/-- The close of a writing method: block b's cell o holds the builder's own address, cell o + 1 the new slice. -/
theorem bd_close {w w0 w1 : World} {B b o T : Nat} {cs : Array Value} {v v' : Value} {ys : List Nat} {n : Nat} (hT : T ≠ 5) (hB : B ≤ w.heap.size) (hb : w.heap[b]? = some (.cells cs T (0, 0))) (ho : o + 1 < cs.size)
    (hb0 : w0.heap[b]? = some (.cells (cs.setIfInBounds o (.pointer (some ⟨b, o, none⟩))) T (0, 0))) (hne : v.ownBlock ≠ some b)
    (hw0 : w0.os = w.os ∧ w0.tape = w.tape ∧ w0.output = w.output ∧ w.heap.size ≤ w0.heap.size ∧ ∀ k, k < w.heap.size → k ≠ b → w0.heap[k]? = w.heap[k]?)
    (hown : w1.ownsRowF B 5 1 v' n (ys.map U)) (hn : n = ys.length) (hg : w0.grownBy w1 v.ownBlock) (hl : Lies w0 v v') :
    BdPost w B b o T cs v ys (w1.setCell ⟨b, o + 1, none⟩ v') := by
  subst hn
  have hlt0 : b < w0.heap.size := lt_of_block hb0
  have hb1 : w1.heap[b]? = some (.cells (cs.setIfInBounds o (.pointer (some ⟨b, o, none⟩))) T (0, 0)) := (hg.block b hlt0 (fun e => hne e.symm)).trans hb0
  have hne' : v'.ownBlock ≠ some b := ownF_ne hown hb1 hT
  refine ⟨_, v', ⟨setB hb1 _ _, .inr ?_, ?_, ownF_set hown hne' _ _⟩, by simp, ?_, ?_, ?_⟩
  · rw [Array.getElem?_setIfInBounds_ne (by omega), Array.getElem?_setIfInBounds_self, if_pos (by omega)]
  · rw [Array.getElem?_setIfInBounds_self, if_pos (by simpa using ho)]
  · intro j h1 h2
    rw [Array.getElem?_setIfInBounds_ne (by omega), Array.getElem?_setIfInBounds_ne (by omega)]
  · rcases hl with h | h
    · exact .inl h
    · exact .inr ⟨_, h, hw0.2.2.2.1⟩
  · refine ⟨hg.os.trans hw0.1, hg.tape.trans hw0.2.1, hg.output.trans hw0.2.2.1, ?_, ?_⟩
    · have := hg.size
      have := hw0.2.2.2.1
      simp [World.setCell]
      omega
    · intro k hk h1 h2
      rw [otherB _ _ _ _ _ h1, hg.block k (Nat.lt_of_lt_of_le hk hw0.2.2.2.1) (fun e => h2 e.symm), hw0.2.2.2.2 k hk h1]

/-- What copyCheck leaves. -/
structure Copied (w w0 : World) (b o : Nat) (T : TypeId) (cs : Array Value) : Prop where
  heap : w0.heap[b]? = some (.cells (cs.setIfInBounds o (.pointer (some ⟨b, o, none⟩))) T (0, 0))
  same : w0.os = w.os ∧ w0.tape = w.tape ∧ w0.output = w.output ∧ w.heap.size ≤ w0.heap.size ∧ ∀ k, k < w.heap.size → k ≠ b → w0.heap[k]? = w.heap[k]?
theorem set_self {cs : Array Value} {o : Nat} {x : Value} (h : cs[o]? = some x) : cs.setIfInBounds o x = cs := by
  obtain ⟨ho, hx⟩ := Array.getElem?_eq_some_iff.1 h
  apply Array.ext
  · simp
  · intro i h1 h2
    rw [Array.getElem_setIfInBounds (by simpa using h1)]
    split
    · rename_i e; subst e; exact hx.symm
    · rfl
theorem copy_any (w : World) (B b o : Nat) (T : TypeId) (cs : Array Value) (v : Value) (xs : List Nat) (h : Bd w B b o T cs v xs) (hT : T ≠ 5)
    (hl : liesAt Tryz.prog Tryz.prog.depth T (cs.size / Tryz.prog.cellsOf T) o 52 1 = true) :
    ∃ w0, Copied w w0 b o T cs ∧ w0.ownsRowF B 5 1 v xs.length (xs.map U) ∧ Calls Tryz.prog 43 #[.pointer (some ⟨b, o, none⟩)] w fun e w' => e = .returned (.tuple #[]) ∧ w0 = w' := by
  obtain ⟨hb, ha, hbuf, hrow⟩ := h
  have hne := ownF_ne hrow hb hT
  rcases ha with ha | ha
  · exact ⟨_, ⟨setB hb o _, rfl, rfl, rfl, by simp [World.setCell], fun k _ hk => otherB _ _ _ _ _ hk⟩, ownF_set hrow hne o _, (copy_new w b o T cs hb ha hl).mono fun e w' ⟨h1, h2⟩ => ⟨h1, h2.symm⟩⟩
  · exact ⟨w, ⟨by rw [set_self ha]; exact hb, rfl, rfl, rfl, Nat.le_refl _, fun k _ _ => rfl⟩, hrow, copy_old w b o T cs hb ha⟩

set_option maxHeartbeats 400000 in
theorem writeString_any (w : World) (B b o : Nat) (T : TypeId) (cs : Array Value) (v : Value) (xs : List Nat) (s : ByteArray) (h : Bd w B b o T cs v xs) (hT : T ≠ 5) (hBw : B ≤ w.heap.size)
    (hl : liesAt Tryz.prog Tryz.prog.depth T (cs.size / Tryz.prog.cellsOf T) o 52 1 = true) (hlen : xs.length + s.size ≤ 140737488355328) :
    Calls Tryz.prog 28 #[.pointer (some ⟨b, o, none⟩), .string s] w fun e w' => e = .returned (.tuple #[.int .i64 (s.size : Int), .nilIface]) ∧ BdPost w B b o T cs v (xs ++ bs s) w' := by
  obtain ⟨i0, hi0, hz0, hz1, hz2⟩ := info_parts infoB5
  obtain ⟨w0, hcp, hrow0, hcall⟩ := copy_any w B b o T cs v xs h hT hl
  obtain ⟨hb, ha, hbuf, hrow⟩ := h
  have ho : o + 1 < cs.size := (Array.getElem?_eq_some_iff.1 hbuf).1
  have hne := ownF_ne hrow hb hT
  have fin := fun (v' : Value) (w1 : World) hown1 hg hli => bd_close (w := w) (w0 := w0) (w1 := w1) (v' := v') (ys := xs ++ bs s) (n := xs.length + s.size) hT hBw hb ho hcp.heap hne hcp.same hown1 (by rw [List.length_append, bs_length]) hg hli
  have hsm : s.size ≤ 9223372036854775807 := by omega
  have C1 := Lib.hid hcall
  have hbs0 : B ≤ w0.heap.size := Nat.le_trans hBw hcp.same.2.2.2.1
  have hc1 : w0.cell? ⟨b, o + 1, none⟩ = some v := by rw [cellB hcp.heap, Array.getElem?_setIfInBounds_ne (by omega)]; exact hbuf
  have FIN := Lib.hid fin; have HB0 := Lib.hid hcp.heap; have HBF := Lib.hid hbuf
  clear hcp fin hb hbuf hl ha hcall
  go_enter Tryz.func28, Tryz.ntmps28
  go_wp2_with (first | (go_at_call 43; refine C1.out.mono ?_; rintro e w' ⟨rfl, rfl⟩) | (at_builtin; refine wpList_append_strF rfl _ _ _ _ rfl B 5 i0 Tryz.underlying50 Tryz.underlying9 hi0 hz0 hz1 hz2 v xs.length (xs.map U) rfl hrow0 s rfl hlen hbs0 ?_; intro v' w1 hown1 hgrow hli; obtain ⟨a2, c2, rfl⟩ := ownF_shape hown1; have hb1 := (hgrow.block b (lt_of_block HB0.out) (fun e => hne e.symm)).trans HB0.out; have c1 := cellB hb1 (o + 1); rw [Array.getElem?_setIfInBounds_ne (by omega), HBF.out] at c1; have f1 := freeB hb1 (o + 1); clear hb1))
  go_ret2
  refine ⟨rfl, FIN.out _ _ ?_ hgrow hli⟩
  rw [List.map_append, ← strCells_bs]
  exact hown1

theorem blen_any (w : World) (B b o : Nat) (T : TypeId) (cs : Array Value) (v : Value) (xs : List Nat) (h : Bd w B b o T cs v xs) :
    Calls Tryz.prog 23 #[.pointer (some ⟨b, o, none⟩)] w fun e w' => e = .returned (.int .i64 (xs.length : Int)) ∧ w = w' := by
  obtain ⟨hb, ha, hbuf, hrow⟩ := h
  have hc1 := cellB hb (o + 1)
  rw [hbuf] at hc1
  obtain ⟨a2, c2, rfl⟩ := ownF_shape hrow
  clear hb ha hbuf hrow
  go_enter Tryz.func23, Tryz.ntmps23
  go_wp2_with fail
  go_ret
  exact ⟨rfl, rfl⟩

end Go.Proofs.YtolhjijnbobphaaGreatDoor
