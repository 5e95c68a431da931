/- The reference's Hear. -/
import Derived.Test.YtndjcaljkpkgfaaOwn
namespace Go.Proofs.Ytndjcaljkpkgfaa
open Go.RowKit Go.Maps
set_option linter.unusedVariables false

theorem results_cell_tmp {P : Program} {fn : Func} {p q : Tmp} {ty : TypeId} (h : fn.results = #[.cell p ty, .tmp q]) (tmps : Array Value) (w : World) (g : Nat) (t : TypeId) (cs : Array Value) (fr : Nat × Nat) (d : TypeDesc) (x : Value)
    (hp : tmps.getD p undef = .pointer (some ⟨g, 0, none⟩)) (hq : tmps.getD q undef = x) (hg : w.heap[g]? = some (.cells cs t fr))
    (hu : P.underlying ty = some d) (hd : (match d with | .struct _ | .array _ _ => true | _ => false) = true) (hi : (P.info? ty).map (·.size) = some cs.size) :
    (results fn tmps).run P w = .ok (.tuple #[.agg cs, x]) w := by
  have hp' : tmps[p]?.getD undef = .pointer (some ⟨g, 0, none⟩) := by simpa using hp
  have hq' : tmps[q]?.getD undef = x := by simpa using hq
  simp [results, h, hp', hq', asAddr, run_loadVar_row w g t ty cs fr d hg hu hd hi]

theorem size41' {l : List Nat} {n : Int} {t : ByteArray} {d : Bool} (h : l.length = 32) : (Try.prog.info? 41).map (·.size) = some (rC l n t d).size := by rw [r_size h]; exact size41
theorem one_r (l : List Nat) (n : Int) (t : ByteArray) (d : Bool) : (rC l n t d).all (·.oneCell') = true := by
  rw [Array.all_eq_true']
  intro x hx
  simp [rC] at hx
  rcases hx with ⟨y, _, rfl⟩ | rfl | rfl | rfl <;> rfl
theorem r_setD {l : List Nat} (h : l.length = 32) (n : Int) (t : ByteArray) (d d' : Bool) : (rC l n t d).setIfInBounds 34 (.bool d') = rC l n t d' := by
  unfold rC
  apply Array.toList_inj.1
  simp only [Array.toList_setIfInBounds]
  rw [List.set_append_right _ _ (by simp [h])]
  simp [h]
theorem r_setT {l : List Nat} (h : l.length = 32) (n : Int) (t t' : ByteArray) (d : Bool) : (rC l n t d).setIfInBounds 33 (.string t') = rC l n t' d := by
  unfold rC
  apply Array.toList_inj.1
  simp only [Array.toList_setIfInBounds]
  rw [List.set_append_right _ _ (by simp [h])]
  simp [h]
theorem load_r (w : World) (g : Nat) (ty : TypeId) (fr : Nat × Nat) {l : List Nat} (h : l.length = 32) {n : Int} {t : ByteArray} {d : Bool} (hg : w.heap[g]? = some (.cells (rC l n t d) ty fr)) :
    (loadVar 41 ⟨g, 0, none⟩).run Try.prog w = .ok (.agg (rC l n t d)) w :=
  run_loadVar_part w g 0 ty 41 _ (rC l n t d) fr _ hg Try.underlying41 rfl (size41' h) (fun j u hu => by rw [Nat.zero_add]; exact hu)

/-- The three blocks of the call. -/
abbrev W3 (w : World) (cr cc cz : Array Value) : World := ((w.alloc (.cells cr 41)).alloc (.cells cc 31)).alloc (.cells cz 41)
theorem W3.r (w : World) (cr cc cz : Array Value) : (W3 w cr cc cz).heap[w.heap.size]? = some (.cells cr 41 (0, 0)) := alloc_block (alloc_block (heap_alloc_new w _))
theorem W3.c (w : World) (cr cc cz : Array Value) : (W3 w cr cc cz).heap[w.heap.size + 1]? = some (.cells cc 31 (0, 0)) := by
  have := alloc_block (o := .cells cz 41) (heap_alloc_new (w.alloc (.cells cr 41)) (.cells cc 31))
  simpa using this
theorem W3.z (w : World) (cr cc cz : Array Value) : (W3 w cr cc cz).heap[w.heap.size + 2]? = some (.cells cz 41 (0, 0)) := by
  have := heap_alloc_new ((w.alloc (.cells cr 41)).alloc (.cells cc 31)) (.cells cz 41)
  simpa using this
theorem W3.below (w : World) (cr cc cz : Array Value) : Below w.heap.size w (W3 w cr cc cz) := (((Below.refl _ _).alloc (Nat.le_refl _) _).alloc (by simp) _).alloc (by simp; omega) _
theorem W3.store (w : World) (cr cc cz : Array Value) {l : List Nat} (h : l.length = 32) (n : Int) (t : ByteArray) (d : Bool) (hz : cz.size = 35) :
    (storeVar 41 ⟨w.heap.size + 2, 0, none⟩ (.agg (rC l n t d))).run Try.prog (W3 w cr cc cz) = .ok () (W3 w cr cc (rC l n t d)) :=
  store_at _ _ (by simp) 41 cz _ (size41' h) (by rw [r_size h, hz]) (one_r _ _ _ _)

set_option maxHeartbeats 400000 in
theorem rhear_done (w : World) {l : List Nat} (hl : IdOk l) (n : Nat) (hn : n ≤ 65536) (t0 : ByteArray) (vb : Int) (f : Int) {m : List Nat} (hm : IdOk m) (t : ByteArray) : Calls Try.prog 14 #[.agg (rC l n t0 true), .agg (rcmC vb f m t)] w fun e w' => e = .returned (.tuple #[.agg (rC l n t0 true), .int .i64 10]) ∧ Below w.heap.size w w' := by
  have r32 := (r_at hl.len n t0 true).1
  have r33 := (r_at hl.len n t0 true).2.1
  have r34 := (r_at hl.len n t0 true).2.2
  have c0 := (rcm_at hm.len vb f t).1
  have c33 := (rcm_at hm.len vb f t).2.1
  have c34 := (rcm_at hm.len vb f t).2.2
  go_enter Try.func14, Try.ntmps14
  go_wp2_with (first
    | ((with_reducible refine wpList_load 41 rfl _ rfl ?_); refine ⟨_, _, rfl, load_r _ w.heap.size _ _ hl.len (W3.r w _ _ _), ?_⟩)
    | ((with_reducible refine wpList_store 41 rfl _ _ rfl ?_); refine ⟨_, _, _, rfl, rfl, W3.store w _ _ _ hl.len n _ true rfl, ?_⟩))
  exact bodyPost_ret (v := .tuple #[.agg (rC l n t0 true), .int .i64 10]) (results_cell_tmp Try.results14 _ _ (w.heap.size + 2) _ _ _ _ _ rfl rfl (W3.z w _ _ _) Try.underlying41 rfl (size41' hl.len)) rfl ⟨rfl, W3.below _ _ _ _⟩

set_option maxHeartbeats 400000 in
theorem rhear_kind (w : World) {l : List Nat} (hl : IdOk l) (n : Nat) (hn : n ≤ 65536) (t0 : ByteArray) (vb : Int) (f : Int) {m : List Nat} (hm : IdOk m) (t : ByteArray) (h7 : vb ≠ 7) (h8 : vb ≠ 8) : Calls Try.prog 14 #[.agg (rC l n t0 false), .agg (rcmC vb f m t)] w fun e w' => e = .returned (.tuple #[.agg (rC l n t0 false), .int .i64 11]) ∧ Below w.heap.size w w' := by
  have r32 := (r_at hl.len n t0 false).1
  have r33 := (r_at hl.len n t0 false).2.1
  have r34 := (r_at hl.len n t0 false).2.2
  have c0 := (rcm_at hm.len vb f t).1
  have c33 := (rcm_at hm.len vb f t).2.1
  have c34 := (rcm_at hm.len vb f t).2.2
  have e7 : (vb != 7) = true := by simpa using h7
  have e8 : (vb != 8) = true := by simpa using h8
  go_enter Try.func14, Try.ntmps14
  go_wp2_with (first
    | ((with_reducible refine wpList_load 41 rfl _ rfl ?_); refine ⟨_, _, rfl, load_r _ w.heap.size _ _ hl.len (W3.r w _ _ _), ?_⟩)
    | ((with_reducible refine wpList_store 41 rfl _ _ rfl ?_); refine ⟨_, _, _, rfl, rfl, W3.store w _ _ _ hl.len n _ false rfl, ?_⟩))
  exact bodyPost_ret (v := .tuple #[.agg (rC l n t0 false), .int .i64 11]) (results_cell_tmp Try.results14 _ _ (w.heap.size + 2) _ _ _ _ _ rfl rfl (W3.z w _ _ _) Try.underlying41 rfl (size41' hl.len)) rfl ⟨rfl, W3.below _ _ _ _⟩

set_option maxHeartbeats 400000 in
theorem rhear_id7 (w : World) {l : List Nat} (hl : IdOk l) (n : Nat) (hn : n ≤ 65536) (t0 : ByteArray) (f : Int) {m : List Nat} (hm : IdOk m) (t : ByteArray) (hne : m ≠ l) : Calls Try.prog 14 #[.agg (rC l n t0 false), .agg (rcmC 7 f m t)] w fun e w' => e = .returned (.tuple #[.agg (rC l n t0 false), .int .i64 8]) ∧ Below w.heap.size w w' := by
  have r32 := (r_at hl.len n t0 false).1
  have r33 := (r_at hl.len n t0 false).2.1
  have r34 := (r_at hl.len n t0 false).2.2
  have c0 := (rcm_at hm.len 7 f t).1
  have c33 := (rcm_at hm.len 7 f t).2.1
  have c34 := (rcm_at hm.len 7 f t).2.2
  have HE : Hid (∀ w, (Op.equal 23 (.agg (idA m)) (.agg (idA l))).run Try.prog w = .ok false w) := Lib.hid fun w => by rw [eq_id w hm hl]; simp [hne]
  clear hne
  go_enter Try.func14, Try.ntmps14
  go_wp2_with (first
    | ((with_reducible refine wpList_load 23 rfl _ rfl ?_); refine ⟨_, _, rfl, load_id _ w.heap.size 0 _ _ _ hl.len (W3.r w _ _ _) (r_id _ _ _), ?_⟩)
    | ((with_reducible refine wpList_load 23 rfl _ rfl ?_); refine ⟨_, _, rfl, load_id _ (w.heap.size + 1) 1 _ _ _ hm.len (W3.c w _ _ _) (rcm_id _ _ _), ?_⟩)
    | ((with_reducible refine wpList_neq 23 rfl _ _ rfl guard23 ?_); refine ⟨_, _, _, rfl, rfl, HE.out _, ?_⟩)
    | ((with_reducible refine wpList_load 41 rfl _ rfl ?_); refine ⟨_, _, rfl, load_r _ w.heap.size _ _ hl.len (W3.r w _ _ _), ?_⟩)
    | ((with_reducible refine wpList_store 41 rfl _ _ rfl ?_); refine ⟨_, _, _, rfl, rfl, W3.store w _ _ _ hl.len n _ false rfl, ?_⟩))
  exact bodyPost_ret (v := .tuple #[.agg (rC l n t0 false), .int .i64 8]) (results_cell_tmp Try.results14 _ _ (w.heap.size + 2) _ _ _ _ _ rfl rfl (W3.z w _ _ _) Try.underlying41 rfl (size41' hl.len)) rfl ⟨rfl, W3.below _ _ _ _⟩

set_option maxHeartbeats 400000 in
theorem rhear_id8 (w : World) {l : List Nat} (hl : IdOk l) (n : Nat) (hn : n ≤ 65536) (t0 : ByteArray) (f : Int) {m : List Nat} (hm : IdOk m) (t : ByteArray) (hne : m ≠ l) : Calls Try.prog 14 #[.agg (rC l n t0 false), .agg (rcmC 8 f m t)] w fun e w' => e = .returned (.tuple #[.agg (rC l n t0 false), .int .i64 8]) ∧ Below w.heap.size w w' := by
  have r32 := (r_at hl.len n t0 false).1
  have r33 := (r_at hl.len n t0 false).2.1
  have r34 := (r_at hl.len n t0 false).2.2
  have c0 := (rcm_at hm.len 8 f t).1
  have c33 := (rcm_at hm.len 8 f t).2.1
  have c34 := (rcm_at hm.len 8 f t).2.2
  have HE : Hid (∀ w, (Op.equal 23 (.agg (idA m)) (.agg (idA l))).run Try.prog w = .ok false w) := Lib.hid fun w => by rw [eq_id w hm hl]; simp [hne]
  clear hne
  go_enter Try.func14, Try.ntmps14
  go_wp2_with (first
    | ((with_reducible refine wpList_load 23 rfl _ rfl ?_); refine ⟨_, _, rfl, load_id _ w.heap.size 0 _ _ _ hl.len (W3.r w _ _ _) (r_id _ _ _), ?_⟩)
    | ((with_reducible refine wpList_load 23 rfl _ rfl ?_); refine ⟨_, _, rfl, load_id _ (w.heap.size + 1) 1 _ _ _ hm.len (W3.c w _ _ _) (rcm_id _ _ _), ?_⟩)
    | ((with_reducible refine wpList_neq 23 rfl _ _ rfl guard23 ?_); refine ⟨_, _, _, rfl, rfl, HE.out _, ?_⟩)
    | ((with_reducible refine wpList_load 41 rfl _ rfl ?_); refine ⟨_, _, rfl, load_r _ w.heap.size _ _ hl.len (W3.r w _ _ _), ?_⟩)
    | ((with_reducible refine wpList_store 41 rfl _ _ rfl ?_); refine ⟨_, _, _, rfl, rfl, W3.store w _ _ _ hl.len n _ false rfl, ?_⟩))
  exact bodyPost_ret (v := .tuple #[.agg (rC l n t0 false), .int .i64 8]) (results_cell_tmp Try.results14 _ _ (w.heap.size + 2) _ _ _ _ _ rfl rfl (W3.z w _ _ _) Try.underlying41 rfl (size41' hl.len)) rfl ⟨rfl, W3.below _ _ _ _⟩

set_option maxHeartbeats 400000 in
theorem rhear_short (w : World) {l : List Nat} (hl : IdOk l) (n : Nat) (hn : n ≤ 65536) (t0 : ByteArray) (f : Int) (t : ByteArray) (hs : t0.size < n) : Calls Try.prog 14 #[.agg (rC l n t0 false), .agg (rcmC 8 f l t)] w fun e w' => e = .returned (.tuple #[.agg (rC l n t0 false), .int .i64 4]) ∧ Below w.heap.size w w' := by
  have r32 := (r_at hl.len n t0 false).1
  have r33 := (r_at hl.len n t0 false).2.1
  have r34 := (r_at hl.len n t0 false).2.2
  have c0 := (rcm_at hl.len 8 f t).1
  have c33 := (rcm_at hl.len 8 f t).2.1
  have c34 := (rcm_at hl.len 8 f t).2.2
  have HE : Hid (∀ w, (Op.equal 23 (.agg (idA l)) (.agg (idA l))).run Try.prog w = .ok true w) := Lib.hid fun w => by rw [eq_id w hl hl]; simp
  go_enter Try.func14, Try.ntmps14
  go_wp2_with (first
    | ((with_reducible refine wpList_load 23 rfl _ rfl ?_); refine ⟨_, _, rfl, load_id _ w.heap.size 0 _ _ _ hl.len (W3.r w _ _ _) (r_id _ _ _), ?_⟩)
    | ((with_reducible refine wpList_load 23 rfl _ rfl ?_); refine ⟨_, _, rfl, load_id _ (w.heap.size + 1) 1 _ _ _ hl.len (W3.c w _ _ _) (rcm_id _ _ _), ?_⟩)
    | ((with_reducible refine wpList_neq 23 rfl _ _ rfl guard23 ?_); refine ⟨_, _, _, rfl, rfl, HE.out _, ?_⟩)
    | ((with_reducible refine wpList_load 41 rfl _ rfl ?_); refine ⟨_, _, rfl, load_r _ w.heap.size _ _ hl.len (W3.r w _ _ _), ?_⟩)
    | ((with_reducible refine wpList_store 41 rfl _ _ rfl ?_); refine ⟨_, _, _, rfl, rfl, W3.store w _ _ _ hl.len n _ false rfl, ?_⟩))
  exact bodyPost_ret (v := .tuple #[.agg (rC l n t0 false), .int .i64 4]) (results_cell_tmp Try.results14 _ _ (w.heap.size + 2) _ _ _ _ _ rfl rfl (W3.z w _ _ _) Try.underlying41 rfl (size41' hl.len)) rfl ⟨rfl, W3.below _ _ _ _⟩

set_option maxHeartbeats 400000 in
theorem rhear_end (w : World) {l : List Nat} (hl : IdOk l) (n : Nat) (hn : n ≤ 65536) (t0 : ByteArray) (f : Int) (t : ByteArray) (hs : t0.size = n) : Calls Try.prog 14 #[.agg (rC l n t0 false), .agg (rcmC 8 f l t)] w fun e w' => e = .returned (.tuple #[.agg (rC l n t0 true), .int .i64 0]) ∧ Below w.heap.size w w' := by
  have r32 := (r_at hl.len n t0 false).1
  have r33 := (r_at hl.len n t0 false).2.1
  have r34 := (r_at hl.len n t0 false).2.2
  have c0 := (rcm_at hl.len 8 f t).1
  have c33 := (rcm_at hl.len 8 f t).2.1
  have c34 := (rcm_at hl.len 8 f t).2.2
  have hs1 : n ≤ t0.size := by omega
  clear hs
  have rs := r_setD hl.len n t0 false true
  have HE : Hid (∀ w, (Op.equal 23 (.agg (idA l)) (.agg (idA l))).run Try.prog w = .ok true w) := Lib.hid fun w => by rw [eq_id w hl hl]; simp
  go_enter Try.func14, Try.ntmps14
  go_wp2_with (first
    | ((with_reducible refine wpList_load 23 rfl _ rfl ?_); refine ⟨_, _, rfl, load_id _ w.heap.size 0 _ _ _ hl.len (W3.r w _ _ _) (r_id _ _ _), ?_⟩)
    | ((with_reducible refine wpList_load 23 rfl _ rfl ?_); refine ⟨_, _, rfl, load_id _ (w.heap.size + 1) 1 _ _ _ hl.len (W3.c w _ _ _) (rcm_id _ _ _), ?_⟩)
    | ((with_reducible refine wpList_neq 23 rfl _ _ rfl guard23 ?_); refine ⟨_, _, _, rfl, rfl, HE.out _, ?_⟩)
    | ((with_reducible refine wpList_load 41 rfl _ rfl ?_); refine ⟨_, _, rfl, load_r _ w.heap.size _ _ hl.len (W3.r w _ _ _), ?_⟩)
    | ((with_reducible refine wpList_store 41 rfl _ _ rfl ?_); refine ⟨_, _, _, rfl, rfl, W3.store w _ _ _ hl.len n _ true rfl, ?_⟩))
  exact bodyPost_ret (v := .tuple #[.agg (rC l n t0 true), .int .i64 0]) (results_cell_tmp Try.results14 _ _ (w.heap.size + 2) _ _ _ _ _ rfl rfl (W3.z w _ _ _) Try.underlying41 rfl (size41' hl.len)) rfl ⟨rfl, W3.below _ _ _ _⟩

set_option maxHeartbeats 400000 in
theorem rhear_seq (w : World) {l : List Nat} (hl : IdOk l) (n : Nat) (hn : n ≤ 65536) (t0 : ByteArray) (f : Int) (t : ByteArray) (hf : f ≠ (t0.size : Int)) : Calls Try.prog 14 #[.agg (rC l n t0 false), .agg (rcmC 7 f l t)] w fun e w' => e = .returned (.tuple #[.agg (rC l n t0 false), .int .i64 30]) ∧ Below w.heap.size w w' := by
  have r32 := (r_at hl.len n t0 false).1
  have r33 := (r_at hl.len n t0 false).2.1
  have r34 := (r_at hl.len n t0 false).2.2
  have c0 := (rcm_at hl.len 7 f t).1
  have c33 := (rcm_at hl.len 7 f t).2.1
  have c34 := (rcm_at hl.len 7 f t).2.2
  have e1 : (f != (t0.size : Int)) = true := by simpa using hf
  have e2 : (f == (t0.size : Int)) = false := by simpa using hf
  clear hf
  have HE : Hid (∀ w, (Op.equal 23 (.agg (idA l)) (.agg (idA l))).run Try.prog w = .ok true w) := Lib.hid fun w => by rw [eq_id w hl hl]; simp
  go_enter Try.func14, Try.ntmps14
  go_wp2_with (first
    | ((with_reducible refine wpList_load 23 rfl _ rfl ?_); refine ⟨_, _, rfl, load_id _ w.heap.size 0 _ _ _ hl.len (W3.r w _ _ _) (r_id _ _ _), ?_⟩)
    | ((with_reducible refine wpList_load 23 rfl _ rfl ?_); refine ⟨_, _, rfl, load_id _ (w.heap.size + 1) 1 _ _ _ hl.len (W3.c w _ _ _) (rcm_id _ _ _), ?_⟩)
    | ((with_reducible refine wpList_neq 23 rfl _ _ rfl guard23 ?_); refine ⟨_, _, _, rfl, rfl, HE.out _, ?_⟩)
    | ((with_reducible refine wpList_load 41 rfl _ rfl ?_); refine ⟨_, _, rfl, load_r _ w.heap.size _ _ hl.len (W3.r w _ _ _), ?_⟩)
    | ((with_reducible refine wpList_store 41 rfl _ _ rfl ?_); refine ⟨_, _, _, rfl, rfl, W3.store w _ _ _ hl.len n _ false rfl, ?_⟩))
  exact bodyPost_ret (v := .tuple #[.agg (rC l n t0 false), .int .i64 30]) (results_cell_tmp Try.results14 _ _ (w.heap.size + 2) _ _ _ _ _ rfl rfl (W3.z w _ _ _) Try.underlying41 rfl (size41' hl.len)) rfl ⟨rfl, W3.below _ _ _ _⟩

set_option maxHeartbeats 400000 in
theorem rhear_long (w : World) {l : List Nat} (hl : IdOk l) (n : Nat) (hn : n ≤ 65536) (t0 : ByteArray) (t : ByteArray) (h0 : t0.size ≤ n) (hs : n < t0.size + t.size) (ht : t.size ≤ 140737488355328) : Calls Try.prog 14 #[.agg (rC l n t0 false), .agg (rcmC 7 (t0.size : Int) l t)] w fun e w' => e = .returned (.tuple #[.agg (rC l n t0 false), .int .i64 5]) ∧ Below w.heap.size w w' := by
  have r32 := (r_at hl.len n t0 false).1
  have r33 := (r_at hl.len n t0 false).2.1
  have r34 := (r_at hl.len n t0 false).2.2
  have c0 := (rcm_at hl.len 7 (t0.size : Int) t).1
  have c33 := (rcm_at hl.len 7 (t0.size : Int) t).2.1
  have c34 := (rcm_at hl.len 7 (t0.size : Int) t).2.2
  have HE : Hid (∀ w, (Op.equal 23 (.agg (idA l)) (.agg (idA l))).run Try.prog w = .ok true w) := Lib.hid fun w => by rw [eq_id w hl hl]; simp
  go_enter Try.func14, Try.ntmps14
  go_wp2_with (first
    | ((with_reducible refine wpList_load 23 rfl _ rfl ?_); refine ⟨_, _, rfl, load_id _ w.heap.size 0 _ _ _ hl.len (W3.r w _ _ _) (r_id _ _ _), ?_⟩)
    | ((with_reducible refine wpList_load 23 rfl _ rfl ?_); refine ⟨_, _, rfl, load_id _ (w.heap.size + 1) 1 _ _ _ hl.len (W3.c w _ _ _) (rcm_id _ _ _), ?_⟩)
    | ((with_reducible refine wpList_neq 23 rfl _ _ rfl guard23 ?_); refine ⟨_, _, _, rfl, rfl, HE.out _, ?_⟩)
    | ((with_reducible refine wpList_load 41 rfl _ rfl ?_); refine ⟨_, _, rfl, load_r _ w.heap.size _ _ hl.len (W3.r w _ _ _), ?_⟩)
    | ((with_reducible refine wpList_store 41 rfl _ _ rfl ?_); refine ⟨_, _, _, rfl, rfl, W3.store w _ _ _ hl.len n _ false rfl, ?_⟩))
  exact bodyPost_ret (v := .tuple #[.agg (rC l n t0 false), .int .i64 5]) (results_cell_tmp Try.results14 _ _ (w.heap.size + 2) _ _ _ _ _ rfl rfl (W3.z w _ _ _) Try.underlying41 rfl (size41' hl.len)) rfl ⟨rfl, W3.below _ _ _ _⟩

set_option maxHeartbeats 400000 in
theorem rhear_ok (w : World) {l : List Nat} (hl : IdOk l) (n : Nat) (hn : n ≤ 65536) (t0 : ByteArray) (t : ByteArray) (h0 : t0.size ≤ n) (hs : t0.size + t.size ≤ n) : Calls Try.prog 14 #[.agg (rC l n t0 false), .agg (rcmC 7 (t0.size : Int) l t)] w fun e w' => e = .returned (.tuple #[.agg (rC l n (t0 ++ t) false), .int .i64 0]) ∧ Below w.heap.size w w' := by
  have r32 := (r_at hl.len n t0 false).1
  have r33 := (r_at hl.len n t0 false).2.1
  have r34 := (r_at hl.len n t0 false).2.2
  have c0 := (rcm_at hl.len 7 (t0.size : Int) t).1
  have c33 := (rcm_at hl.len 7 (t0.size : Int) t).2.1
  have c34 := (rcm_at hl.len 7 (t0.size : Int) t).2.2
  have rs := r_setT hl.len n t0 (t0 ++ t) false
  have HE : Hid (∀ w, (Op.equal 23 (.agg (idA l)) (.agg (idA l))).run Try.prog w = .ok true w) := Lib.hid fun w => by rw [eq_id w hl hl]; simp
  go_enter Try.func14, Try.ntmps14
  go_wp2_with (first
    | ((with_reducible refine wpList_load 23 rfl _ rfl ?_); refine ⟨_, _, rfl, load_id _ w.heap.size 0 _ _ _ hl.len (W3.r w _ _ _) (r_id _ _ _), ?_⟩)
    | ((with_reducible refine wpList_load 23 rfl _ rfl ?_); refine ⟨_, _, rfl, load_id _ (w.heap.size + 1) 1 _ _ _ hl.len (W3.c w _ _ _) (rcm_id _ _ _), ?_⟩)
    | ((with_reducible refine wpList_neq 23 rfl _ _ rfl guard23 ?_); refine ⟨_, _, _, rfl, rfl, HE.out _, ?_⟩)
    | ((with_reducible refine wpList_load 41 rfl _ rfl ?_); refine ⟨_, _, rfl, load_r _ w.heap.size _ _ hl.len (W3.r w _ _ _), ?_⟩)
    | ((with_reducible refine wpList_store 41 rfl _ _ rfl ?_); refine ⟨_, _, _, rfl, rfl, W3.store w _ _ _ hl.len n _ false rfl, ?_⟩))
  exact bodyPost_ret (v := .tuple #[.agg (rC l n (t0 ++ t) false), .int .i64 0]) (results_cell_tmp Try.results14 _ _ (w.heap.size + 2) _ _ _ _ _ rfl rfl (W3.z w _ _ _) Try.underlying41 rfl (size41' hl.len)) rfl ⟨rfl, W3.below _ _ _ _⟩

theorem strN_append (a b : List Nat) : strN a ++ strN b = strN (a ++ b) := by
  unfold strN
  apply ByteArray.ext
  simp
theorem strN_snoc (xs : List Nat) (t : ByteArray) : strN (xs ++ bs t) = strN xs ++ t := by rw [← strN_append, strN_bs]

theorem rhear_any (w : World) {l : List Nat} (hl : IdOk l) (n : Nat) (hn : n ≤ 65536) (xs : List Nat) (d : Bool) (vb f : Int) {m : List Nat} (hm : IdOk m) (t : ByteArray) (hx : xs.length ≤ n) (ht : t.size ≤ 140737488355328) :
    Calls Try.prog 14 #[.agg (rC l n (strN xs) d), .agg (rcmC vb f m t)] w fun e w' => e = .returned (.tuple #[.agg (rC l n (strN (hearF l n xs d vb f m t).1) (hearF l n xs d vb f m t).2.1), .int .i64 (hearF l n xs d vb f m t).2.2]) ∧ Below w.heap.size w w' := by
  have hsz : (strN xs).size = xs.length := strN_size xs
  unfold hearF
  cases d with
  | true => rw [if_pos rfl]; exact rhear_done w hl n hn _ vb f hm t
  | false =>
    rw [if_neg (by decide)]
    by_cases h78 : vb ≠ 7 ∧ vb ≠ 8
    · rw [if_pos h78]; exact rhear_kind w hl n hn _ vb f hm t h78.1 h78.2
    rw [if_neg h78]
    by_cases hid : m ≠ l
    · rw [if_pos hid]
      by_cases h8 : vb = 8
      · subst h8; exact rhear_id8 w hl n hn _ f hm t hid
      · obtain rfl : vb = 7 := by omega
        exact rhear_id7 w hl n hn _ f hm t hid
    rw [if_neg hid]
    obtain rfl : m = l := by simpa using hid
    by_cases h8 : vb = 8
    · subst h8
      rw [if_pos rfl]
      by_cases hs : xs.length < n
      · rw [if_pos hs]; exact rhear_short w hl n hn _ f t (by rw [hsz]; exact hs)
      · rw [if_neg hs]; exact rhear_end w hl n hn _ f t (by rw [hsz]; omega)
    rw [if_neg h8]
    obtain rfl : vb = 7 := by omega
    by_cases hf : f ≠ (xs.length : Int)
    · rw [if_pos hf]; exact rhear_seq w hl n hn _ f t (by rw [hsz]; exact hf)
    rw [if_neg hf]
    obtain rfl : f = (xs.length : Int) := by simpa using hf
    rw [← hsz]
    by_cases hlg : n < (strN xs).size + t.size
    · rw [if_pos hlg]; exact rhear_long w hl n hn _ t (by rw [hsz]; exact hx) hlg ht
    · rw [if_neg hlg]; simp only [strN_snoc]; exact rhear_ok w hl n hn _ t (by rw [hsz]; exact hx) (by omega)

end Go.Proofs.Ytndjcaljkpkgfaa
