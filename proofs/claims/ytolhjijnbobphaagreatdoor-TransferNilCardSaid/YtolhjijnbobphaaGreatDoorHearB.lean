/- (*Receiver).Hear. -/
import Derived.Test.YtolhjijnbobphaaGreatDoorHear
namespace Go.Proofs.YtolhjijnbobphaaGreatDoor
open Go.RowKit Go.Maps
set_option linter.unusedVariables false
set_option maxRecDepth 100000

theorem mixed : Tryz.prog.follows .mixedOrders = true := by kernel_rfl

theorem hear_done (w : World) {B b n : Nat} {l xs : List Nat} {v : Value} (h : Rc w B b l n xs true v) (hl : l.length = 32) (vb f : Int) (m : List Nat) (t : ByteArray) :
    Calls Tryz.prog 11 #[.pointer (some ⟨b, 0, none⟩), .agg (cmdC vb f m t)] w fun e w' => e = .returned (.int .i64 10) ∧ RcPost w B b l n xs true v w' := by
  have b1 : Below w.heap.size w (w.alloc (.cells (cmdC vb f m t) 31)) := (Below.refl _ _).alloc (Nat.le_refl _) _
  have lt := h.lt
  have q35 := h.at35 hl
  have H := Lib.hid h; have B1 := Lib.hid b1
  clear h b1
  go_enter Tryz.func11, Tryz.ntmps11
  go_wp2_with fail
  go_ret
  exact ⟨rfl, RcPost.of_below H.out B1.out⟩
theorem hear_kind (w : World) {B b n : Nat} {l xs : List Nat} {v : Value} (h : Rc w B b l n xs false v) (hl : l.length = 32) (vb f : Int) {m : List Nat} (hm : m.length = 32) (t : ByteArray) (h7 : vb ≠ 7) (h8 : vb ≠ 8) :
    Calls Tryz.prog 11 #[.pointer (some ⟨b, 0, none⟩), .agg (cmdC vb f m t)] w fun e w' => e = .returned (.int .i64 11) ∧ RcPost w B b l n xs false v w' := by
  have b1 : Below w.heap.size w (w.alloc (.cells (cmdC vb f m t) 31)) := (Below.refl _ _).alloc (Nat.le_refl _) _
  have lt := h.lt
  have q35 := h.at35 hl
  have c0 := (cmd_at hm vb f t).1
  have H := Lib.hid h; have B1 := Lib.hid b1
  have e7 : (vb != 7) = true := by simpa using h7
  have e8 : (vb != 8) = true := by simpa using h8
  clear h b1
  go_enter Tryz.func11, Tryz.ntmps11
  go_wp2_with fail
  go_ret
  exact ⟨rfl, RcPost.of_below H.out B1.out⟩

set_option maxHeartbeats 1000000 in
theorem hear_id (w : World) {B b n : Nat} {l xs : List Nat} {v : Value} (h : Rc w B b l n xs false v) (hl : IdOk l) (vb f : Int) {m : List Nat} (hm : IdOk m) (t : ByteArray) (hv : vb = 7 ∨ vb = 8) (hne : m ≠ l) :
    Calls Tryz.prog 11 #[.pointer (some ⟨b, 0, none⟩), .agg (cmdC vb f m t)] w fun e w' => e = .returned (.int .i64 8) ∧ RcPost w B b l n xs false v w' := by
  have b1 : Below w.heap.size w (w.alloc (.cells (cmdC vb f m t) 31)) := (Below.refl _ _).alloc (Nat.le_refl _) _
  have lt := h.lt
  have q35 := h.at35 hl.len
  have c0 := (cmd_at hm.len vb f t).1
  have H := Lib.hid h; have B1 := Lib.hid b1
  have H1 := Lib.hid (h.below b1)
  have HE : Hid (∀ w, (Op.equal 23 (.agg (idA m)) (.agg (idA l))).run Tryz.prog w = .ok false w) := Lib.hid fun w => by rw [eq_id w hm hl]; simp [hne]
  have HV := Lib.hid hv
  clear h b1 hne hv
  go_enter Tryz.func11, Tryz.ntmps11
  rcases HV.out with rfl | rfl
  all_goals
    clear HV
    go_wp2_with fail
    refine wp_region_quiet_lit (by kernel_rfl) (by kernel_rfl) ?_
    go_big_quiet_step (fail)
    refine wpQuiet_load 23 rfl _ rfl ⟨_, .agg (idA m), rfl, ?_, ?_⟩
    · rintro w2 ⟨q, rfl⟩
      exact load_id _ w.heap.size 2 _ _ _ hm.len (heap_alloc_new w _) (cmd_id _ _ _)
    quiet_step (fail)
    quiet_step (fail)
    quiet_step (fail)
    refine wpQuiet_load 23 rfl _ rfl ⟨_, .agg (idA l), rfl, ?_, ?_⟩
    · rintro w2 ⟨q, rfl⟩
      obtain ⟨ad, hb⟩ := H1.out
      exact load_id _ b 0 _ _ _ hl.len hb.heap (rcv_id _ _ _ _)
    refine wpQuiet_neq 23 rfl _ _ rfl guard23 ⟨_, _, _, rfl, rfl, HE.out, ?_⟩
    quiet_step (fail)
    refine wpQuiet_nil ?_
    rintro _ ⟨nq, rfl⟩
    go_wp2_with fail
    go_ret
    exact ⟨rfl, RcPost.of_below H.out (below_drewN B1.out nq)⟩

/-- The table of methods. -/
def tabC (b : Nat) : Array Value := #[Value.nilFunc, Value.nilFunc, Value.nilFunc, Value.nilFunc, Value.nilFunc, Value.nilFunc, Value.nilFunc, Value.func (Fn.func 21) #[Value.pointer (some ⟨b, 0, none⟩)] #[], Value.func (Fn.func 22) #[Value.pointer (some ⟨b, 0, none⟩)] #[]]
theorem store_tab (w : World) (b : Nat) : (storeVar 56 ⟨w.heap.size, 0, none⟩ (.agg (tabC b))).run Tryz.prog (w.alloc (.cells #[Value.nilFunc, Value.nilFunc, Value.nilFunc, Value.nilFunc, Value.nilFunc, Value.nilFunc, Value.nilFunc, Value.nilFunc, Value.nilFunc] 56)) = .ok () (w.alloc (.cells (tabC b) 56)) :=
  run_storeVar_new w 56 _ _ (by kernel_rfl) rfl (by simp [tabC, Value.oneCell'])
theorem size68 : (Tryz.prog.info? 56).map (·.size) = some 9 := by kernel_rfl
theorem load_cmd (w : World) (g : Nat) (t : TypeId) (fr : Nat × Nat) {l : List Nat} (h : l.length = 32) {v f : Int} {x : ByteArray} (hg : w.heap[g]? = some (.cells (cmdC v f l x) t fr)) :
    (loadVar 31 ⟨g, 0, none⟩).run Tryz.prog w = .ok (.agg (cmdC v f l x)) w :=
  run_loadVar_part w g 0 t 31 _ (cmdC v f l x) fr _ hg Tryz.underlying31 rfl (by rw [cmd_size h]; exact size34) (fun j u hu => by rw [Nat.zero_add]; exact hu)

set_option maxHeartbeats 1000000 in
theorem hear_data (w : World) {B b n : Nat} {l xs ys : List Nat} {v : Value} {dd : Bool} (h : Rc w B b l n xs false v) (hl : IdOk l) (f : Int) (t : ByteArray) (code : Int)
    (hC : ∀ w1, Below w.heap.size w w1 → Calls Tryz.prog 21 #[.pointer (some ⟨b, 0, none⟩), .agg (cmdC 7 f l t)] w1 fun e w' => e = .returned (.int .i64 code) ∧ RcPost w1 B b l n ys dd v w') :
    Calls Tryz.prog 11 #[.pointer (some ⟨b, 0, none⟩), .agg (cmdC 7 f l t)] w fun e w' => e = .returned (.int .i64 code) ∧ RcPost w B b l n ys dd v w' := by
  have b1 : Below w.heap.size w (w.alloc (.cells (cmdC 7 f l t) 31)) := (Below.refl _ _).alloc (Nat.le_refl _) _
  have lt := h.lt
  have q35 := h.at35 hl.len
  have c0 := (cmd_at hl.len 7 f t).1
  have H := Lib.hid h; have B1 := Lib.hid b1
  have H1 := Lib.hid (h.below b1)
  have HE : Hid (∀ w, (Op.equal 23 (.agg (idA l)) (.agg (idA l))).run Tryz.prog w = .ok true w) := Lib.hid fun w => by rw [eq_id w hl hl]; simp
  have HC := Lib.hid hC
  clear h b1 hC
  go_enter Tryz.func11, Tryz.ntmps11
  go_wp2_with fail
  refine wp_region_quiet_lit (by kernel_rfl) (by kernel_rfl) ?_
  go_big_quiet_step (fail)
  refine wpQuiet_load 23 rfl _ rfl ⟨_, .agg (idA l), rfl, ?_, ?_⟩
  · rintro w2 ⟨q, rfl⟩
    exact load_id _ w.heap.size 2 _ _ _ hl.len (heap_alloc_new w _) (cmd_id _ _ _)
  quiet_step (fail)
  quiet_step (fail)
  quiet_step (fail)
  refine wpQuiet_load 23 rfl _ rfl ⟨_, .agg (idA l), rfl, ?_, ?_⟩
  · rintro w2 ⟨q, rfl⟩
    obtain ⟨ad, hb⟩ := H1.out
    exact load_id _ b 0 _ _ _ hl.len hb.heap (rcv_id _ _ _ _)
  refine wpQuiet_neq 23 rfl _ _ rfl guard23 ⟨_, _, _, rfl, rfl, HE.out, ?_⟩
  quiet_step (fail)
  refine wpQuiet_nil ?_
  rintro _ ⟨nq, rfl⟩
  obtain ⟨w2, hw2⟩ : ∃ w2, w2 = (w.alloc (.cells (cmdC 7 f l t) 31)).drewN nq := ⟨_, rfl⟩
  have B2 := Lib.hid (below_drewN B1.out nq)
  have HB : Hid (((w.alloc (.cells (cmdC 7 f l t) 31)).drewN nq).heap[w.heap.size]? = some (.cells (cmdC 7 f l t) 31 (0, 0))) := Lib.hid (heap_alloc_new w _)
  rw [← hw2] at B2 HB
  rw [← hw2]
  clear hw2 B1 H1
  have lt2 : w.heap.size < w2.heap.size := lt_of_block HB.out
  have q0 : w2.cell? ⟨w.heap.size, 0, none⟩ = some (.int .i64 7) := (cellB HB.out 0).trans c0
  have B3 : Hid (Below w.heap.size w (w2.alloc (.cells (tabC b) 56))) := Lib.hid (B2.out.alloc B2.out.size _)
  have t7 : (tabC b)[7]? = some (Value.func (Fn.func 21) #[Value.pointer (some ⟨b, 0, none⟩)] #[]) := rfl
  have ST := Lib.hid (store_tab w2 b)
  go_wp2_with ((with_reducible refine wpList_store 56 rfl _ _ rfl ?_); refine ⟨_, _, _, rfl, rfl, ST.out, ?_⟩)
  refine wp_region_still_tail 5 mixed (by kernel_rfl) ?_
  simp only [List.take_succ_cons, List.take_zero, List.drop_succ_cons, List.drop_zero]
  change wpStill _ _ (w2.alloc (.cells (tabC b) 56)).drew (fun a' => wpList _ _ _ _ a' (w2.alloc (.cells (tabC b) 56)).drew) _ _
  have s7 : (w2.alloc (.cells (tabC b) 56)).drew.cell? ⟨w2.heap.size, 7, none⟩ = some (Value.func (Fn.func 21) #[Value.pointer (some ⟨b, 0, none⟩)] #[]) := (cellB (w := (w2.alloc (.cells (tabC b) 56)).drew) (heap_alloc_new w2 _) 7).trans t7
  have s0 : (w2.alloc (.cells (tabC b) 56)).drew.cell? ⟨w.heap.size, 0, none⟩ = some (.int .i64 7) := (cellB (w := (w2.alloc (.cells (tabC b) 56)).drew) (alloc_block HB.out) 0).trans c0
  have HB3 : Hid ((w2.alloc (.cells (tabC b) 56)).drew.heap[w.heap.size]? = some (.cells (cmdC 7 f l t) 31 (0, 0))) := Lib.hid (alloc_block HB.out)
  have B4 := Lib.hid B3.out.drew
  generalize (w2.alloc (.cells (tabC b) 56)).drew = w3 at *
  clear HB B3 ST
  still_step
  still_step
  still_step
  still_step
  refine wpStill_load 31 rfl _ rfl ⟨_, .agg (cmdC 7 f l t), rfl, load_cmd _ w.heap.size _ _ hl.len HB3.out, ?_⟩
  refine wpStill_nil ?_
  have CC := Lib.hid (HC.out w3 B4.out)
  clear HC
  go_wp2_with (go_at_call 21; refine CC.out.mono ?_; rintro e w5 ⟨rfl, h5⟩; have H5 := Lib.hid h5; clear h5)
  go_ret
  exact ⟨rfl, H5.out.after B4.out⟩

set_option maxHeartbeats 1000000 in
theorem hear_end (w : World) {B b n : Nat} {l xs ys : List Nat} {v : Value} {dd : Bool} (h : Rc w B b l n xs false v) (hl : IdOk l) (f : Int) (t : ByteArray) (code : Int)
    (hC : ∀ w1, Below w.heap.size w w1 → Calls Tryz.prog 22 #[.pointer (some ⟨b, 0, none⟩), .agg (cmdC 8 f l t)] w1 fun e w' => e = .returned (.int .i64 code) ∧ RcPost w1 B b l n ys dd v w') :
    Calls Tryz.prog 11 #[.pointer (some ⟨b, 0, none⟩), .agg (cmdC 8 f l t)] w fun e w' => e = .returned (.int .i64 code) ∧ RcPost w B b l n ys dd v w' := by
  have b1 : Below w.heap.size w (w.alloc (.cells (cmdC 8 f l t) 31)) := (Below.refl _ _).alloc (Nat.le_refl _) _
  have lt := h.lt
  have q35 := h.at35 hl.len
  have c0 := (cmd_at hl.len 8 f t).1
  have H := Lib.hid h; have B1 := Lib.hid b1
  have H1 := Lib.hid (h.below b1)
  have HE : Hid (∀ w, (Op.equal 23 (.agg (idA l)) (.agg (idA l))).run Tryz.prog w = .ok true w) := Lib.hid fun w => by rw [eq_id w hl hl]; simp
  have HC := Lib.hid hC
  clear h b1 hC
  go_enter Tryz.func11, Tryz.ntmps11
  go_wp2_with fail
  refine wp_region_quiet_lit (by kernel_rfl) (by kernel_rfl) ?_
  go_big_quiet_step (fail)
  refine wpQuiet_load 23 rfl _ rfl ⟨_, .agg (idA l), rfl, ?_, ?_⟩
  · rintro w2 ⟨q, rfl⟩
    exact load_id _ w.heap.size 2 _ _ _ hl.len (heap_alloc_new w _) (cmd_id _ _ _)
  quiet_step (fail)
  quiet_step (fail)
  quiet_step (fail)
  refine wpQuiet_load 23 rfl _ rfl ⟨_, .agg (idA l), rfl, ?_, ?_⟩
  · rintro w2 ⟨q, rfl⟩
    obtain ⟨ad, hb⟩ := H1.out
    exact load_id _ b 0 _ _ _ hl.len hb.heap (rcv_id _ _ _ _)
  refine wpQuiet_neq 23 rfl _ _ rfl guard23 ⟨_, _, _, rfl, rfl, HE.out, ?_⟩
  quiet_step (fail)
  refine wpQuiet_nil ?_
  rintro _ ⟨nq, rfl⟩
  obtain ⟨w2, hw2⟩ : ∃ w2, w2 = (w.alloc (.cells (cmdC 8 f l t) 31)).drewN nq := ⟨_, rfl⟩
  have B2 := Lib.hid (below_drewN B1.out nq)
  have HB : Hid (((w.alloc (.cells (cmdC 8 f l t) 31)).drewN nq).heap[w.heap.size]? = some (.cells (cmdC 8 f l t) 31 (0, 0))) := Lib.hid (heap_alloc_new w _)
  rw [← hw2] at B2 HB
  rw [← hw2]
  clear hw2 B1 H1
  have lt2 : w.heap.size < w2.heap.size := lt_of_block HB.out
  have q0 : w2.cell? ⟨w.heap.size, 0, none⟩ = some (.int .i64 8) := (cellB HB.out 0).trans c0
  have B3 : Hid (Below w.heap.size w (w2.alloc (.cells (tabC b) 56))) := Lib.hid (B2.out.alloc B2.out.size _)
  have t7 : (tabC b)[8]? = some (Value.func (Fn.func 22) #[Value.pointer (some ⟨b, 0, none⟩)] #[]) := rfl
  have ST := Lib.hid (store_tab w2 b)
  go_wp2_with ((with_reducible refine wpList_store 56 rfl _ _ rfl ?_); refine ⟨_, _, _, rfl, rfl, ST.out, ?_⟩)
  refine wp_region_still_tail 5 mixed (by kernel_rfl) ?_
  simp only [List.take_succ_cons, List.take_zero, List.drop_succ_cons, List.drop_zero]
  change wpStill _ _ (w2.alloc (.cells (tabC b) 56)).drew (fun a' => wpList _ _ _ _ a' (w2.alloc (.cells (tabC b) 56)).drew) _ _
  have s7 : (w2.alloc (.cells (tabC b) 56)).drew.cell? ⟨w2.heap.size, 8, none⟩ = some (Value.func (Fn.func 22) #[Value.pointer (some ⟨b, 0, none⟩)] #[]) := (cellB (w := (w2.alloc (.cells (tabC b) 56)).drew) (heap_alloc_new w2 _) 8).trans t7
  have s0 : (w2.alloc (.cells (tabC b) 56)).drew.cell? ⟨w.heap.size, 0, none⟩ = some (.int .i64 8) := (cellB (w := (w2.alloc (.cells (tabC b) 56)).drew) (alloc_block HB.out) 0).trans c0
  have HB3 : Hid ((w2.alloc (.cells (tabC b) 56)).drew.heap[w.heap.size]? = some (.cells (cmdC 8 f l t) 31 (0, 0))) := Lib.hid (alloc_block HB.out)
  have B4 := Lib.hid B3.out.drew
  generalize (w2.alloc (.cells (tabC b) 56)).drew = w3 at *
  clear HB B3 ST
  still_step
  still_step
  still_step
  still_step
  refine wpStill_load 31 rfl _ rfl ⟨_, .agg (cmdC 8 f l t), rfl, load_cmd _ w.heap.size _ _ hl.len HB3.out, ?_⟩
  refine wpStill_nil ?_
  have CC := Lib.hid (HC.out w3 B4.out)
  clear HC
  go_wp2_with (go_at_call 22; refine CC.out.mono ?_; rintro e w5 ⟨rfl, h5⟩; have H5 := Lib.hid h5; clear h5)
  go_ret
  exact ⟨rfl, H5.out.after B4.out⟩

end Go.Proofs.YtolhjijnbobphaaGreatDoor
