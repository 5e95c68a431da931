/- (*Sender).Say. -/
import Derived.Test.YtolhjijnbobphaaGreatDoorSnd
namespace Go.Proofs.YtolhjijnbobphaaGreatDoor
open Go.RowKit Go.Maps
set_option linter.unusedVariables false
set_option maxRecDepth 100000

/-- What Say leaves. -/
def SnPost (w : World) (b : Nat) (l : List Nat) (t : ByteArray) (c s : Nat) (d : Bool) (w' : World) : Prop :=
  Sn w' b l t c s d ∧ (∀ k, k < w.heap.size → k ≠ b → w'.heap[k]? = w.heap[k]?) ∧ Below b w w'
theorem SnPost.of_below {w w' : World} {b : Nat} {l : List Nat} {t : ByteArray} {c s : Nat} {d : Bool} (h : Sn w b l t c s d) (hb : Below w.heap.size w w') : SnPost w b l t c s d w' :=
  ⟨h.below hb, fun k hk _ => hb.block k hk, hb.mono (Nat.le_of_lt h.lt)⟩
theorem snd_set34 {l : List Nat} (h : l.length = 32) (t : ByteArray) (c s s' : Int) (d : Bool) : (sndC l t c s d).setIfInBounds 34 (.int .i64 s') = sndC l t c s' d := by
  unfold sndC
  apply Array.toList_inj.1
  simp only [Array.toList_setIfInBounds]
  rw [List.set_append_right _ _ (by simp [h])]
  simp [h]
theorem snd_set35 {l : List Nat} (h : l.length = 32) (t : ByteArray) (c s : Int) (d d' : Bool) : (sndC l t c s d).setIfInBounds 35 (.bool d') = sndC l t c s d' := by
  unfold sndC
  apply Array.toList_inj.1
  simp only [Array.toList_setIfInBounds]
  rw [List.set_append_right _ _ (by simp [h])]
  simp [h]
def zid : List Nat := List.replicate 32 0
theorem zid_ok : IdOk zid := ⟨rfl, by decide⟩
def cmdZ : Array Value := cmdC 0 0 zid ⟨#[]⟩

theorem wpList_build0 {P : Program} {ops : Array Oper} {rest : List Oper} {o : Oper} {a : Act} {w : World} {Q : Exit → Act → World → Prop} (t : TypeId) (hgd : o.guard = none) (ho : o.op = .build t #[]) (h : ∃ v, (Instr.build t #[]).run P w = .ok v w ∧ wpList P ops Q rest (a.put o.dst v) w) : wpList P ops Q (o :: rest) a w := by
  obtain ⟨v, h1, h2⟩ := h
  exact wpList_run hgd (exec_build ho (by simpa using h1)) h2
theorem wpStill_build4 {P : Program} {ops : Array Oper} {rest : List Oper} {o : Oper} {a : Act} {w : World} {Q : Act → Prop} (t : TypeId) (hgd : o.guard = none) {i j k m : Nat} (x y z u : Operand) (ho : o.op = .build t #[(i, x), (j, y), (k, z), (m, u)]) (h : ∃ vx vy vz vu v, a.eval x = vx ∧ a.eval y = vy ∧ a.eval z = vz ∧ a.eval u = vu ∧ (Instr.build t #[(i, vx), (j, vy), (k, vz), (m, vu)]).run P w = .ok v w ∧ wpStill P ops w Q rest (a.put o.dst v)) : wpStill P ops w Q (o :: rest) a := by
  obtain ⟨vx, vy, vz, vu, v, h1, h2, h3, h4, h5, h6⟩ := h
  refine wpStill_step fun K hK => ?_
  rw [if_pos (by simp [Region.wanted, hgd])]
  unfold Oper.still
  rw [exec_build4 ho h1 h2 h3 h4 h5]
  exact ⟨rfl, hK _ h6⟩
theorem build_cmd0' (w : World) : (Instr.build 31 #[]).run Tryz.prog w = .ok (.agg cmdZ) w := build_cmd0 w
theorem cmdZ_size : cmdZ.size = 39 := rfl
theorem size34z : (Tryz.prog.info? 31).map (·.size) = some cmdZ.size := by rw [cmdZ_size]; exact size34
theorem one_cmdZ : cmdZ.all (·.oneCell') = true := one_cmd _ _ _ _

set_option maxHeartbeats 400000 in
theorem say_ended (w : World) {b : Nat} {l : List Nat} {t : ByteArray} {c s : Nat} (h : Sn w b l t c s true) (hl : l.length = 32) :
    Calls Tryz.prog 5 #[.pointer (some ⟨b, 0, none⟩)] w fun e w' => e = .returned (.tuple #[.agg cmdZ, .bool false]) ∧ SnPost w b l t c s true w' := by
  have h35 := h.at35 hl
  have lt := h.lt
  have H := Lib.hid h
  clear h
  go_enter Tryz.func5, Tryz.ntmps5
  go_wp2_with (first
    | ((with_reducible refine wpList_build0 31 rfl rfl ?_); refine ⟨_, build_cmd0' _, ?_⟩)
    | ((with_reducible refine wpList_store 31 rfl _ _ rfl ?_); refine ⟨_, _, _, rfl, rfl, store_at w _ rfl 31 _ cmdZ size34z (by rw [cmdZ_size]; rfl) one_cmdZ, ?_⟩))
  exact bodyPost_ret (v := .tuple #[.agg cmdZ, .bool false]) (results_cell_tmp Tryz.results5 _ _ w.heap.size _ _ _ _ _ rfl rfl (heap_alloc_new w _) Tryz.underlying31 rfl size34z) rfl ⟨rfl, SnPost.of_below H.out ((Below.refl _ _).alloc (Nat.le_refl _) _)⟩

/-- The world inside Say: the result's block, the sender, all else as before. -/
structure InSay (w0 : World) (b : Nat) (l : List Nat) (t : ByteArray) (c s : Nat) (d : Bool) (cz : Array Value) (w : World) : Prop where
  res : w.heap[w0.heap.size]? = some (.cells cz 31 (0, 0))
  snd : Sn w b l t c s d
  other : ∀ k, k < w0.heap.size → k ≠ b → w.heap[k]? = w0.heap[k]?
  below : Below b w0 w
theorem InSay.drewN {w0 w : World} {b : Nat} {l : List Nat} {t : ByteArray} {c s : Nat} {d : Bool} {cz : Array Value} (h : InSay w0 b l t c s d cz w) (n : Nat) : InSay w0 b l t c s d cz (w.drewN n) := ⟨h.1, h.2, h.3, below_drewN h.4 n⟩
theorem InSay.drew {w0 w : World} {b : Nat} {l : List Nat} {t : ByteArray} {c s : Nat} {d : Bool} {cz : Array Value} (h : InSay w0 b l t c s d cz w) : InSay w0 b l t c s d cz w.drew := ⟨h.1, h.2, h.3, h.4.drew⟩
theorem InSay.set34 {w0 w : World} {b : Nat} {l : List Nat} {t : ByteArray} {c s : Nat} {d : Bool} {cz : Array Value} (h : InSay w0 b l t c s d cz w) (hl : l.length = 32) (hb : b < w0.heap.size) (s' : Nat) : InSay w0 b l t c s' d cz (w.setCell ⟨b, 34, none⟩ (.int .i64 (s' : Int))) :=
  ⟨(otherB _ _ _ _ _ (by omega)).trans h.1, by unfold Sn; rw [← snd_set34 hl t c s s' d]; exact setB h.2 34 _, fun k hk hne => (otherB _ _ _ _ _ hne).trans (h.3 k hk hne), h.4.setCell (Nat.le_refl _) _⟩
theorem InSay.set35 {w0 w : World} {b : Nat} {l : List Nat} {t : ByteArray} {c s : Nat} {d : Bool} {cz : Array Value} (h : InSay w0 b l t c s d cz w) (hl : l.length = 32) (hb : b < w0.heap.size) (d' : Bool) : InSay w0 b l t c s d' cz (w.setCell ⟨b, 35, none⟩ (.bool d')) :=
  ⟨(otherB _ _ _ _ _ (by omega)).trans h.1, by unfold Sn; rw [← snd_set35 hl t c s d d']; exact setB h.2 35 _, fun k hk hne => (otherB _ _ _ _ _ hne).trans (h.3 k hk hne), h.4.setCell (Nat.le_refl _) _⟩
theorem InSay.row {w0 w : World} {b : Nat} {l : List Nat} {t : ByteArray} {c s : Nat} {d : Bool} {cz : Array Value} (h : InSay w0 b l t c s d cz w) (hb : b < w0.heap.size) (cs : Array Value) : InSay w0 b l t c s d cs (w.setRow w0.heap.size cs) :=
  ⟨setRow_heap w _ _ _ _ _ h.1, (setRow_other w _ _ _ (by omega)).trans h.2, fun k hk hne => (setRow_other w _ _ _ (by omega)).trans (h.3 k hk hne), ⟨h.4.os, h.4.tape, h.4.output, by rw [size_setRow]; exact h.4.size, fun k hk => (setRow_other w _ _ _ (by omega)).trans (h.4.block k hk)⟩⟩
theorem InSay.start (w : World) {b : Nat} {l : List Nat} {t : ByteArray} {c s : Nat} {d : Bool} (h : Sn w b l t c s d) (cz : Array Value) : InSay w b l t c s d cz (w.alloc (.cells cz 31)) :=
  ⟨heap_alloc_new w _, alloc_block h, fun k hk _ => Below.heap_alloc w _ k hk, (Below.refl _ _).alloc (Nat.le_of_lt h.lt) _⟩
theorem InSay.post {w0 w : World} {b : Nat} {l : List Nat} {t : ByteArray} {c s : Nat} {d : Bool} {cz : Array Value} (h : InSay w0 b l t c s d cz w) : SnPost w0 b l t c s d w := ⟨h.2, h.3, h.4⟩

set_option maxHeartbeats 1000000 in
theorem say_last (w : World) {b : Nat} {l : List Nat} {t : ByteArray} {c : Nat} (h : Sn w b l t c t.size false) (hl : IdOk l) (ht : t.size ≤ 65536) :
    Calls Tryz.prog 5 #[.pointer (some ⟨b, 0, none⟩)] w fun e w' => e = .returned (.tuple #[.agg (cmdC 8 0 l ⟨#[]⟩), .bool true]) ∧ SnPost w b l t c t.size true w' := by
  have h35 := h.at35 hl.len
  have h34 := h.at34 hl.len
  have h32 := h.at32 hl.len
  have lt := h.lt
  have H := Lib.hid h
  clear h
  go_enter Tryz.func5, Tryz.ntmps5
  go_wp2_with fail
  go_quiet (fail)
  obtain ⟨cz, hcz⟩ : ∃ cz, cz = zc34 := ⟨_, rfl⟩
  have I1 : Hid (InSay w b l t c t.size false cz ((w.alloc (.cells zc34 31)).drewN nq)) := Lib.hid (by rw [hcz]; exact (InSay.start w H.out zc34).drewN nq)
  have hsz : cz.size = 39 := by rw [hcz]; rfl
  change Exit.then _ _ _ _ ((w.alloc (.cells zc34 31)).drewN nq)
  generalize (w.alloc (.cells zc34 31)).drewN nq = w1 at *
  clear hcz h35 h34 h32
  have h35 := I1.out.snd.at35 hl.len
  have f35 := I1.out.snd.free 35
  have lt1 := I1.out.snd.lt
  have I2 := Lib.hid (I1.out.set35 hl.len lt true)
  go_wp2_with (first
    | ((with_reducible refine wpList_load 23 rfl _ rfl ?_); refine ⟨_, _, rfl, load_id _ b 0 _ _ _ hl.len I2.out.snd (snd_id _ _ _ _), ?_⟩)
    | ((with_reducible refine wpList_build2 31 rfl _ _ rfl ?_); refine ⟨_, _, _, rfl, rfl, build_cmd2 _ hl.len 8, ?_⟩)
    | ((with_reducible refine wpList_store 31 rfl _ _ rfl ?_); refine ⟨_, _, _, rfl, rfl, run_storeVar_row _ _ _ _ _ _ I2.out.res (size34' hl.len) (by rw [cmd_size hl.len, hsz]) (one_cmd _ _ _ _), ?_⟩))
  exact bodyPost_ret (v := .tuple #[.agg (cmdC 8 0 l ⟨#[]⟩), .bool true]) (results_cell_tmp Tryz.results5 _ _ w.heap.size _ _ _ _ _ rfl rfl (I2.out.row lt _).res Tryz.underlying31 rfl (size34' hl.len)) rfl ⟨rfl, (I2.out.row lt _).post⟩

set_option maxHeartbeats 1000000 in
theorem say_data1 (w : World) {b : Nat} {l : List Nat} {t : ByteArray} {c s : Nat} (h : Sn w b l t c s false) (hl : IdOk l) (ht : t.size ≤ 65536) (hs : s < t.size) (hc : c ≤ 4096) (hle : s + c ≤ t.size) (q : Nat) (hq : q = s + c) :
    Calls Tryz.prog 5 #[.pointer (some ⟨b, 0, none⟩)] w fun e w' => e = .returned (.tuple #[.agg (cmdC 7 s l (t.extract s q)), .bool true]) ∧ SnPost w b l t c q false w' := by
  have h35 := h.at35 hl.len
  have h34 := h.at34 hl.len
  have h32 := h.at32 hl.len
  have lt := h.lt
  have H := Lib.hid h
  have e1 : ((s : Int) == (t.size : Int)) = false := by simp; omega
  have HQ := Lib.hid hq
  clear h hq
  go_enter Tryz.func5, Tryz.ntmps5
  go_wp2_with fail
  go_quiet (fail)
  obtain ⟨cz, hcz⟩ : ∃ cz, cz = zc34 := ⟨_, rfl⟩
  have I1 : Hid (InSay w b l t c s false cz ((w.alloc (.cells zc34 31)).drewN nq)) := Lib.hid (by rw [hcz]; exact (InSay.start w H.out zc34).drewN nq)
  have hsz : cz.size = 39 := by rw [hcz]; rfl
  change Exit.then _ _ _ _ ((w.alloc (.cells zc34 31)).drewN nq)
  generalize (w.alloc (.cells zc34 31)).drewN nq = w1 at *
  clear hcz h35 h34 h32
  have h33 := I1.out.snd.at33 hl.len
  have h34 := I1.out.snd.at34 hl.len
  have h32 := I1.out.snd.at32 hl.len
  have f34 := I1.out.snd.free 34
  go_wp2_with fail
  refine wp_region_still_tail 15 mixed (by kernel_rfl) ?_
  simp only [List.take_succ_cons, List.take_zero, List.drop_succ_cons, List.drop_zero]
  change wpStill _ _ w1.drew (fun a' => wpList _ _ _ _ a' w1.drew) _ _
  have I2 := Lib.hid I1.out.drew
  have g33 : w1.drew.cell? ⟨b, 33, none⟩ = _ := h33
  have g34 : w1.drew.cell? ⟨b, 34, none⟩ = _ := h34
  have g32 : w1.drew.cell? ⟨b, 32, none⟩ = _ := h32
  have gf34 : w1.drew.frozen? ⟨b, 34, none⟩ = false := f34
  generalize w1.drew = w2 at *
  clear I1 h33 h34 h32 f34
  have ew : IntKind.i64.wrap ((s : Int) + (c : Int)) = (s : Int) + (c : Int) := IntWalk.i64_in _ (by omega)
  repeat still_step
  refine wpStill_nil ?_
  clear ew
  go_wp2_with fail
  have I3 := Lib.hid (I2.out.set34 hl.len lt q)
  have hq := HQ.out
  rw [show ((s : Int) + (c : Int)) = (q : Int) by omega]
  have i1 : (s : Int) ≤ (q : Int) := by omega
  have i2 : (q : Int) ≤ (t.size : Int) := by omega
  clear hq
  generalize w2.setCell ⟨b, 34, none⟩ (.int .i64 (q : Int)) = w3 at *
  clear I2 g33 g34 g32 gf34
  have h34 := I3.out.snd.at34 hl.len
  have h32 := I3.out.snd.at32 hl.len
  refine wp_region_still_tail 16 mixed (by kernel_rfl) ?_
  simp only [List.take_succ_cons, List.take_zero, List.drop_succ_cons, List.drop_zero]
  change wpStill _ _ w3.drew (fun a' => wpList _ _ _ _ a' w3.drew) _ _
  have I4 := Lib.hid I3.out.drew
  have g34 : w3.drew.cell? ⟨b, 34, none⟩ = _ := h34
  have g32 : w3.drew.cell? ⟨b, 32, none⟩ = _ := h32
  generalize w3.drew = w4 at *
  clear I3 h34 h32
  still_step
  still_step
  still_step
  refine wpStill_load 23 rfl _ rfl ⟨_, .agg (idA l), rfl, load_id _ b 0 _ _ _ hl.len I4.out.snd (snd_id _ _ _ _), ?_⟩
  repeat still_step
  refine wpStill_build4 31 rfl _ _ _ _ rfl ⟨_, _, _, _, _, rfl, rfl, rfl, rfl, build_cmd _ hl.len 7 s (t.extract s q), ?_⟩
  refine wpStill_nil ?_
  go_wp2_with ((with_reducible refine wpList_store 31 rfl _ _ rfl ?_); refine ⟨_, _, _, rfl, rfl, run_storeVar_row _ _ _ _ _ _ I4.out.res (size34' hl.len) (by rw [cmd_size hl.len, hsz]) (one_cmd _ _ _ _), ?_⟩)
  exact bodyPost_ret (v := .tuple #[.agg (cmdC 7 s l (t.extract s q)), .bool true]) (results_cell_tmp Tryz.results5 _ _ w.heap.size _ _ _ _ _ rfl rfl (I4.out.row lt _).res Tryz.underlying31 rfl (size34' hl.len)) rfl ⟨rfl, (I4.out.row lt _).post⟩

set_option maxHeartbeats 1000000 in
theorem say_data2 (w : World) {b : Nat} {l : List Nat} {t : ByteArray} {c s : Nat} (h : Sn w b l t c s false) (hl : IdOk l) (ht : t.size ≤ 65536) (hs : s < t.size) (hc : c ≤ 4096) (hle : t.size < s + c) :
    Calls Tryz.prog 5 #[.pointer (some ⟨b, 0, none⟩)] w fun e w' => e = .returned (.tuple #[.agg (cmdC 7 s l (t.extract s t.size)), .bool true]) ∧ SnPost w b l t c t.size false w' := by
  have h35 := h.at35 hl.len
  have h34 := h.at34 hl.len
  have h32 := h.at32 hl.len
  have lt := h.lt
  have H := Lib.hid h
  have e1 : ((s : Int) == (t.size : Int)) = false := by simp; omega
  clear h
  go_enter Tryz.func5, Tryz.ntmps5
  go_wp2_with fail
  go_quiet (fail)
  obtain ⟨cz, hcz⟩ : ∃ cz, cz = zc34 := ⟨_, rfl⟩
  have I1 : Hid (InSay w b l t c s false cz ((w.alloc (.cells zc34 31)).drewN nq)) := Lib.hid (by rw [hcz]; exact (InSay.start w H.out zc34).drewN nq)
  have hsz : cz.size = 39 := by rw [hcz]; rfl
  change Exit.then _ _ _ _ ((w.alloc (.cells zc34 31)).drewN nq)
  generalize (w.alloc (.cells zc34 31)).drewN nq = w1 at *
  clear hcz h35 h34 h32
  have h33 := I1.out.snd.at33 hl.len
  have h34 := I1.out.snd.at34 hl.len
  have h32 := I1.out.snd.at32 hl.len
  have f34 := I1.out.snd.free 34
  go_wp2_with fail
  refine wp_region_still_tail 15 mixed (by kernel_rfl) ?_
  simp only [List.take_succ_cons, List.take_zero, List.drop_succ_cons, List.drop_zero]
  change wpStill _ _ w1.drew (fun a' => wpList _ _ _ _ a' w1.drew) _ _
  have I2 := Lib.hid I1.out.drew
  have g33 : w1.drew.cell? ⟨b, 33, none⟩ = _ := h33
  have g34 : w1.drew.cell? ⟨b, 34, none⟩ = _ := h34
  have g32 : w1.drew.cell? ⟨b, 32, none⟩ = _ := h32
  have gf34 : w1.drew.frozen? ⟨b, 34, none⟩ = false := f34
  generalize w1.drew = w2 at *
  clear I1 h33 h34 h32 f34
  have ew : IntKind.i64.wrap ((s : Int) + (c : Int)) = (s : Int) + (c : Int) := IntWalk.i64_in _ (by omega)
  repeat still_step
  refine wpStill_nil ?_
  clear ew
  go_wp2_with fail
  have I3 := Lib.hid (I2.out.set34 hl.len lt t.size)
  have i1 : (s : Int) ≤ (t.size : Int) := by omega
  generalize w2.setCell ⟨b, 34, none⟩ (.int .i64 (t.size : Int)) = w3 at *
  clear I2 g33 g34 g32 gf34
  have h34 := I3.out.snd.at34 hl.len
  have h32 := I3.out.snd.at32 hl.len
  refine wp_region_still_tail 16 mixed (by kernel_rfl) ?_
  simp only [List.take_succ_cons, List.take_zero, List.drop_succ_cons, List.drop_zero]
  change wpStill _ _ w3.drew (fun a' => wpList _ _ _ _ a' w3.drew) _ _
  have I4 := Lib.hid I3.out.drew
  have g34 : w3.drew.cell? ⟨b, 34, none⟩ = _ := h34
  have g32 : w3.drew.cell? ⟨b, 32, none⟩ = _ := h32
  generalize w3.drew = w4 at *
  clear I3 h34 h32
  still_step
  still_step
  still_step
  refine wpStill_load 23 rfl _ rfl ⟨_, .agg (idA l), rfl, load_id _ b 0 _ _ _ hl.len I4.out.snd (snd_id _ _ _ _), ?_⟩
  repeat still_step
  refine wpStill_build4 31 rfl _ _ _ _ rfl ⟨_, _, _, _, _, rfl, rfl, rfl, rfl, build_cmd _ hl.len 7 s (t.extract s t.size), ?_⟩
  refine wpStill_nil ?_
  go_wp2_with ((with_reducible refine wpList_store 31 rfl _ _ rfl ?_); refine ⟨_, _, _, rfl, rfl, run_storeVar_row _ _ _ _ _ _ I4.out.res (size34' hl.len) (by rw [cmd_size hl.len, hsz]) (one_cmd _ _ _ _), ?_⟩)
  exact bodyPost_ret (v := .tuple #[.agg (cmdC 7 s l (t.extract s t.size)), .bool true]) (results_cell_tmp Tryz.results5 _ _ w.heap.size _ _ _ _ _ rfl rfl (I4.out.row lt _).res Tryz.underlying31 rfl (size34' hl.len)) rfl ⟨rfl, (I4.out.row lt _).post⟩

theorem say_data (w : World) {b : Nat} {l : List Nat} {t : ByteArray} {c s : Nat} (h : Sn w b l t c s false) (hl : IdOk l) (ht : t.size ≤ 65536) (hs : s < t.size) (hc : c ≤ 4096) :
    Calls Tryz.prog 5 #[.pointer (some ⟨b, 0, none⟩)] w fun e w' => e = .returned (.tuple #[.agg (cmdC 7 s l (t.extract s (min (s + c) t.size))), .bool true]) ∧ SnPost w b l t c (min (s + c) t.size) false w' := by
  by_cases hle : s + c ≤ t.size
  · rw [Nat.min_eq_left hle]; exact say_data1 w h hl ht hs hc hle (s + c) rfl
  · rw [Nat.min_eq_right (by omega)]; exact say_data2 w h hl ht hs hc (by omega)

end Go.Proofs.YtolhjijnbobphaaGreatDoor
