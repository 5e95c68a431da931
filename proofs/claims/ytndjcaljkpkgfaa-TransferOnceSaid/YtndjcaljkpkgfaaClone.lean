/- Reset and Clone. -/
import Derived.Test.YtndjcaljkpkgfaaSame
namespace Go.Proofs.Ytndjcaljkpkgfaa
open Go.RowKit Go.Maps
set_option linter.unusedVariables false

theorem rcv_set33 {l : List Nat} (h : l.length = 32) (n : Int) (ad ad' v : Value) (d : Bool) : (rcvC l n ad v d).setIfInBounds 33 ad' = rcvC l n ad' v d := by
  unfold rcvC
  apply Array.toList_inj.1
  simp only [Array.toList_setIfInBounds]
  rw [List.set_append_right _ _ (by simp [h])]
  simp [h]
theorem rcv_set34 {l : List Nat} (h : l.length = 32) (n : Int) (ad v v' : Value) (d : Bool) : (rcvC l n ad v d).setIfInBounds 34 v' = rcvC l n ad v' d := by
  unfold rcvC
  apply Array.toList_inj.1
  simp only [Array.toList_setIfInBounds]
  rw [List.set_append_right _ _ (by simp [h])]
  simp [h]

theorem FrB.weaken {b : Nat} {v v' : Value} {w w' : World} (h : FrB b v' w w') (hn : v'.ownBlock = none) : FrB b v w w' := ⟨h.1, h.2, h.3, h.4, fun k hk h1 _ => h.5 k hk h1 (by rw [hn]; simp)⟩

theorem breset_any (w : World) {B b n : Nat} {l xs : List Nat} {d : Bool} {v : Value} (h : Rc w B b l n xs d v) (hl : l.length = 32) :
    Calls Try.prog 31 #[.pointer (some ⟨b, 33, none⟩)] w fun e w' => e = .returned (.tuple #[]) ∧ Rc w' B b l n [] d (.slice none 0 0) ∧ FrB b v w w' := by
  obtain ⟨ad, h⟩ := h
  have c33 := (cellB h.heap 33).trans (rcv_at hl n ad v d).2.1
  have c34 := (cellB h.heap 34).trans (rcv_at hl n ad v d).2.2.1
  have f33 := freeB h.heap 33
  have f34 := freeB h.heap 34
  have s1 := setB h.heap 33 (.pointer none)
  rw [rcv_set33 hl] at s1
  have s2 := setB s1 34 (.slice none 0 0)
  rw [rcv_set34 hl] at s2
  have S2 := Lib.hid s2
  clear s1 s2 h
  go_enter Try.func31, Try.ntmps31
  go_wp2_with fail
  go_end0
  refine ⟨rfl, ⟨.pointer none, S2.out, .inl (rcv_at hl _ _ _ _).2.1, (rcv_at hl _ _ _ _).2.2.1, by simp, .inl ⟨rfl, rfl⟩⟩, rfl, rfl, rfl, by simp [World.setCell], fun k _ h1 _ => (otherB _ _ _ _ _ h1).trans (otherB _ _ _ _ _ h1)⟩

theorem reset_any (w : World) {B b n : Nat} {l xs : List Nat} {d : Bool} {v : Value} (h : Rc w B b l n xs d v) (hl : l.length = 32) :
    Calls Try.prog 18 #[.pointer (some ⟨b, 0, none⟩)] w fun e w' => e = .returned (.tuple #[]) ∧ Rc w' B b l n [] false (.slice none 0 0) ∧ FrB b v w w' := by
  have C1 := Lib.hid (breset_any w h hl)
  clear h
  go_enter Try.func18, Try.ntmps18
  go_wp2_with fail
  refine C1.out.mono ?_
  rintro e w2 ⟨rfl, h2, f2⟩
  have q35 := h2.at35 hl
  have fr35 := h2.free 35
  have H2 := Lib.hid h2; have F2 := Lib.hid f2
  clear h2 f2 C1
  go_wp2_with fail
  go_end0
  have h5 := H2.out.set hl false
  exact ⟨rfl, h5.1, F2.out.trans' (h5.2.weaken rfl)⟩

/-- A receiver is as it was behind a method of another one. -/
theorem Rc.frame {w w' : World} {B b n : Nat} {l xs : List Nat} {d : Bool} {v : Value} {B' b' n' : Nat} {l' xs' : List Nat} {d' : Bool} {v' : Value} (h : Rc w B b l n xs d v) (h' : Rc w B' b' l' n' xs' d' v') (hf : FrB b' v' w w') (hne : b ≠ b')
    (hsep : ∀ k, v.ownBlock = some k → v'.ownBlock ≠ some k) : Rc w' B b l n xs d v := by
  obtain ⟨ad, h⟩ := h
  obtain ⟨ad', h'⟩ := h'
  have n1 := ownF_ne h'.row h.heap (by decide)
  have n2 := ownF_ne h.row h'.heap (by decide)
  refine ⟨ad, hf.block h.heap hne n1, h.addr, h.buf, ?_⟩
  refine ⟨h.row.1, ?_⟩
  rcases h.row.2 with hh | ⟨g, cap, cur, fz, hv, hg, hh, r⟩
  · exact .inl hh
  · have ho : v.ownBlock = some g := by rw [hv]; rfl
    exact .inr ⟨g, cap, cur, fz, hv, hg, hf.block hh (fun e => n2 (by rw [ho, e])) (hsep g ho), r⟩

/-- What Clone leaves. -/
def ClPost (w : World) (B b : Nat) (l : List Nat) (n : Nat) (xs : List Nat) (d : Bool) (v : Value) (w' : World) : Prop :=
  ∃ vc, Rc w' B b l n xs d v ∧ Rc w' B w.heap.size l n xs d vc ∧ (∀ k, vc.ownBlock = some k → w.heap.size ≤ k) ∧ FrB b v w w'
theorem Rc.own_lt {w : World} {B b n : Nat} {l xs : List Nat} {d : Bool} {v : Value} (h : Rc w B b l n xs d v) : ∀ k, v.ownBlock = some k → k < w.heap.size := by
  obtain ⟨ad, h⟩ := h
  intro k hk
  rcases h.row.2 with ⟨rfl, _⟩ | ⟨g, cap, cur, fz, rfl, hg, hh, _⟩
  · simp [Value.ownBlock] at hk
  · simp [Value.ownBlock] at hk
    have := lt_of_block hh
    omega
theorem rc_made (w : World) {l : List Nat} (hl : l.length = 32) (n : Nat) (B : Nat) (d : Bool) : Rc (w.alloc (.cells (rcvC l n (.pointer none) (.slice none 0 0) d) 67)) B w.heap.size l n [] d (.slice none 0 0) :=
  ⟨.pointer none, heap_alloc_new w _, .inl (rcv_at hl _ _ _ _).2.1, (rcv_at hl _ _ _ _).2.2.1, by simp, .inl ⟨rfl, rfl⟩⟩
theorem wpStill_build3 {P : Program} {ops : Array Oper} {rest : List Oper} {o : Oper} {a : Act} {w : World} {Q : Act → Prop} (t : TypeId) (hgd : o.guard = none) {i j k : Nat} (x y z : Operand) (ho : o.op = .build t #[(i, x), (j, y), (k, z)]) (h : ∃ vx vy vz v, a.eval x = vx ∧ a.eval y = vy ∧ a.eval z = vz ∧ (Instr.build t #[(i, vx), (j, vy), (k, vz)]).run P w = .ok v w ∧ wpStill P ops w Q rest (a.put o.dst v)) : wpStill P ops w Q (o :: rest) a := by
  obtain ⟨vx, vy, vz, v, h1, h2, h3, h5, h6⟩ := h
  refine wpStill_step fun K hK => ?_
  rw [if_pos (by simp [Region.wanted, hgd])]
  unfold Oper.still
  rw [exec_build3 ho h1 h2 h3 h5]
  exact ⟨rfl, hK _ h6⟩

set_option maxHeartbeats 1000000 in
theorem clone_any (w : World) {B b n : Nat} {l xs : List Nat} {d : Bool} {v : Value} (h : Rc w B b l n xs d v) (hl : IdOk l) (hn : n ≤ 65536) (hx : xs.length ≤ n) (h256 : ∀ x ∈ xs, x < 256) (hB : B ≤ w.heap.size) :
    Calls Try.prog 15 #[.pointer (some ⟨b, 0, none⟩)] w fun e w' => e = .returned (.pointer (some ⟨w.heap.size, 0, none⟩)) ∧ ClPost w B b l n xs d v w' := by
  have hbs : bs (strN xs) = xs := bs_strN xs h256
  have hsz : (strN xs).size = xs.length := strN_size xs
  have lt := h.lt
  have H := Lib.hid h
  have g32 : w.drew.cell? ⟨b, 32, none⟩ = _ := h.at32 hl.len
  have g35 : w.drew.cell? ⟨b, 35, none⟩ = _ := h.at35 hl.len
  have HD : Hid (Rc w.drew B b l n xs d v) := Lib.hid (h.drewN 1)
  have HBS := Lib.hid hbs; have HSZ := Lib.hid hsz; have H256 := Lib.hid h256
  clear h hbs hsz h256
  go_enter Try.func15, Try.ntmps15
  go_wp2_with fail
  refine wp_region_still_tail 13 mixed (by kernel_rfl) ?_
  simp only [List.take_succ_cons, List.take_zero, List.drop_succ_cons, List.drop_zero]
  change wpStill _ _ w.drew (fun a' => wpList _ _ _ _ a' w.drew) _ _
  have hss : w.drew.heap.size = w.heap.size := rfl
  have FD : Hid (FrB b v w w.drew) := Lib.hid (FrB.refl _ _ _).drew
  generalize w.drew = w1 at *
  still_step
  still_step
  still_step
  refine wpStill_load 23 rfl _ rfl ⟨_, .agg (idA l), rfl, ?_, ?_⟩
  · obtain ⟨ad, hb⟩ := HD.out
    exact load_id _ b 0 _ _ _ hl.len hb.heap (rcv_id _ _ _ _)
  still_step
  still_step
  still_step
  still_step
  still_step
  still_step
  still_step
  still_step
  refine wpStill_build3 67 rfl _ _ _ rfl ⟨_, _, _, _, rfl, rfl, rfl, build_rcv3 _ hl.len n d, ?_⟩
  refine wpStill_nil ?_
  have HSS := Lib.hid hss
  clear hss g32 g35
  go_wp2_with fail
  have M2 : Hid (Rc (w1.alloc (.cells (rcvC l n (.pointer none) (.slice none 0 0) d) 67)) B w1.heap.size l n [] d (.slice none 0 0)) := Lib.hid (rc_made w1 hl.len n B d)
  have R2 : Hid (Rc (w1.alloc (.cells (rcvC l n (.pointer none) (.slice none 0 0) d) 67)) B b l n xs d v) := Lib.hid (HD.out.below ((Below.refl _ _).alloc (Nat.le_refl _) _))
  have F2 : Hid (FrB b v w (w1.alloc (.cells (rcvC l n (.pointer none) (.slice none 0 0) d) 67))) := Lib.hid (FD.out.trans' (FrB.of_below ((Below.refl _ _).alloc (Nat.le_refl _) _)))
  generalize w1.alloc (.cells (rcvC l n (.pointer none) (.slice none 0 0) d) 67) = w2 at *
  obtain ⟨c, hc⟩ : ∃ c, c = w1.heap.size := ⟨_, rfl⟩
  rw [← hc] at M2
  rw [← hc]
  have hcb : c ≠ b := by have := HSS.out; omega
  have hcw : c = w.heap.size := by rw [hc]; exact HSS.out
  have HCW := Lib.hid hcw
  clear hc hcw HSS HD FD
  have M3 : Hid (Rc w2.drew B c l n [] d (.slice none 0 0)) := Lib.hid (M2.out.drewN 1)
  have R3 : Hid (Rc w2.drew B b l n xs d v) := Lib.hid (R2.out.drewN 1)
  have F3 : Hid (FrB b v w w2.drew) := Lib.hid F2.out.drew
  have C1 := Lib.hid (str_any w2.drew R3.out H256.out (by omega))
  have OL := Lib.hid H.out.own_lt
  clear M2 R2 F2
  have WR : Hid (∀ w4, Rc w4 B c l n [] d (.slice none 0 0) → w.heap.size ≤ w4.heap.size → Calls Try.prog 30 #[.pointer (some ⟨c, 33, none⟩), .string (strN xs)] w4 fun e w' => e = .returned (.tuple #[.int .i64 ((strN xs).size : Int), .nilIface]) ∧ RcPost w4 B c l n xs d (.slice none 0 0) w') := Lib.hid fun w4 h4 hs4 => by
    have := write_any w4 h4 hl.len (by omega) (strN xs) (by rw [HSZ.out]; simp; omega)
    rw [List.nil_append, HBS.out] at this
    exact this
  go_region_with (first
    | (go_at_call 29; refine C1.out.mono ?_; rintro e w4 ⟨rfl, r4, f4⟩; have M4 := Lib.hid (M3.out.frame R3.out f4 hcb (fun k hk => by simp [Value.ownBlock] at hk)); have R4 := Lib.hid r4; have F4 := Lib.hid (F3.out.trans' f4); clear r4 f4)
    | (go_at_call 30; refine (WR.out w4 M4.out F4.out.size).mono ?_; rintro e w5 ⟨rfl, v5, r5, hv5, f5⟩; have R5 := Lib.hid r5; have V5 := Lib.hid hv5; have F5 := Lib.hid f5; clear r5 hv5 f5))
  all_goals go_wp2_with fail
  all_goals go_ret
  all_goals
    have s4 : w.heap.size ≤ w4.heap.size := F4.out.size
    have hv5 : ∀ k, v5.ownBlock = some k → w.heap.size ≤ k := fun k hk => by
      rcases V5.out with e | ⟨g, hg, hle⟩
      · rw [e] at hk; simp [Value.ownBlock] at hk
      · rw [hg] at hk; simp at hk; omega
    refine ⟨by rw [HCW.out]; rfl, v5, R4.out.frame M4.out F5.out (fun e => hcb e.symm) (fun k hk => by simp [Value.ownBlock]), by rw [← HCW.out]; exact R5.out, hv5, ?_⟩
    exact ⟨F5.out.os.trans F4.out.os, F5.out.tape.trans F4.out.tape, F5.out.output.trans F4.out.output, Nat.le_trans F4.out.size F5.out.size, fun k hk h1 h2 => (F5.out.other k (by omega) (by rw [HCW.out]; omega) (by simp [Value.ownBlock])).trans (F4.out.other k hk h1 h2)⟩

end Go.Proofs.Ytndjcaljkpkgfaa
