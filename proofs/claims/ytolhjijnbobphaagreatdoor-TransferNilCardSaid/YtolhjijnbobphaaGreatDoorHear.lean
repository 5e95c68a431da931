/- (*Receiver).data, done, Hear. -/
import Derived.Test.YtolhjijnbobphaaGreatDoorRcvB
namespace Go.Proofs.YtolhjijnbobphaaGreatDoor
open Go.RowKit Go.Maps
set_option linter.unusedVariables false
set_option maxRecDepth 100000

theorem write_any (w : World) {B b n : Nat} {l xs : List Nat} {d : Bool} {v : Value} (h : Rc w B b l n xs d v) (hl : l.length = 32) (hBw : B ≤ w.heap.size) (s : ByteArray) (hlen : xs.length + s.size ≤ 140737488355328) :
    Calls Tryz.prog 28 #[.pointer (some ⟨b, 33, none⟩), .string s] w fun e w' => e = .returned (.tuple #[.int .i64 (s.size : Int), .nilIface]) ∧ RcPost w B b l n (xs ++ bs s) d v w' := by
  obtain ⟨ad, h⟩ := h
  refine (writeString_any w B b 33 _ _ v xs s h (by decide) hBw (by rw [rcv_size hl]; kernel_rfl) hlen).mono fun e w' ⟨h1, h2⟩ => ⟨h1, ?_⟩
  obtain ⟨cs', v', hb, hs, hj, hv, hf⟩ := h2
  obtain ⟨ad', rfl⟩ := rcv_of hl hs hj hb.buf
  exact ⟨v', ⟨ad', hb⟩, hv, hf⟩

theorem RcPost.after {w w3 w' : World} {B b n : Nat} {l xs : List Nat} {d : Bool} {v : Value} (hp : RcPost w3 B b l n xs d v w') (hb : Below w.heap.size w w3) : RcPost w B b l n xs d v w' := by
  obtain ⟨v', h1, h2, h3⟩ := hp
  refine ⟨v', h1, ?_, (FrB.of_below (b := b) (v := v) hb).trans h3 (.inl rfl)⟩
  rcases h2 with e | ⟨g, hg, hle⟩
  · exact .inl e
  · exact .inr ⟨g, hg, Nat.le_trans hb.size hle⟩
theorem rcv_set {l : List Nat} (h : l.length = 32) (n : Int) (ad v : Value) (d d' : Bool) : (rcvC l n ad v d).setIfInBounds 35 (.bool d') = rcvC l n ad v d' := by
  unfold rcvC
  apply Array.toList_inj.1
  simp only [Array.toList_setIfInBounds]
  rw [List.set_append_right _ _ (by simp [h])]
  simp [h]
theorem Rc.set {w : World} {B b n : Nat} {l xs : List Nat} {d : Bool} {v : Value} (h : Rc w B b l n xs d v) (hl : l.length = 32) (d' : Bool) : Rc (w.setCell ⟨b, 35, none⟩ (.bool d')) B b l n xs d' v ∧ FrB b v w (w.setCell ⟨b, 35, none⟩ (.bool d')) := by
  obtain ⟨ad, h⟩ := h
  refine ⟨⟨ad, ?_, ?_, ?_, ownF_set h.row (ownF_ne h.row h.heap (by decide)) _ _⟩, rfl, rfl, rfl, by simp [World.setCell], fun k _ h1 _ => otherB _ _ _ _ _ h1⟩
  · rw [← rcv_set hl]; exact setB h.heap 35 _
  · have := h.addr; rw [(rcv_at hl _ _ _ _).2.1] at this ⊢; exact this
  · exact (rcv_at hl _ _ _ _).2.2.1

/-- What the length is in every world behind draws. -/
theorem len_q (w : World) {B b n : Nat} {l xs : List Nat} {d : Bool} {v : Value} (h : Rc w B b l n xs d v) {k : Nat} (hk : k = xs.length) (q : Nat) : Calls Tryz.prog 23 #[.pointer (some ⟨b, 33, none⟩)] (w.drewN q) fun e w' => e = .returned (.int .i64 (k : Int)) ∧ w' = w.drewN q := by
  rw [hk]; exact len_any _ (h.drewN q)

set_option maxHeartbeats 400000 in
theorem data_seq (w : World) {B b n : Nat} {l xs : List Nat} {v : Value} (h : Rc w B b l n xs false v) {m : List Nat} (hm : m.length = 32) (vb f : Int) (t : ByteArray) (hne : f ≠ (xs.length : Int)) :
    Calls Tryz.prog 21 #[.pointer (some ⟨b, 0, none⟩), .agg (cmdC vb f m t)] w fun e w' => e = .returned (.int .i64 30) ∧ RcPost w B b l n xs false v w' := by
  have b1 : Below w.heap.size w (w.alloc (.cells (cmdC vb f m t) 31)) := (Below.refl _ _).alloc (Nat.le_refl _) _
  have h1 := h.below b1
  have c35 := (cmd_at hm vb f t).2.1
  have lt := h.lt
  have H := Lib.hid h; have B1 := Lib.hid b1
  obtain ⟨k, hk⟩ : ∃ k, k = xs.length := ⟨_, rfl⟩
  rw [← hk] at hne
  have e1 : (f == (k : Int)) = false := by simpa using hne
  have e2 : (f != (k : Int)) = true := by simpa using hne
  have LN := Lib.hid (len_q _ h1 hk)
  clear h h1 b1 hne hk
  go_enter Tryz.func21, Tryz.ntmps21
  go_wp2_with fail
  go_quiet ((go_at_call 23; exact Calls.quiet_of_same (LN.out _)))
  go_wp2_with fail
  go_ret
  exact ⟨rfl, RcPost.of_below H.out (below_drewN B1.out nq)⟩

set_option maxHeartbeats 400000 in
theorem data_long (w : World) {B b n : Nat} {l xs : List Nat} {v : Value} (h : Rc w B b l n xs false v) (hl : l.length = 32) (hn : n ≤ 65536) {m : List Nat} (hm : m.length = 32) (vb : Int) (t : ByteArray) (hx : xs.length ≤ n) (hlong : n - xs.length < t.size) (ht : t.size ≤ maxLen) :
    Calls Tryz.prog 21 #[.pointer (some ⟨b, 0, none⟩), .agg (cmdC vb (xs.length : Int) m t)] w fun e w' => e = .returned (.int .i64 5) ∧ RcPost w B b l n xs false v w' := by
  obtain ⟨k, hk⟩ : ∃ k, k = xs.length := ⟨_, rfl⟩
  rw [← hk] at hx hlong ⊢
  have b1 : Below w.heap.size w (w.alloc (.cells (cmdC vb k m t) 31)) := (Below.refl _ _).alloc (Nat.le_refl _) _
  have h1 := h.below b1
  have c35 := (cmd_at hm vb k t).2.1
  have c38 := (cmd_at hm vb k t).2.2
  have lt := h.lt
  have H := Lib.hid h; have H1 := Lib.hid h1; have B1 := Lib.hid b1; have HK := Lib.hid hk
  have LN := Lib.hid (len_q _ h1 hk)
  unfold maxLen at ht
  clear h h1 b1 hk
  go_enter Tryz.func21, Tryz.ntmps21
  go_wp2_with fail
  go_quiet ((go_at_call 23; exact Calls.quiet_of_same (LN.out _)))
  go_wp2_with fail
  obtain ⟨w2, hw2⟩ : ∃ w2, w2 = (w.alloc (.cells (cmdC vb k m t) 31)).drewN nq := ⟨_, rfl⟩
  have RC2 := Lib.hid (H1.out.drewN nq)
  have B2 := Lib.hid (below_drewN B1.out nq)
  have q38 : ((w.alloc (.cells (cmdC vb k m t) 31)).drewN nq).cell? ⟨w.heap.size, 38, none⟩ = some (.string t) := (cellB (w := (w.alloc (.cells (cmdC vb k m t) 31)).drewN nq) (heap_alloc_new w _) 38).trans c38
  rw [← hw2] at RC2 B2 q38
  rw [← hw2]
  clear hw2 H1 B1 LN
  have q32 := RC2.out.at32 hl
  have LN2 := Lib.hid (len_q _ RC2.out HK.out)
  clear c35 c38
  go_quiet ((go_at_call 23; exact Calls.quiet_of_same (LN2.out _)))
  go_wp2_with fail
  go_ret
  exact ⟨rfl, RcPost.of_below H.out (below_drewN B2.out nq)⟩

set_option maxHeartbeats 400000 in
theorem data_ok (w : World) {B b n : Nat} {l xs : List Nat} {v : Value} (h : Rc w B b l n xs false v) (hl : l.length = 32) (hn : n ≤ 65536) {m : List Nat} (hm : m.length = 32) (vb : Int) (t : ByteArray) (hx : xs.length ≤ n) (hfit : t.size ≤ n - xs.length) (hBw : B ≤ w.heap.size) :
    Calls Tryz.prog 21 #[.pointer (some ⟨b, 0, none⟩), .agg (cmdC vb (xs.length : Int) m t)] w fun e w' => e = .returned (.int .i64 0) ∧ RcPost w B b l n (xs ++ bs t) false v w' := by
  obtain ⟨k, hk⟩ : ∃ k, k = xs.length := ⟨_, rfl⟩
  rw [← hk] at hx hfit ⊢
  have b1 : Below w.heap.size w (w.alloc (.cells (cmdC vb k m t) 31)) := (Below.refl _ _).alloc (Nat.le_refl _) _
  have h1 := h.below b1
  have c35 := (cmd_at hm vb k t).2.1
  have c38 := (cmd_at hm vb k t).2.2
  have lt := h.lt
  have H := Lib.hid h; have H1 := Lib.hid h1; have B1 := Lib.hid b1; have HK := Lib.hid hk
  have LN := Lib.hid (len_q _ h1 hk)
  clear h h1 b1 hk
  go_enter Tryz.func21, Tryz.ntmps21
  go_wp2_with fail
  go_quiet ((go_at_call 23; exact Calls.quiet_of_same (LN.out _)))
  go_wp2_with fail
  obtain ⟨w2, hw2⟩ : ∃ w2, w2 = (w.alloc (.cells (cmdC vb k m t) 31)).drewN nq := ⟨_, rfl⟩
  have RC2 := Lib.hid (H1.out.drewN nq)
  have B2 := Lib.hid (below_drewN B1.out nq)
  have q38 : ((w.alloc (.cells (cmdC vb k m t) 31)).drewN nq).cell? ⟨w.heap.size, 38, none⟩ = some (.string t) := (cellB (w := (w.alloc (.cells (cmdC vb k m t) 31)).drewN nq) (heap_alloc_new w _) 38).trans c38
  rw [← hw2] at RC2 B2 q38
  rw [← hw2]
  clear hw2 H1 B1 LN
  have q32 := RC2.out.at32 hl
  have LN2 := Lib.hid (len_q _ RC2.out HK.out)
  clear c35 c38
  go_quiet ((go_at_call 23; exact Calls.quiet_of_same (LN2.out _)))
  go_wp2_with fail
  obtain ⟨w3, hw3⟩ : ∃ w3, w3 = w2.drewN nq := ⟨_, rfl⟩
  have RC3 := Lib.hid (RC2.out.drewN nq)
  have B3 := Lib.hid (below_drewN B2.out nq)
  have r38 : (w2.drewN nq).cell? ⟨w.heap.size, 38, none⟩ = some (.string t) := q38
  rw [← hw3] at RC3 B3 r38
  rw [← hw3]
  clear hw3 B2 LN2 q38 q32
  have s3 := B3.out.size
  have WR := Lib.hid (write_any w3.drew (Rc.drewN RC3.out 1) hl (Nat.le_trans hBw s3) t (by rw [← HK.out]; omega))
  go_region_with (go_at_call 28; refine WR.out.mono ?_; rintro e w4 ⟨rfl, h4⟩; have H4 := Lib.hid h4; clear h4)
  all_goals go_wp2_with fail
  all_goals go_ret
  all_goals exact ⟨rfl, H4.out.after B3.out.drew⟩

set_option maxHeartbeats 400000 in
theorem done_short (w : World) {B b n : Nat} {l xs : List Nat} {v : Value} (h : Rc w B b l n xs false v) (hl : l.length = 32) (hn : n ≤ 65536) (vb f : Int) (m : List Nat) (t : ByteArray) (hx : xs.length < n) :
    Calls Tryz.prog 22 #[.pointer (some ⟨b, 0, none⟩), .agg (cmdC vb f m t)] w fun e w' => e = .returned (.int .i64 4) ∧ RcPost w B b l n xs false v w' := by
  obtain ⟨k, hk⟩ : ∃ k, k = xs.length := ⟨_, rfl⟩
  rw [← hk] at hx
  have b1 : Below w.heap.size w (w.alloc (.cells (cmdC vb f m t) 31)) := (Below.refl _ _).alloc (Nat.le_refl _) _
  have h1 := h.below b1
  have lt := h.lt
  have q32 := h.at32 hl
  have H := Lib.hid h; have B1 := Lib.hid b1
  have LN := Lib.hid (len_q _ h1 hk)
  clear h h1 b1 hk
  go_enter Tryz.func22, Tryz.ntmps22
  go_wp2_with fail
  go_quiet ((go_at_call 23; exact Calls.quiet_of_same (LN.out _)))
  go_wp2_with fail
  go_ret
  exact ⟨rfl, RcPost.of_below H.out (below_drewN B1.out nq)⟩

set_option maxHeartbeats 400000 in
theorem done_ok (w : World) {B b n : Nat} {l xs : List Nat} {v : Value} (h : Rc w B b l n xs false v) (hl : l.length = 32) (hn : n ≤ 65536) (vb f : Int) (m : List Nat) (t : ByteArray) (hx : xs.length = n) :
    Calls Tryz.prog 22 #[.pointer (some ⟨b, 0, none⟩), .agg (cmdC vb f m t)] w fun e w' => e = .returned (.int .i64 0) ∧ RcPost w B b l n xs true v w' := by
  have b1 : Below w.heap.size w (w.alloc (.cells (cmdC vb f m t) 31)) := (Below.refl _ _).alloc (Nat.le_refl _) _
  have h1 := h.below b1
  have lt := h.lt
  have q32 := h.at32 hl
  have q35 := h.at35 hl
  have f35 := h.free 35
  have H1 := Lib.hid h1; have B1 := Lib.hid b1
  have LN := Lib.hid (len_q _ h1 hx.symm)
  clear h h1 b1 hx
  go_enter Tryz.func22, Tryz.ntmps22
  go_wp2_with fail
  go_quiet ((go_at_call 23; exact Calls.quiet_of_same (LN.out _)))
  go_wp2_with fail
  go_ret
  have h5 := (H1.out.drewN nq).set hl true
  exact ⟨rfl, RcPost.after (w3 := (w.alloc (.cells (cmdC vb f m t) 31)).drewN nq) ⟨v, h5.1, .inl rfl, h5.2⟩ (below_drewN B1.out nq)⟩

end Go.Proofs.YtolhjijnbobphaaGreatDoor
