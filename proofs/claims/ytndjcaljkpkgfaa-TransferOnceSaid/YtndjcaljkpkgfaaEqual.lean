/- (*Receiver).Equal. -/
import Derived.Test.YtndjcaljkpkgfaaClone
namespace Go.Proofs.Ytndjcaljkpkgfaa
open Go.RowKit Go.Maps
set_option linter.unusedVariables false

/-- What Equal leaves of other blocks. -/
structure Fr2 (b b' : Nat) (v v' : Value) (w w' : World) : Prop where
  os : w'.os = w.os
  tape : w'.tape = w.tape
  output : w'.output = w.output
  size : w.heap.size ≤ w'.heap.size
  other : ∀ k, k < w.heap.size → k ≠ b → k ≠ b' → v.ownBlock ≠ some k → v'.ownBlock ≠ some k → w'.heap[k]? = w.heap[k]?
/-- The worlds of the region: both receivers stand. -/
structure EqC (w0 : World) (B b : Nat) (l : List Nat) (n : Nat) (xs : List Nat) (d : Bool) (v : Value) (b' n' : Nat) (xs' : List Nat) (d' : Bool) (v' : Value) (w : World) : Prop where
  one : Rc w B b l n xs d v
  two : Rc w B b' l n' xs' d' v'
  fr : Fr2 b b' v v' w0 w
/-- Two receivers that do not meet. -/
structure Apart (b b' : Nat) (v v' : Value) : Prop where
  ne : b ≠ b'
  sep : ∀ k, v.ownBlock = some k → v'.ownBlock ≠ some k
theorem EqC.str1 {w0 w w' : World} {B b : Nat} {l : List Nat} {n : Nat} {xs : List Nat} {d : Bool} {v : Value} {b' n' : Nat} {xs' : List Nat} {d' : Bool} {v' : Value} (h : EqC w0 B b l n xs d v b' n' xs' d' v' w) (ha : Apart b b' v v') (h1 : Rc w' B b l n xs d v) (hf : FrB b v w w') : EqC w0 B b l n xs d v b' n' xs' d' v' w' :=
  ⟨h1, h.two.frame h.one hf (fun e => ha.ne e.symm) (fun k hk e => ha.sep k e hk), hf.os.trans h.fr.os, hf.tape.trans h.fr.tape, hf.output.trans h.fr.output, Nat.le_trans h.fr.size hf.size, fun k hk h1 h2 h3 h4 => (hf.other k (Nat.lt_of_lt_of_le hk h.fr.size) h1 h3).trans (h.fr.other k hk h1 h2 h3 h4)⟩
theorem EqC.str2 {w0 w w' : World} {B b : Nat} {l : List Nat} {n : Nat} {xs : List Nat} {d : Bool} {v : Value} {b' n' : Nat} {xs' : List Nat} {d' : Bool} {v' : Value} (h : EqC w0 B b l n xs d v b' n' xs' d' v' w) (ha : Apart b b' v v') (h1 : Rc w' B b' l n' xs' d' v') (hf : FrB b' v' w w') : EqC w0 B b l n xs d v b' n' xs' d' v' w' :=
  ⟨h.one.frame h.two hf ha.ne ha.sep, h1, hf.os.trans h.fr.os, hf.tape.trans h.fr.tape, hf.output.trans h.fr.output, Nat.le_trans h.fr.size hf.size, fun k hk h1 h2 h3 h4 => (hf.other k (Nat.lt_of_lt_of_le hk h.fr.size) h2 h4).trans (h.fr.other k hk h1 h2 h3 h4)⟩
theorem Rc.load {w : World} {B b n : Nat} {l xs : List Nat} {d : Bool} {v : Value} (h : Rc w B b l n xs d v) (hl : l.length = 32) : (loadVar 23 ⟨b, 0, none⟩).run Try.prog w = .ok (.agg (idA l)) w := by
  obtain ⟨ad, hb⟩ := h
  exact load_id _ b 0 _ _ _ hl hb.heap (rcv_id _ _ _ _)
theorem str_beq {xs ys : List Nat} (hx : ∀ x ∈ xs, x < 256) (hy : ∀ x ∈ ys, x < 256) : ((strN xs).toList == (strN ys).toList) = decide (xs = ys) := by
  rw [Bool.eq_iff_iff, decide_eq_true_iff, beq_iff_eq, ByteArray.toList_eq, ByteArray.toList_eq]
  constructor
  · intro h
    exact strN_inj hx hy (ByteArray.ext (Array.toList_inj.1 h))
  · intro h; rw [h]

set_option maxHeartbeats 4000000 in
theorem equal_text1 (w : World) {B b : Nat} {l : List Nat} {n : Nat} {xs : List Nat} {v : Value} {b' : Nat} {xs' : List Nat} {v' : Value} (h : Rc w B b l n xs true v) (h' : Rc w B b' l n xs' true v') (ha : Apart b b' v v') (hl : IdOk l) (hx : ∀ x ∈ xs, x < 256) (hx' : ∀ x ∈ xs', x < 256) (hlx : xs.length ≤ 65536) (hlx' : xs'.length ≤ 65536)  :
    Calls Try.prog 16 #[.pointer (some ⟨b, 0, none⟩), .pointer (some ⟨b', 0, none⟩)] w fun e w' => e = .returned (.bool (decide (xs = xs'))) ∧ EqC w B b l n xs true v b' n xs' true v' w' := by
  have C0 : Hid (EqC w B b l n xs true v b' n xs' true v' w.drew) := Lib.hid ⟨h.drewN 1, h'.drewN 1, rfl, rfl, rfl, Nat.le_refl _, fun _ _ _ _ _ _ => rfl⟩
  have SB := Lib.hid (str_beq hx hx')
  have HX := Lib.hid hx; have HX' := Lib.hid hx'
  clear h h' hx hx'
  go_enter Try.func16, Try.ntmps16
  go_wp2_with fail
  refine wp_region_quiet (C := EqC w B b l n xs true v b' n xs' true v') mixed (by kernel_rfl) C0.out ?_
  clear C0
  refine BigFrame.wpQuiet_want (by kernel_rfl) (fun K hK => quiet_run (v := .pointer (some ⟨b, 0, none⟩)) (fun w' hw' => ?_) ?_)
  · go_simp
  go_simp; refine hK _ ?_; clear hK K
  refine BigFrame.wpQuiet_want (by kernel_rfl) (fun K hK => quiet_run (v := .pointer (some ⟨b, 0, none⟩)) (fun w' hw' => ?_) ?_)
  · go_simp
  go_simp; refine hK _ ?_; clear hK K
  refine BigFrame.wpQuiet_want (by kernel_rfl) (fun K hK => quiet_run (v := .pointer (some ⟨b, 0, none⟩)) (fun w' hw' => ?_) ?_)
  · go_simp
  go_simp; refine hK _ ?_; clear hK K
  refine BigFrame.wpQuiet_want (by kernel_rfl) (fun K hK => quiet_run (v := .agg (idA l)) (fun w' hw' => ?_) ?_)
  · exact exec_load rfl rfl (hw'.one.load hl.len)
  go_simp; refine hK _ ?_; clear hK K
  refine BigFrame.wpQuiet_want (by kernel_rfl) (fun K hK => quiet_run (v := .pointer (some ⟨b', 0, none⟩)) (fun w' hw' => ?_) ?_)
  · go_simp
  go_simp; refine hK _ ?_; clear hK K
  refine BigFrame.wpQuiet_want (by kernel_rfl) (fun K hK => quiet_run (v := .pointer (some ⟨b', 0, none⟩)) (fun w' hw' => ?_) ?_)
  · go_simp
  go_simp; refine hK _ ?_; clear hK K
  refine BigFrame.wpQuiet_want (by kernel_rfl) (fun K hK => quiet_run (v := .pointer (some ⟨b', 0, none⟩)) (fun w' hw' => ?_) ?_)
  · go_simp
  go_simp; refine hK _ ?_; clear hK K
  refine BigFrame.wpQuiet_want (by kernel_rfl) (fun K hK => quiet_run (v := .agg (idA l)) (fun w' hw' => ?_) ?_)
  · exact exec_load rfl rfl (hw'.two.load hl.len)
  go_simp; refine hK _ ?_; clear hK K
  refine BigFrame.wpQuiet_want (by kernel_rfl) (fun K hK => quiet_run (v := .bool true) (fun w' hw' => ?_) ?_)
  · exact exec_eql rfl rfl rfl guard23 (by rw [eq_id w' hl hl]; simp)
  go_simp; refine hK _ ?_; clear hK K
  refine BigFrame.wpQuiet_want (by kernel_rfl) (fun K hK => quiet_run (v := .bool true) (fun w' hw' => ?_) ?_)
  · go_simp
  go_simp; refine hK _ ?_; clear hK K
  refine BigFrame.wpQuiet_want (by kernel_rfl) (fun K hK => quiet_run (v := .pointer (some ⟨b, 0, none⟩)) (fun w' hw' => ?_) ?_)
  · go_simp
  go_simp; refine hK _ ?_; clear hK K
  refine BigFrame.wpQuiet_want (by kernel_rfl) (fun K hK => quiet_run (v := .pointer (some ⟨b, 0, none⟩)) (fun w' hw' => ?_) ?_)
  · go_simp
  go_simp; refine hK _ ?_; clear hK K
  refine BigFrame.wpQuiet_want (by kernel_rfl) (fun K hK => quiet_run (v := .pointer (some ⟨b, 32, none⟩)) (fun w' hw' => ?_) ?_)
  · go_simp
  go_simp; refine hK _ ?_; clear hK K
  refine BigFrame.wpQuiet_want (by kernel_rfl) (fun K hK => quiet_run (v := .int .i64 (n : Int)) (fun w' hw' => ?_) ?_)
  · (have c := hw'.one.at32 hl.len; go_simp)
  go_simp; refine hK _ ?_; clear hK K
  refine BigFrame.wpQuiet_want (by kernel_rfl) (fun K hK => quiet_run (v := .pointer (some ⟨b', 0, none⟩)) (fun w' hw' => ?_) ?_)
  · go_simp
  go_simp; refine hK _ ?_; clear hK K
  refine BigFrame.wpQuiet_want (by kernel_rfl) (fun K hK => quiet_run (v := .pointer (some ⟨b', 0, none⟩)) (fun w' hw' => ?_) ?_)
  · go_simp
  go_simp; refine hK _ ?_; clear hK K
  refine BigFrame.wpQuiet_want (by kernel_rfl) (fun K hK => quiet_run (v := .pointer (some ⟨b', 32, none⟩)) (fun w' hw' => ?_) ?_)
  · go_simp
  go_simp; refine hK _ ?_; clear hK K
  refine BigFrame.wpQuiet_want (by kernel_rfl) (fun K hK => quiet_run (v := .int .i64 (n : Int)) (fun w' hw' => ?_) ?_)
  · (have c := hw'.two.at32 hl.len; go_simp)
  go_simp; refine hK _ ?_; clear hK K
  refine BigFrame.wpQuiet_want (by kernel_rfl) (fun K hK => quiet_run (v := .bool true) (fun w' hw' => ?_) ?_)
  · go_simp
  go_simp; refine hK _ ?_; clear hK K
  refine BigFrame.wpQuiet_want (by kernel_rfl) (fun K hK => quiet_run (v := .bool true) (fun w' hw' => ?_) ?_)
  · go_simp
  go_simp; refine hK _ ?_; clear hK K
  refine BigFrame.wpQuiet_want (by kernel_rfl) (fun K hK => quiet_run (v := .bool true) (fun w' hw' => ?_) ?_)
  · go_simp
  go_simp; refine hK _ ?_; clear hK K
  refine BigFrame.wpQuiet_want (by kernel_rfl) (fun K hK => quiet_run (v := .pointer (some ⟨b, 0, none⟩)) (fun w' hw' => ?_) ?_)
  · go_simp
  go_simp; refine hK _ ?_; clear hK K
  refine BigFrame.wpQuiet_want (by kernel_rfl) (fun K hK => quiet_run (v := .pointer (some ⟨b, 0, none⟩)) (fun w' hw' => ?_) ?_)
  · go_simp
  go_simp; refine hK _ ?_; clear hK K
  refine BigFrame.wpQuiet_want (by kernel_rfl) (fun K hK => quiet_run (v := .pointer (some ⟨b, 35, none⟩)) (fun w' hw' => ?_) ?_)
  · go_simp
  go_simp; refine hK _ ?_; clear hK K
  refine BigFrame.wpQuiet_want (by kernel_rfl) (fun K hK => quiet_run (v := .bool true) (fun w' hw' => ?_) ?_)
  · (have c := hw'.one.at35 hl.len; go_simp)
  go_simp; refine hK _ ?_; clear hK K
  refine BigFrame.wpQuiet_want (by kernel_rfl) (fun K hK => quiet_run (v := .pointer (some ⟨b', 0, none⟩)) (fun w' hw' => ?_) ?_)
  · go_simp
  go_simp; refine hK _ ?_; clear hK K
  refine BigFrame.wpQuiet_want (by kernel_rfl) (fun K hK => quiet_run (v := .pointer (some ⟨b', 0, none⟩)) (fun w' hw' => ?_) ?_)
  · go_simp
  go_simp; refine hK _ ?_; clear hK K
  refine BigFrame.wpQuiet_want (by kernel_rfl) (fun K hK => quiet_run (v := .pointer (some ⟨b', 35, none⟩)) (fun w' hw' => ?_) ?_)
  · go_simp
  go_simp; refine hK _ ?_; clear hK K
  refine BigFrame.wpQuiet_want (by kernel_rfl) (fun K hK => quiet_run (v := .bool true) (fun w' hw' => ?_) ?_)
  · (have c := hw'.two.at35 hl.len; go_simp)
  go_simp; refine hK _ ?_; clear hK K
  refine BigFrame.wpQuiet_want (by kernel_rfl) (fun K hK => quiet_run (v := .bool true) (fun w' hw' => ?_) ?_)
  · go_simp
  go_simp; refine hK _ ?_; clear hK K
  refine BigFrame.wpQuiet_want (by kernel_rfl) (fun K hK => quiet_run (v := .bool true) (fun w' hw' => ?_) ?_)
  · go_simp
  go_simp; refine hK _ ?_; clear hK K
  refine BigFrame.wpQuiet_want (by kernel_rfl) (fun K hK => quiet_run (v := .bool true) (fun w' hw' => ?_) ?_)
  · go_simp
  go_simp; refine hK _ ?_; clear hK K
  refine BigFrame.wpQuiet_want (by kernel_rfl) (fun K hK => quiet_run (v := .pointer (some ⟨b, 0, none⟩)) (fun w' hw' => ?_) ?_)
  · go_simp
  go_simp; refine hK _ ?_; clear hK K
  refine BigFrame.wpQuiet_want (by kernel_rfl) (fun K hK => quiet_run (v := .pointer (some ⟨b, 0, none⟩)) (fun w' hw' => ?_) ?_)
  · go_simp
  go_simp; refine hK _ ?_; clear hK K
  refine BigFrame.wpQuiet_want (by kernel_rfl) (fun K hK => quiet_run (v := .pointer (some ⟨b, 33, none⟩)) (fun w' hw' => ?_) ?_)
  · go_simp
  go_simp; refine hK _ ?_; clear hK K
  refine BigFrame.wpQuiet_want (by kernel_rfl) (fun K hK => ⟨.string (strN xs), fun w' hw' => ?_, ?_⟩)
  · unfold Oper.quietAt
    go_simp
    exact (str_any w' hw'.one HX.out (by omega)).mono fun e w2 ⟨h1, h2, h3⟩ => ⟨h1, hw'.str1 ha h2 h3⟩
  go_simp; refine hK _ ?_; clear hK K
  refine BigFrame.wpQuiet_want (by kernel_rfl) (fun K hK => quiet_run (v := .pointer (some ⟨b', 0, none⟩)) (fun w' hw' => ?_) ?_)
  · go_simp
  go_simp; refine hK _ ?_; clear hK K
  refine BigFrame.wpQuiet_want (by kernel_rfl) (fun K hK => quiet_run (v := .pointer (some ⟨b', 0, none⟩)) (fun w' hw' => ?_) ?_)
  · go_simp
  go_simp; refine hK _ ?_; clear hK K
  refine BigFrame.wpQuiet_want (by kernel_rfl) (fun K hK => quiet_run (v := .pointer (some ⟨b', 33, none⟩)) (fun w' hw' => ?_) ?_)
  · go_simp
  go_simp; refine hK _ ?_; clear hK K
  refine BigFrame.wpQuiet_want (by kernel_rfl) (fun K hK => ⟨.string (strN xs'), fun w' hw' => ?_, ?_⟩)
  · unfold Oper.quietAt
    go_simp
    exact (str_any w' hw'.two HX'.out (by omega)).mono fun e w2 ⟨h1, h2, h3⟩ => ⟨h1, hw'.str2 ha h2 h3⟩
  go_simp; refine hK _ ?_; clear hK K
  refine BigFrame.wpQuiet_want (by kernel_rfl) (fun K hK => quiet_run (v := (.bool (decide (xs = xs')))) (fun w' hw' => ?_) ?_)
  · (have c := SB.out; go_simp)
  go_simp; refine hK _ ?_; clear hK K
  refine BigFrame.wpQuiet_want (by kernel_rfl) (fun K hK => quiet_run (v := (.bool (decide (xs = xs')))) (fun w' hw' => ?_) ?_)
  · go_simp
  go_simp; refine hK _ ?_; clear hK K
  refine BigFrame.wpQuiet_want (by kernel_rfl) (fun K hK => quiet_run (v := (.bool (decide (xs = xs')))) (fun w' hw' => ?_) ?_)
  · go_simp
  go_simp; refine hK _ ?_; clear hK K
  refine wpQuiet_nil ?_
  intro w2 hw2
  have W2 := Lib.hid hw2
  clear hw2
  go_wp2_with fail
  go_ret
  exact ⟨rfl, W2.out⟩

set_option maxHeartbeats 4000000 in
theorem equal_text2 (w : World) {B b : Nat} {l : List Nat} {n : Nat} {xs : List Nat} {v : Value} {b' : Nat} {xs' : List Nat} {v' : Value} (h : Rc w B b l n xs false v) (h' : Rc w B b' l n xs' false v') (ha : Apart b b' v v') (hl : IdOk l) (hx : ∀ x ∈ xs, x < 256) (hx' : ∀ x ∈ xs', x < 256) (hlx : xs.length ≤ 65536) (hlx' : xs'.length ≤ 65536)  :
    Calls Try.prog 16 #[.pointer (some ⟨b, 0, none⟩), .pointer (some ⟨b', 0, none⟩)] w fun e w' => e = .returned (.bool (decide (xs = xs'))) ∧ EqC w B b l n xs false v b' n xs' false v' w' := by
  have C0 : Hid (EqC w B b l n xs false v b' n xs' false v' w.drew) := Lib.hid ⟨h.drewN 1, h'.drewN 1, rfl, rfl, rfl, Nat.le_refl _, fun _ _ _ _ _ _ => rfl⟩
  have SB := Lib.hid (str_beq hx hx')
  have HX := Lib.hid hx; have HX' := Lib.hid hx'
  clear h h' hx hx'
  go_enter Try.func16, Try.ntmps16
  go_wp2_with fail
  refine wp_region_quiet (C := EqC w B b l n xs false v b' n xs' false v') mixed (by kernel_rfl) C0.out ?_
  clear C0
  refine BigFrame.wpQuiet_want (by kernel_rfl) (fun K hK => quiet_run (v := .pointer (some ⟨b, 0, none⟩)) (fun w' hw' => ?_) ?_)
  · go_simp
  go_simp; refine hK _ ?_; clear hK K
  refine BigFrame.wpQuiet_want (by kernel_rfl) (fun K hK => quiet_run (v := .pointer (some ⟨b, 0, none⟩)) (fun w' hw' => ?_) ?_)
  · go_simp
  go_simp; refine hK _ ?_; clear hK K
  refine BigFrame.wpQuiet_want (by kernel_rfl) (fun K hK => quiet_run (v := .pointer (some ⟨b, 0, none⟩)) (fun w' hw' => ?_) ?_)
  · go_simp
  go_simp; refine hK _ ?_; clear hK K
  refine BigFrame.wpQuiet_want (by kernel_rfl) (fun K hK => quiet_run (v := .agg (idA l)) (fun w' hw' => ?_) ?_)
  · exact exec_load rfl rfl (hw'.one.load hl.len)
  go_simp; refine hK _ ?_; clear hK K
  refine BigFrame.wpQuiet_want (by kernel_rfl) (fun K hK => quiet_run (v := .pointer (some ⟨b', 0, none⟩)) (fun w' hw' => ?_) ?_)
  · go_simp
  go_simp; refine hK _ ?_; clear hK K
  refine BigFrame.wpQuiet_want (by kernel_rfl) (fun K hK => quiet_run (v := .pointer (some ⟨b', 0, none⟩)) (fun w' hw' => ?_) ?_)
  · go_simp
  go_simp; refine hK _ ?_; clear hK K
  refine BigFrame.wpQuiet_want (by kernel_rfl) (fun K hK => quiet_run (v := .pointer (some ⟨b', 0, none⟩)) (fun w' hw' => ?_) ?_)
  · go_simp
  go_simp; refine hK _ ?_; clear hK K
  refine BigFrame.wpQuiet_want (by kernel_rfl) (fun K hK => quiet_run (v := .agg (idA l)) (fun w' hw' => ?_) ?_)
  · exact exec_load rfl rfl (hw'.two.load hl.len)
  go_simp; refine hK _ ?_; clear hK K
  refine BigFrame.wpQuiet_want (by kernel_rfl) (fun K hK => quiet_run (v := .bool true) (fun w' hw' => ?_) ?_)
  · exact exec_eql rfl rfl rfl guard23 (by rw [eq_id w' hl hl]; simp)
  go_simp; refine hK _ ?_; clear hK K
  refine BigFrame.wpQuiet_want (by kernel_rfl) (fun K hK => quiet_run (v := .bool true) (fun w' hw' => ?_) ?_)
  · go_simp
  go_simp; refine hK _ ?_; clear hK K
  refine BigFrame.wpQuiet_want (by kernel_rfl) (fun K hK => quiet_run (v := .pointer (some ⟨b, 0, none⟩)) (fun w' hw' => ?_) ?_)
  · go_simp
  go_simp; refine hK _ ?_; clear hK K
  refine BigFrame.wpQuiet_want (by kernel_rfl) (fun K hK => quiet_run (v := .pointer (some ⟨b, 0, none⟩)) (fun w' hw' => ?_) ?_)
  · go_simp
  go_simp; refine hK _ ?_; clear hK K
  refine BigFrame.wpQuiet_want (by kernel_rfl) (fun K hK => quiet_run (v := .pointer (some ⟨b, 32, none⟩)) (fun w' hw' => ?_) ?_)
  · go_simp
  go_simp; refine hK _ ?_; clear hK K
  refine BigFrame.wpQuiet_want (by kernel_rfl) (fun K hK => quiet_run (v := .int .i64 (n : Int)) (fun w' hw' => ?_) ?_)
  · (have c := hw'.one.at32 hl.len; go_simp)
  go_simp; refine hK _ ?_; clear hK K
  refine BigFrame.wpQuiet_want (by kernel_rfl) (fun K hK => quiet_run (v := .pointer (some ⟨b', 0, none⟩)) (fun w' hw' => ?_) ?_)
  · go_simp
  go_simp; refine hK _ ?_; clear hK K
  refine BigFrame.wpQuiet_want (by kernel_rfl) (fun K hK => quiet_run (v := .pointer (some ⟨b', 0, none⟩)) (fun w' hw' => ?_) ?_)
  · go_simp
  go_simp; refine hK _ ?_; clear hK K
  refine BigFrame.wpQuiet_want (by kernel_rfl) (fun K hK => quiet_run (v := .pointer (some ⟨b', 32, none⟩)) (fun w' hw' => ?_) ?_)
  · go_simp
  go_simp; refine hK _ ?_; clear hK K
  refine BigFrame.wpQuiet_want (by kernel_rfl) (fun K hK => quiet_run (v := .int .i64 (n : Int)) (fun w' hw' => ?_) ?_)
  · (have c := hw'.two.at32 hl.len; go_simp)
  go_simp; refine hK _ ?_; clear hK K
  refine BigFrame.wpQuiet_want (by kernel_rfl) (fun K hK => quiet_run (v := .bool true) (fun w' hw' => ?_) ?_)
  · go_simp
  go_simp; refine hK _ ?_; clear hK K
  refine BigFrame.wpQuiet_want (by kernel_rfl) (fun K hK => quiet_run (v := .bool true) (fun w' hw' => ?_) ?_)
  · go_simp
  go_simp; refine hK _ ?_; clear hK K
  refine BigFrame.wpQuiet_want (by kernel_rfl) (fun K hK => quiet_run (v := .bool true) (fun w' hw' => ?_) ?_)
  · go_simp
  go_simp; refine hK _ ?_; clear hK K
  refine BigFrame.wpQuiet_want (by kernel_rfl) (fun K hK => quiet_run (v := .pointer (some ⟨b, 0, none⟩)) (fun w' hw' => ?_) ?_)
  · go_simp
  go_simp; refine hK _ ?_; clear hK K
  refine BigFrame.wpQuiet_want (by kernel_rfl) (fun K hK => quiet_run (v := .pointer (some ⟨b, 0, none⟩)) (fun w' hw' => ?_) ?_)
  · go_simp
  go_simp; refine hK _ ?_; clear hK K
  refine BigFrame.wpQuiet_want (by kernel_rfl) (fun K hK => quiet_run (v := .pointer (some ⟨b, 35, none⟩)) (fun w' hw' => ?_) ?_)
  · go_simp
  go_simp; refine hK _ ?_; clear hK K
  refine BigFrame.wpQuiet_want (by kernel_rfl) (fun K hK => quiet_run (v := .bool false) (fun w' hw' => ?_) ?_)
  · (have c := hw'.one.at35 hl.len; go_simp)
  go_simp; refine hK _ ?_; clear hK K
  refine BigFrame.wpQuiet_want (by kernel_rfl) (fun K hK => quiet_run (v := .pointer (some ⟨b', 0, none⟩)) (fun w' hw' => ?_) ?_)
  · go_simp
  go_simp; refine hK _ ?_; clear hK K
  refine BigFrame.wpQuiet_want (by kernel_rfl) (fun K hK => quiet_run (v := .pointer (some ⟨b', 0, none⟩)) (fun w' hw' => ?_) ?_)
  · go_simp
  go_simp; refine hK _ ?_; clear hK K
  refine BigFrame.wpQuiet_want (by kernel_rfl) (fun K hK => quiet_run (v := .pointer (some ⟨b', 35, none⟩)) (fun w' hw' => ?_) ?_)
  · go_simp
  go_simp; refine hK _ ?_; clear hK K
  refine BigFrame.wpQuiet_want (by kernel_rfl) (fun K hK => quiet_run (v := .bool false) (fun w' hw' => ?_) ?_)
  · (have c := hw'.two.at35 hl.len; go_simp)
  go_simp; refine hK _ ?_; clear hK K
  refine BigFrame.wpQuiet_want (by kernel_rfl) (fun K hK => quiet_run (v := .bool true) (fun w' hw' => ?_) ?_)
  · go_simp
  go_simp; refine hK _ ?_; clear hK K
  refine BigFrame.wpQuiet_want (by kernel_rfl) (fun K hK => quiet_run (v := .bool true) (fun w' hw' => ?_) ?_)
  · go_simp
  go_simp; refine hK _ ?_; clear hK K
  refine BigFrame.wpQuiet_want (by kernel_rfl) (fun K hK => quiet_run (v := .bool true) (fun w' hw' => ?_) ?_)
  · go_simp
  go_simp; refine hK _ ?_; clear hK K
  refine BigFrame.wpQuiet_want (by kernel_rfl) (fun K hK => quiet_run (v := .pointer (some ⟨b, 0, none⟩)) (fun w' hw' => ?_) ?_)
  · go_simp
  go_simp; refine hK _ ?_; clear hK K
  refine BigFrame.wpQuiet_want (by kernel_rfl) (fun K hK => quiet_run (v := .pointer (some ⟨b, 0, none⟩)) (fun w' hw' => ?_) ?_)
  · go_simp
  go_simp; refine hK _ ?_; clear hK K
  refine BigFrame.wpQuiet_want (by kernel_rfl) (fun K hK => quiet_run (v := .pointer (some ⟨b, 33, none⟩)) (fun w' hw' => ?_) ?_)
  · go_simp
  go_simp; refine hK _ ?_; clear hK K
  refine BigFrame.wpQuiet_want (by kernel_rfl) (fun K hK => ⟨.string (strN xs), fun w' hw' => ?_, ?_⟩)
  · unfold Oper.quietAt
    go_simp
    exact (str_any w' hw'.one HX.out (by omega)).mono fun e w2 ⟨h1, h2, h3⟩ => ⟨h1, hw'.str1 ha h2 h3⟩
  go_simp; refine hK _ ?_; clear hK K
  refine BigFrame.wpQuiet_want (by kernel_rfl) (fun K hK => quiet_run (v := .pointer (some ⟨b', 0, none⟩)) (fun w' hw' => ?_) ?_)
  · go_simp
  go_simp; refine hK _ ?_; clear hK K
  refine BigFrame.wpQuiet_want (by kernel_rfl) (fun K hK => quiet_run (v := .pointer (some ⟨b', 0, none⟩)) (fun w' hw' => ?_) ?_)
  · go_simp
  go_simp; refine hK _ ?_; clear hK K
  refine BigFrame.wpQuiet_want (by kernel_rfl) (fun K hK => quiet_run (v := .pointer (some ⟨b', 33, none⟩)) (fun w' hw' => ?_) ?_)
  · go_simp
  go_simp; refine hK _ ?_; clear hK K
  refine BigFrame.wpQuiet_want (by kernel_rfl) (fun K hK => ⟨.string (strN xs'), fun w' hw' => ?_, ?_⟩)
  · unfold Oper.quietAt
    go_simp
    exact (str_any w' hw'.two HX'.out (by omega)).mono fun e w2 ⟨h1, h2, h3⟩ => ⟨h1, hw'.str2 ha h2 h3⟩
  go_simp; refine hK _ ?_; clear hK K
  refine BigFrame.wpQuiet_want (by kernel_rfl) (fun K hK => quiet_run (v := (.bool (decide (xs = xs')))) (fun w' hw' => ?_) ?_)
  · (have c := SB.out; go_simp)
  go_simp; refine hK _ ?_; clear hK K
  refine BigFrame.wpQuiet_want (by kernel_rfl) (fun K hK => quiet_run (v := (.bool (decide (xs = xs')))) (fun w' hw' => ?_) ?_)
  · go_simp
  go_simp; refine hK _ ?_; clear hK K
  refine BigFrame.wpQuiet_want (by kernel_rfl) (fun K hK => quiet_run (v := (.bool (decide (xs = xs')))) (fun w' hw' => ?_) ?_)
  · go_simp
  go_simp; refine hK _ ?_; clear hK K
  refine wpQuiet_nil ?_
  intro w2 hw2
  have W2 := Lib.hid hw2
  clear hw2
  go_wp2_with fail
  go_ret
  exact ⟨rfl, W2.out⟩

set_option maxHeartbeats 4000000 in
theorem equal_done1 (w : World) {B b : Nat} {l : List Nat} {n : Nat} {xs : List Nat} {v : Value} {b' : Nat} {xs' : List Nat} {v' : Value} (h : Rc w B b l n xs true v) (h' : Rc w B b' l n xs' false v') (ha : Apart b b' v v') (hl : IdOk l) (hx : ∀ x ∈ xs, x < 256) (hx' : ∀ x ∈ xs', x < 256) (hlx : xs.length ≤ 65536) (hlx' : xs'.length ≤ 65536)  :
    Calls Try.prog 16 #[.pointer (some ⟨b, 0, none⟩), .pointer (some ⟨b', 0, none⟩)] w fun e w' => e = .returned (.bool false) ∧ EqC w B b l n xs true v b' n xs' false v' w' := by
  have C0 : Hid (EqC w B b l n xs true v b' n xs' false v' w.drew) := Lib.hid ⟨h.drewN 1, h'.drewN 1, rfl, rfl, rfl, Nat.le_refl _, fun _ _ _ _ _ _ => rfl⟩
  have SB := Lib.hid (str_beq hx hx')
  have HX := Lib.hid hx; have HX' := Lib.hid hx'
  clear h h' hx hx'
  go_enter Try.func16, Try.ntmps16
  go_wp2_with fail
  refine wp_region_quiet (C := EqC w B b l n xs true v b' n xs' false v') mixed (by kernel_rfl) C0.out ?_
  clear C0
  refine BigFrame.wpQuiet_want (by kernel_rfl) (fun K hK => quiet_run (v := .pointer (some ⟨b, 0, none⟩)) (fun w' hw' => ?_) ?_)
  · go_simp
  go_simp; refine hK _ ?_; clear hK K
  refine BigFrame.wpQuiet_want (by kernel_rfl) (fun K hK => quiet_run (v := .pointer (some ⟨b, 0, none⟩)) (fun w' hw' => ?_) ?_)
  · go_simp
  go_simp; refine hK _ ?_; clear hK K
  refine BigFrame.wpQuiet_want (by kernel_rfl) (fun K hK => quiet_run (v := .pointer (some ⟨b, 0, none⟩)) (fun w' hw' => ?_) ?_)
  · go_simp
  go_simp; refine hK _ ?_; clear hK K
  refine BigFrame.wpQuiet_want (by kernel_rfl) (fun K hK => quiet_run (v := .agg (idA l)) (fun w' hw' => ?_) ?_)
  · exact exec_load rfl rfl (hw'.one.load hl.len)
  go_simp; refine hK _ ?_; clear hK K
  refine BigFrame.wpQuiet_want (by kernel_rfl) (fun K hK => quiet_run (v := .pointer (some ⟨b', 0, none⟩)) (fun w' hw' => ?_) ?_)
  · go_simp
  go_simp; refine hK _ ?_; clear hK K
  refine BigFrame.wpQuiet_want (by kernel_rfl) (fun K hK => quiet_run (v := .pointer (some ⟨b', 0, none⟩)) (fun w' hw' => ?_) ?_)
  · go_simp
  go_simp; refine hK _ ?_; clear hK K
  refine BigFrame.wpQuiet_want (by kernel_rfl) (fun K hK => quiet_run (v := .pointer (some ⟨b', 0, none⟩)) (fun w' hw' => ?_) ?_)
  · go_simp
  go_simp; refine hK _ ?_; clear hK K
  refine BigFrame.wpQuiet_want (by kernel_rfl) (fun K hK => quiet_run (v := .agg (idA l)) (fun w' hw' => ?_) ?_)
  · exact exec_load rfl rfl (hw'.two.load hl.len)
  go_simp; refine hK _ ?_; clear hK K
  refine BigFrame.wpQuiet_want (by kernel_rfl) (fun K hK => quiet_run (v := .bool true) (fun w' hw' => ?_) ?_)
  · exact exec_eql rfl rfl rfl guard23 (by rw [eq_id w' hl hl]; simp)
  go_simp; refine hK _ ?_; clear hK K
  refine BigFrame.wpQuiet_want (by kernel_rfl) (fun K hK => quiet_run (v := .bool true) (fun w' hw' => ?_) ?_)
  · go_simp
  go_simp; refine hK _ ?_; clear hK K
  refine BigFrame.wpQuiet_want (by kernel_rfl) (fun K hK => quiet_run (v := .pointer (some ⟨b, 0, none⟩)) (fun w' hw' => ?_) ?_)
  · go_simp
  go_simp; refine hK _ ?_; clear hK K
  refine BigFrame.wpQuiet_want (by kernel_rfl) (fun K hK => quiet_run (v := .pointer (some ⟨b, 0, none⟩)) (fun w' hw' => ?_) ?_)
  · go_simp
  go_simp; refine hK _ ?_; clear hK K
  refine BigFrame.wpQuiet_want (by kernel_rfl) (fun K hK => quiet_run (v := .pointer (some ⟨b, 32, none⟩)) (fun w' hw' => ?_) ?_)
  · go_simp
  go_simp; refine hK _ ?_; clear hK K
  refine BigFrame.wpQuiet_want (by kernel_rfl) (fun K hK => quiet_run (v := .int .i64 (n : Int)) (fun w' hw' => ?_) ?_)
  · (have c := hw'.one.at32 hl.len; go_simp)
  go_simp; refine hK _ ?_; clear hK K
  refine BigFrame.wpQuiet_want (by kernel_rfl) (fun K hK => quiet_run (v := .pointer (some ⟨b', 0, none⟩)) (fun w' hw' => ?_) ?_)
  · go_simp
  go_simp; refine hK _ ?_; clear hK K
  refine BigFrame.wpQuiet_want (by kernel_rfl) (fun K hK => quiet_run (v := .pointer (some ⟨b', 0, none⟩)) (fun w' hw' => ?_) ?_)
  · go_simp
  go_simp; refine hK _ ?_; clear hK K
  refine BigFrame.wpQuiet_want (by kernel_rfl) (fun K hK => quiet_run (v := .pointer (some ⟨b', 32, none⟩)) (fun w' hw' => ?_) ?_)
  · go_simp
  go_simp; refine hK _ ?_; clear hK K
  refine BigFrame.wpQuiet_want (by kernel_rfl) (fun K hK => quiet_run (v := .int .i64 (n : Int)) (fun w' hw' => ?_) ?_)
  · (have c := hw'.two.at32 hl.len; go_simp)
  go_simp; refine hK _ ?_; clear hK K
  refine BigFrame.wpQuiet_want (by kernel_rfl) (fun K hK => quiet_run (v := .bool true) (fun w' hw' => ?_) ?_)
  · go_simp
  go_simp; refine hK _ ?_; clear hK K
  refine BigFrame.wpQuiet_want (by kernel_rfl) (fun K hK => quiet_run (v := .bool true) (fun w' hw' => ?_) ?_)
  · go_simp
  go_simp; refine hK _ ?_; clear hK K
  refine BigFrame.wpQuiet_want (by kernel_rfl) (fun K hK => quiet_run (v := .bool true) (fun w' hw' => ?_) ?_)
  · go_simp
  go_simp; refine hK _ ?_; clear hK K
  refine BigFrame.wpQuiet_want (by kernel_rfl) (fun K hK => quiet_run (v := .pointer (some ⟨b, 0, none⟩)) (fun w' hw' => ?_) ?_)
  · go_simp
  go_simp; refine hK _ ?_; clear hK K
  refine BigFrame.wpQuiet_want (by kernel_rfl) (fun K hK => quiet_run (v := .pointer (some ⟨b, 0, none⟩)) (fun w' hw' => ?_) ?_)
  · go_simp
  go_simp; refine hK _ ?_; clear hK K
  refine BigFrame.wpQuiet_want (by kernel_rfl) (fun K hK => quiet_run (v := .pointer (some ⟨b, 35, none⟩)) (fun w' hw' => ?_) ?_)
  · go_simp
  go_simp; refine hK _ ?_; clear hK K
  refine BigFrame.wpQuiet_want (by kernel_rfl) (fun K hK => quiet_run (v := .bool true) (fun w' hw' => ?_) ?_)
  · (have c := hw'.one.at35 hl.len; go_simp)
  go_simp; refine hK _ ?_; clear hK K
  refine BigFrame.wpQuiet_want (by kernel_rfl) (fun K hK => quiet_run (v := .pointer (some ⟨b', 0, none⟩)) (fun w' hw' => ?_) ?_)
  · go_simp
  go_simp; refine hK _ ?_; clear hK K
  refine BigFrame.wpQuiet_want (by kernel_rfl) (fun K hK => quiet_run (v := .pointer (some ⟨b', 0, none⟩)) (fun w' hw' => ?_) ?_)
  · go_simp
  go_simp; refine hK _ ?_; clear hK K
  refine BigFrame.wpQuiet_want (by kernel_rfl) (fun K hK => quiet_run (v := .pointer (some ⟨b', 35, none⟩)) (fun w' hw' => ?_) ?_)
  · go_simp
  go_simp; refine hK _ ?_; clear hK K
  refine BigFrame.wpQuiet_want (by kernel_rfl) (fun K hK => quiet_run (v := .bool false) (fun w' hw' => ?_) ?_)
  · (have c := hw'.two.at35 hl.len; go_simp)
  go_simp; refine hK _ ?_; clear hK K
  refine BigFrame.wpQuiet_want (by kernel_rfl) (fun K hK => quiet_run (v := .bool false) (fun w' hw' => ?_) ?_)
  · go_simp
  go_simp; refine hK _ ?_; clear hK K
  refine BigFrame.wpQuiet_want (by kernel_rfl) (fun K hK => quiet_run (v := .bool false) (fun w' hw' => ?_) ?_)
  · go_simp
  go_simp; refine hK _ ?_; clear hK K
  refine BigFrame.wpQuiet_want (by kernel_rfl) (fun K hK => quiet_run (v := .bool false) (fun w' hw' => ?_) ?_)
  · go_simp
  go_simp; refine hK _ ?_; clear hK K
  go_big_quiet_skip
  go_big_quiet_skip
  go_big_quiet_skip
  go_big_quiet_skip
  go_big_quiet_skip
  go_big_quiet_skip
  go_big_quiet_skip
  go_big_quiet_skip
  go_big_quiet_skip
  refine BigFrame.wpQuiet_want (by kernel_rfl) (fun K hK => quiet_run (v := .bool false) (fun w' hw' => ?_) ?_)
  · go_simp
  go_simp; refine hK _ ?_; clear hK K
  refine BigFrame.wpQuiet_want (by kernel_rfl) (fun K hK => quiet_run (v := .bool false) (fun w' hw' => ?_) ?_)
  · go_simp
  go_simp; refine hK _ ?_; clear hK K
  refine wpQuiet_nil ?_
  intro w2 hw2
  have W2 := Lib.hid hw2
  clear hw2
  go_wp2_with fail
  go_ret
  exact ⟨rfl, W2.out⟩

set_option maxHeartbeats 4000000 in
theorem equal_done2 (w : World) {B b : Nat} {l : List Nat} {n : Nat} {xs : List Nat} {v : Value} {b' : Nat} {xs' : List Nat} {v' : Value} (h : Rc w B b l n xs false v) (h' : Rc w B b' l n xs' true v') (ha : Apart b b' v v') (hl : IdOk l) (hx : ∀ x ∈ xs, x < 256) (hx' : ∀ x ∈ xs', x < 256) (hlx : xs.length ≤ 65536) (hlx' : xs'.length ≤ 65536)  :
    Calls Try.prog 16 #[.pointer (some ⟨b, 0, none⟩), .pointer (some ⟨b', 0, none⟩)] w fun e w' => e = .returned (.bool false) ∧ EqC w B b l n xs false v b' n xs' true v' w' := by
  have C0 : Hid (EqC w B b l n xs false v b' n xs' true v' w.drew) := Lib.hid ⟨h.drewN 1, h'.drewN 1, rfl, rfl, rfl, Nat.le_refl _, fun _ _ _ _ _ _ => rfl⟩
  have SB := Lib.hid (str_beq hx hx')
  have HX := Lib.hid hx; have HX' := Lib.hid hx'
  clear h h' hx hx'
  go_enter Try.func16, Try.ntmps16
  go_wp2_with fail
  refine wp_region_quiet (C := EqC w B b l n xs false v b' n xs' true v') mixed (by kernel_rfl) C0.out ?_
  clear C0
  refine BigFrame.wpQuiet_want (by kernel_rfl) (fun K hK => quiet_run (v := .pointer (some ⟨b, 0, none⟩)) (fun w' hw' => ?_) ?_)
  · go_simp
  go_simp; refine hK _ ?_; clear hK K
  refine BigFrame.wpQuiet_want (by kernel_rfl) (fun K hK => quiet_run (v := .pointer (some ⟨b, 0, none⟩)) (fun w' hw' => ?_) ?_)
  · go_simp
  go_simp; refine hK _ ?_; clear hK K
  refine BigFrame.wpQuiet_want (by kernel_rfl) (fun K hK => quiet_run (v := .pointer (some ⟨b, 0, none⟩)) (fun w' hw' => ?_) ?_)
  · go_simp
  go_simp; refine hK _ ?_; clear hK K
  refine BigFrame.wpQuiet_want (by kernel_rfl) (fun K hK => quiet_run (v := .agg (idA l)) (fun w' hw' => ?_) ?_)
  · exact exec_load rfl rfl (hw'.one.load hl.len)
  go_simp; refine hK _ ?_; clear hK K
  refine BigFrame.wpQuiet_want (by kernel_rfl) (fun K hK => quiet_run (v := .pointer (some ⟨b', 0, none⟩)) (fun w' hw' => ?_) ?_)
  · go_simp
  go_simp; refine hK _ ?_; clear hK K
  refine BigFrame.wpQuiet_want (by kernel_rfl) (fun K hK => quiet_run (v := .pointer (some ⟨b', 0, none⟩)) (fun w' hw' => ?_) ?_)
  · go_simp
  go_simp; refine hK _ ?_; clear hK K
  refine BigFrame.wpQuiet_want (by kernel_rfl) (fun K hK => quiet_run (v := .pointer (some ⟨b', 0, none⟩)) (fun w' hw' => ?_) ?_)
  · go_simp
  go_simp; refine hK _ ?_; clear hK K
  refine BigFrame.wpQuiet_want (by kernel_rfl) (fun K hK => quiet_run (v := .agg (idA l)) (fun w' hw' => ?_) ?_)
  · exact exec_load rfl rfl (hw'.two.load hl.len)
  go_simp; refine hK _ ?_; clear hK K
  refine BigFrame.wpQuiet_want (by kernel_rfl) (fun K hK => quiet_run (v := .bool true) (fun w' hw' => ?_) ?_)
  · exact exec_eql rfl rfl rfl guard23 (by rw [eq_id w' hl hl]; simp)
  go_simp; refine hK _ ?_; clear hK K
  refine BigFrame.wpQuiet_want (by kernel_rfl) (fun K hK => quiet_run (v := .bool true) (fun w' hw' => ?_) ?_)
  · go_simp
  go_simp; refine hK _ ?_; clear hK K
  refine BigFrame.wpQuiet_want (by kernel_rfl) (fun K hK => quiet_run (v := .pointer (some ⟨b, 0, none⟩)) (fun w' hw' => ?_) ?_)
  · go_simp
  go_simp; refine hK _ ?_; clear hK K
  refine BigFrame.wpQuiet_want (by kernel_rfl) (fun K hK => quiet_run (v := .pointer (some ⟨b, 0, none⟩)) (fun w' hw' => ?_) ?_)
  · go_simp
  go_simp; refine hK _ ?_; clear hK K
  refine BigFrame.wpQuiet_want (by kernel_rfl) (fun K hK => quiet_run (v := .pointer (some ⟨b, 32, none⟩)) (fun w' hw' => ?_) ?_)
  · go_simp
  go_simp; refine hK _ ?_; clear hK K
  refine BigFrame.wpQuiet_want (by kernel_rfl) (fun K hK => quiet_run (v := .int .i64 (n : Int)) (fun w' hw' => ?_) ?_)
  · (have c := hw'.one.at32 hl.len; go_simp)
  go_simp; refine hK _ ?_; clear hK K
  refine BigFrame.wpQuiet_want (by kernel_rfl) (fun K hK => quiet_run (v := .pointer (some ⟨b', 0, none⟩)) (fun w' hw' => ?_) ?_)
  · go_simp
  go_simp; refine hK _ ?_; clear hK K
  refine BigFrame.wpQuiet_want (by kernel_rfl) (fun K hK => quiet_run (v := .pointer (some ⟨b', 0, none⟩)) (fun w' hw' => ?_) ?_)
  · go_simp
  go_simp; refine hK _ ?_; clear hK K
  refine BigFrame.wpQuiet_want (by kernel_rfl) (fun K hK => quiet_run (v := .pointer (some ⟨b', 32, none⟩)) (fun w' hw' => ?_) ?_)
  · go_simp
  go_simp; refine hK _ ?_; clear hK K
  refine BigFrame.wpQuiet_want (by kernel_rfl) (fun K hK => quiet_run (v := .int .i64 (n : Int)) (fun w' hw' => ?_) ?_)
  · (have c := hw'.two.at32 hl.len; go_simp)
  go_simp; refine hK _ ?_; clear hK K
  refine BigFrame.wpQuiet_want (by kernel_rfl) (fun K hK => quiet_run (v := .bool true) (fun w' hw' => ?_) ?_)
  · go_simp
  go_simp; refine hK _ ?_; clear hK K
  refine BigFrame.wpQuiet_want (by kernel_rfl) (fun K hK => quiet_run (v := .bool true) (fun w' hw' => ?_) ?_)
  · go_simp
  go_simp; refine hK _ ?_; clear hK K
  refine BigFrame.wpQuiet_want (by kernel_rfl) (fun K hK => quiet_run (v := .bool true) (fun w' hw' => ?_) ?_)
  · go_simp
  go_simp; refine hK _ ?_; clear hK K
  refine BigFrame.wpQuiet_want (by kernel_rfl) (fun K hK => quiet_run (v := .pointer (some ⟨b, 0, none⟩)) (fun w' hw' => ?_) ?_)
  · go_simp
  go_simp; refine hK _ ?_; clear hK K
  refine BigFrame.wpQuiet_want (by kernel_rfl) (fun K hK => quiet_run (v := .pointer (some ⟨b, 0, none⟩)) (fun w' hw' => ?_) ?_)
  · go_simp
  go_simp; refine hK _ ?_; clear hK K
  refine BigFrame.wpQuiet_want (by kernel_rfl) (fun K hK => quiet_run (v := .pointer (some ⟨b, 35, none⟩)) (fun w' hw' => ?_) ?_)
  · go_simp
  go_simp; refine hK _ ?_; clear hK K
  refine BigFrame.wpQuiet_want (by kernel_rfl) (fun K hK => quiet_run (v := .bool false) (fun w' hw' => ?_) ?_)
  · (have c := hw'.one.at35 hl.len; go_simp)
  go_simp; refine hK _ ?_; clear hK K
  refine BigFrame.wpQuiet_want (by kernel_rfl) (fun K hK => quiet_run (v := .pointer (some ⟨b', 0, none⟩)) (fun w' hw' => ?_) ?_)
  · go_simp
  go_simp; refine hK _ ?_; clear hK K
  refine BigFrame.wpQuiet_want (by kernel_rfl) (fun K hK => quiet_run (v := .pointer (some ⟨b', 0, none⟩)) (fun w' hw' => ?_) ?_)
  · go_simp
  go_simp; refine hK _ ?_; clear hK K
  refine BigFrame.wpQuiet_want (by kernel_rfl) (fun K hK => quiet_run (v := .pointer (some ⟨b', 35, none⟩)) (fun w' hw' => ?_) ?_)
  · go_simp
  go_simp; refine hK _ ?_; clear hK K
  refine BigFrame.wpQuiet_want (by kernel_rfl) (fun K hK => quiet_run (v := .bool true) (fun w' hw' => ?_) ?_)
  · (have c := hw'.two.at35 hl.len; go_simp)
  go_simp; refine hK _ ?_; clear hK K
  refine BigFrame.wpQuiet_want (by kernel_rfl) (fun K hK => quiet_run (v := .bool false) (fun w' hw' => ?_) ?_)
  · go_simp
  go_simp; refine hK _ ?_; clear hK K
  refine BigFrame.wpQuiet_want (by kernel_rfl) (fun K hK => quiet_run (v := .bool false) (fun w' hw' => ?_) ?_)
  · go_simp
  go_simp; refine hK _ ?_; clear hK K
  refine BigFrame.wpQuiet_want (by kernel_rfl) (fun K hK => quiet_run (v := .bool false) (fun w' hw' => ?_) ?_)
  · go_simp
  go_simp; refine hK _ ?_; clear hK K
  go_big_quiet_skip
  go_big_quiet_skip
  go_big_quiet_skip
  go_big_quiet_skip
  go_big_quiet_skip
  go_big_quiet_skip
  go_big_quiet_skip
  go_big_quiet_skip
  go_big_quiet_skip
  refine BigFrame.wpQuiet_want (by kernel_rfl) (fun K hK => quiet_run (v := .bool false) (fun w' hw' => ?_) ?_)
  · go_simp
  go_simp; refine hK _ ?_; clear hK K
  refine BigFrame.wpQuiet_want (by kernel_rfl) (fun K hK => quiet_run (v := .bool false) (fun w' hw' => ?_) ?_)
  · go_simp
  go_simp; refine hK _ ?_; clear hK K
  refine wpQuiet_nil ?_
  intro w2 hw2
  have W2 := Lib.hid hw2
  clear hw2
  go_wp2_with fail
  go_ret
  exact ⟨rfl, W2.out⟩

set_option maxHeartbeats 4000000 in
theorem equal_size (w : World) {B b : Nat} {l : List Nat} {n n' : Nat} {xs : List Nat} {d : Bool} {v : Value} {b' : Nat} {xs' : List Nat} {d' : Bool} {v' : Value} (h : Rc w B b l n xs d v) (h' : Rc w B b' l n' xs' d' v') (ha : Apart b b' v v') (hl : IdOk l) (hx : ∀ x ∈ xs, x < 256) (hx' : ∀ x ∈ xs', x < 256) (hlx : xs.length ≤ 65536) (hlx' : xs'.length ≤ 65536) (hne : n ≠ n') :
    Calls Try.prog 16 #[.pointer (some ⟨b, 0, none⟩), .pointer (some ⟨b', 0, none⟩)] w fun e w' => e = .returned (.bool false) ∧ EqC w B b l n xs d v b' n' xs' d' v' w' := by
  have C0 : Hid (EqC w B b l n xs d v b' n' xs' d' v' w.drew) := Lib.hid ⟨h.drewN 1, h'.drewN 1, rfl, rfl, rfl, Nat.le_refl _, fun _ _ _ _ _ _ => rfl⟩
  have SB := Lib.hid (str_beq hx hx')
  have HX := Lib.hid hx; have HX' := Lib.hid hx'
  have en : ((n : Int) == (n' : Int)) = false := by simp; omega
  clear h h' hx hx'
  go_enter Try.func16, Try.ntmps16
  go_wp2_with fail
  refine wp_region_quiet (C := EqC w B b l n xs d v b' n' xs' d' v') mixed (by kernel_rfl) C0.out ?_
  clear C0
  refine BigFrame.wpQuiet_want (by kernel_rfl) (fun K hK => quiet_run (v := .pointer (some ⟨b, 0, none⟩)) (fun w' hw' => ?_) ?_)
  · go_simp
  go_simp; refine hK _ ?_; clear hK K
  refine BigFrame.wpQuiet_want (by kernel_rfl) (fun K hK => quiet_run (v := .pointer (some ⟨b, 0, none⟩)) (fun w' hw' => ?_) ?_)
  · go_simp
  go_simp; refine hK _ ?_; clear hK K
  refine BigFrame.wpQuiet_want (by kernel_rfl) (fun K hK => quiet_run (v := .pointer (some ⟨b, 0, none⟩)) (fun w' hw' => ?_) ?_)
  · go_simp
  go_simp; refine hK _ ?_; clear hK K
  refine BigFrame.wpQuiet_want (by kernel_rfl) (fun K hK => quiet_run (v := .agg (idA l)) (fun w' hw' => ?_) ?_)
  · exact exec_load rfl rfl (hw'.one.load hl.len)
  go_simp; refine hK _ ?_; clear hK K
  refine BigFrame.wpQuiet_want (by kernel_rfl) (fun K hK => quiet_run (v := .pointer (some ⟨b', 0, none⟩)) (fun w' hw' => ?_) ?_)
  · go_simp
  go_simp; refine hK _ ?_; clear hK K
  refine BigFrame.wpQuiet_want (by kernel_rfl) (fun K hK => quiet_run (v := .pointer (some ⟨b', 0, none⟩)) (fun w' hw' => ?_) ?_)
  · go_simp
  go_simp; refine hK _ ?_; clear hK K
  refine BigFrame.wpQuiet_want (by kernel_rfl) (fun K hK => quiet_run (v := .pointer (some ⟨b', 0, none⟩)) (fun w' hw' => ?_) ?_)
  · go_simp
  go_simp; refine hK _ ?_; clear hK K
  refine BigFrame.wpQuiet_want (by kernel_rfl) (fun K hK => quiet_run (v := .agg (idA l)) (fun w' hw' => ?_) ?_)
  · exact exec_load rfl rfl (hw'.two.load hl.len)
  go_simp; refine hK _ ?_; clear hK K
  refine BigFrame.wpQuiet_want (by kernel_rfl) (fun K hK => quiet_run (v := .bool true) (fun w' hw' => ?_) ?_)
  · exact exec_eql rfl rfl rfl guard23 (by rw [eq_id w' hl hl]; simp)
  go_simp; refine hK _ ?_; clear hK K
  refine BigFrame.wpQuiet_want (by kernel_rfl) (fun K hK => quiet_run (v := .bool true) (fun w' hw' => ?_) ?_)
  · go_simp
  go_simp; refine hK _ ?_; clear hK K
  refine BigFrame.wpQuiet_want (by kernel_rfl) (fun K hK => quiet_run (v := .pointer (some ⟨b, 0, none⟩)) (fun w' hw' => ?_) ?_)
  · go_simp
  go_simp; refine hK _ ?_; clear hK K
  refine BigFrame.wpQuiet_want (by kernel_rfl) (fun K hK => quiet_run (v := .pointer (some ⟨b, 0, none⟩)) (fun w' hw' => ?_) ?_)
  · go_simp
  go_simp; refine hK _ ?_; clear hK K
  refine BigFrame.wpQuiet_want (by kernel_rfl) (fun K hK => quiet_run (v := .pointer (some ⟨b, 32, none⟩)) (fun w' hw' => ?_) ?_)
  · go_simp
  go_simp; refine hK _ ?_; clear hK K
  refine BigFrame.wpQuiet_want (by kernel_rfl) (fun K hK => quiet_run (v := .int .i64 (n : Int)) (fun w' hw' => ?_) ?_)
  · (have c := hw'.one.at32 hl.len; go_simp)
  go_simp; refine hK _ ?_; clear hK K
  refine BigFrame.wpQuiet_want (by kernel_rfl) (fun K hK => quiet_run (v := .pointer (some ⟨b', 0, none⟩)) (fun w' hw' => ?_) ?_)
  · go_simp
  go_simp; refine hK _ ?_; clear hK K
  refine BigFrame.wpQuiet_want (by kernel_rfl) (fun K hK => quiet_run (v := .pointer (some ⟨b', 0, none⟩)) (fun w' hw' => ?_) ?_)
  · go_simp
  go_simp; refine hK _ ?_; clear hK K
  refine BigFrame.wpQuiet_want (by kernel_rfl) (fun K hK => quiet_run (v := .pointer (some ⟨b', 32, none⟩)) (fun w' hw' => ?_) ?_)
  · go_simp
  go_simp; refine hK _ ?_; clear hK K
  refine BigFrame.wpQuiet_want (by kernel_rfl) (fun K hK => quiet_run (v := .int .i64 (n' : Int)) (fun w' hw' => ?_) ?_)
  · (have c := hw'.two.at32 hl.len; go_simp)
  go_simp; refine hK _ ?_; clear hK K
  refine BigFrame.wpQuiet_want (by kernel_rfl) (fun K hK => quiet_run (v := .bool false) (fun w' hw' => ?_) ?_)
  · go_simp
  go_simp; refine hK _ ?_; clear hK K
  refine BigFrame.wpQuiet_want (by kernel_rfl) (fun K hK => quiet_run (v := .bool false) (fun w' hw' => ?_) ?_)
  · go_simp
  go_simp; refine hK _ ?_; clear hK K
  refine BigFrame.wpQuiet_want (by kernel_rfl) (fun K hK => quiet_run (v := .bool false) (fun w' hw' => ?_) ?_)
  · go_simp
  go_simp; refine hK _ ?_; clear hK K
  go_big_quiet_skip
  go_big_quiet_skip
  go_big_quiet_skip
  go_big_quiet_skip
  go_big_quiet_skip
  go_big_quiet_skip
  go_big_quiet_skip
  go_big_quiet_skip
  go_big_quiet_skip
  refine BigFrame.wpQuiet_want (by kernel_rfl) (fun K hK => quiet_run (v := .bool false) (fun w' hw' => ?_) ?_)
  · go_simp
  go_simp; refine hK _ ?_; clear hK K
  refine BigFrame.wpQuiet_want (by kernel_rfl) (fun K hK => quiet_run (v := .bool false) (fun w' hw' => ?_) ?_)
  · go_simp
  go_simp; refine hK _ ?_; clear hK K
  go_big_quiet_skip
  go_big_quiet_skip
  go_big_quiet_skip
  go_big_quiet_skip
  go_big_quiet_skip
  go_big_quiet_skip
  go_big_quiet_skip
  go_big_quiet_skip
  go_big_quiet_skip
  refine BigFrame.wpQuiet_want (by kernel_rfl) (fun K hK => quiet_run (v := .bool false) (fun w' hw' => ?_) ?_)
  · go_simp
  go_simp; refine hK _ ?_; clear hK K
  refine BigFrame.wpQuiet_want (by kernel_rfl) (fun K hK => quiet_run (v := .bool false) (fun w' hw' => ?_) ?_)
  · go_simp
  go_simp; refine hK _ ?_; clear hK K
  refine wpQuiet_nil ?_
  intro w2 hw2
  have W2 := Lib.hid hw2
  clear hw2
  go_wp2_with fail
  go_ret
  exact ⟨rfl, W2.out⟩

theorem equal_any (w : World) {B b : Nat} {l : List Nat} {n n' : Nat} {xs : List Nat} {d : Bool} {v : Value} {b' : Nat} {xs' : List Nat} {d' : Bool} {v' : Value} (h : Rc w B b l n xs d v) (h' : Rc w B b' l n' xs' d' v') (ha : Apart b b' v v') (hl : IdOk l) (hx : ∀ x ∈ xs, x < 256) (hx' : ∀ x ∈ xs', x < 256) (hlx : xs.length ≤ 65536) (hlx' : xs'.length ≤ 65536) :
    Calls Try.prog 16 #[.pointer (some ⟨b, 0, none⟩), .pointer (some ⟨b', 0, none⟩)] w fun e w' => e = .returned (.bool (decide (n = n' ∧ d = d' ∧ xs = xs'))) ∧ EqC w B b l n xs d v b' n' xs' d' v' w' := by
  by_cases hn : n = n'
  · subst hn
    cases d <;> cases d'
    · simpa using equal_text2 w h h' ha hl hx hx' hlx hlx'
    · simpa using equal_done2 w h h' ha hl hx hx' hlx hlx'
    · simpa using equal_done1 w h h' ha hl hx hx' hlx hlx'
    · simpa using equal_text1 w h h' ha hl hx hx' hlx hlx'
  · have e : decide (n = n' ∧ d = d' ∧ xs = xs') = false := by simp [hn]
    rw [e]
    exact equal_size w h h' ha hl hx hx' hlx hlx' hn

end Go.Proofs.Ytndjcaljkpkgfaa
