/- strings.Trim of spaces and tabs: empty or not. -/
import Derived.Test.YtbgggeobpiaamaaDoorTP
import Derived.Test.YtbgggeobpiaamaaDoorLibT
import Derived.Test.YtbgggeobpiaamaaDoorFold
import Derived.Test.YtbgggeobpiaamaaDoorFind
import Derived.Lib.AsciiSet
import Derived.Deep.WholeRow
namespace Go.Proofs.YtbgggeobpiaamaaDoor
open Go.RowKit
set_option linter.unusedVariables false
set_option maxRecDepth 100000

section
variable {P : Program} {ops : Array Oper} {rest : List Oper} {o : Oper} {a : Act} {w w' : World} {Q : Exit → Act → World → Prop} {v : Value}
theorem wpList_run (hgd : o.guard = none) (h : (execOp a.eval o).run P w = .ok (.value v) w') (hk : wpList P ops Q rest (a.put o.dst v) w') : wpList P ops Q (o :: rest) a w :=
  wpList_plain hgd fun K hK => by unfold Oper.wp; rw [h]; exact hK _ _ hk
theorem wpList_run_skip (hgd : o.guard = none) (h : (execOp a.eval o).run P w = .ok .skip w') (hk : wpList P ops Q rest (a.put o.dst undef) w') : wpList P ops Q (o :: rest) a w :=
  wpList_plain hgd fun K hK => by unfold Oper.wp; rw [h]; exact hK _ _ hk
theorem exec_alloc {t : TypeId} {zs : Array Value} (ho : o.op = .alloc t) (hz : (zeroValue t).run P w = .ok (.agg zs) w) : (execOp a.eval o).run P w = .ok (.value (.pointer (some ⟨w.heap.size, 0, none⟩))) (w.alloc (.cells zs t)) := by
  unfold execOp
  simp only [ho, Instr.alloc, Sem.run_bind, Sem.run_pure, Result.andThen_ok, hz, newVar, newRow, Value.cells]
  rfl
theorem exec_store {t : TypeId} {x y : Operand} {ad : Addr} {u : Value} (ho : o.op = .store t x y) (hx : a.eval x = .pointer (some ad)) (hy : a.eval y = u) (hs : (storeVar t ad u).run P w = .ok () w') : (execOp a.eval o).run P w = .ok .skip w' := by
  unfold execOp
  simp only [ho, hx, hy, Instr.storeAt, Instr.sureAddr, Sem.run_bind, Sem.run_pure, Result.andThen_ok, hs]
theorem wpList_alloc (t : TypeId) (hgd : o.guard = none) (ho : o.op = .alloc t) (h : ∃ zs, (zeroValue t).run P w = .ok (.agg zs) w ∧ wpList P ops Q rest (a.put o.dst (.pointer (some ⟨w.heap.size, 0, none⟩))) (w.alloc (.cells zs t))) : wpList P ops Q (o :: rest) a w := by
  obtain ⟨zs, h1, h2⟩ := h
  exact wpList_run hgd (exec_alloc ho h1) h2
theorem wpList_store (t : TypeId) (hgd : o.guard = none) (x y : Operand) (ho : o.op = .store t x y) (h : ∃ ad u w', a.eval x = .pointer (some ad) ∧ a.eval y = u ∧ (storeVar t ad u).run P w = .ok () w' ∧ wpList P ops Q rest (a.put o.dst undef) w') : wpList P ops Q (o :: rest) a w := by
  obtain ⟨ad, u, w', h1, h2, h3, h4⟩ := h
  exact wpList_run_skip hgd (exec_store ho h1 h2 h3) h4
end
theorem store_at {P : Program} (w1 : World) (N : Nat) (hN : w1.heap.size = N) (t : TypeId) (c c' : Array Value) (hi : (P.info? t).map (·.size) = some c'.size) (ho : c.size = c'.size) (h1 : c'.all (·.oneCell') = true) :
    (storeVar t ⟨N, 0, none⟩ (.agg c')).run P (w1.alloc (.cells c t)) = .ok () (w1.alloc (.cells c' t)) := by subst hN; exact run_storeVar_new w1 t c c' hi ho h1

/-- The set of the two blanks, at a block. -/
def BlankSet (w : World) (b : Nat) : Prop := ∀ c, c < 256 → w.cell? ⟨b, c, none⟩ = some (.bool (blank c))
theorem setCells_blank : ∀ c, c < 256 → (Lib.setCells [32, 9])[c]? = some (.bool (blank c)) := by
  intro c hc
  have := Lib.setCells_at [32, 9] (UInt8.ofNat c)
  have e : (UInt8.ofNat c).toNat = c := by simp; omega
  rw [e] at this
  rw [this]
  have : ∀ c : Fin 256, ([32, 9] : List UInt8).contains (UInt8.ofNat c.val) = blank c.val := by decide +kernel
  rw [this ⟨c, hc⟩]

set_option maxHeartbeats 1000000 in
theorem aset_any (w : World) (b c : Nat) (hc : c < 256) (v : Bool) (h : w.cell? ⟨b, c, none⟩ = some (.bool v)) :
    Calls Tryd.prog 80 #[.pointer (some ⟨b, 0, none⟩), .int .u8 (c : Int)] w fun e w' => e = .returned (.bool v) ∧ w = w' := by
  have e : (UInt8.ofNat c).toNat = c := by simp; omega
  have := lb_asciiSet_contains b (UInt8.ofNat c) v w (by rw [e]; exact h)
  rw [e] at this
  exact this.mono fun _ _ h => ⟨h.1, h.2.symm⟩

/-- What a trimming function returns, as far as it matters: whether anything is left. -/
def TrPost (l : List Nat) (w : World) (e : Ending) (w' : World) : Prop :=
  ∃ t : ByteArray, e = .returned (.string t) ∧ t.size ≤ l.length ∧ (bs t).all blank = l.all blank ∧ (t.size = 0 ∨ (bs t).all blank = false) ∧ w = w'

set_option maxHeartbeats 1000000 in
theorem trimL_any (s : ByteArray) (w : World) (b : Nat) (hs : s.size ≤ 1000000) (hb : BlankSet w b) :
    Calls Tryd.prog 56 #[.string s, .pointer (some ⟨b, 0, none⟩)] w (TrPost (bs s) w) := by
  have HB := Lib.hid hb
  clear hb
  go_enter Tryd.func56, Tryd.ntmps56
  go_wp2_with fail
  go_loopg [0] s.size (fun k v wr => ∃ t : ByteArray, k = t.size ∧ t.size ≤ s.size ∧ v = .string t ∧ Hid ((bs t).all blank = (bs s).all blank) ∧ w = wr)
  case atStart => exact ⟨s, rfl, by omega, rfl, rfl, rfl⟩
  case round =>
    obtain ⟨t, rfl, hts, rfl, hal, rfl⟩ := hrel
    by_cases h0 : 0 < t.size
    · obtain ⟨c, hc⟩ : ∃ c, c = (bs t).getD 0 0 := ⟨_, rfl⟩
      have hc2 : c < 256 := by rw [hc]; exact bs_lt' t 0
      have x0 := idx0 t c hc h0
      have hdr := drop_cons_getD (l := bs t) (k := 0) (by rw [bs_length]; exact h0)
      rw [List.drop_zero, ← hc, Nat.zero_add] at hdr
      have DR := Lib.hid hdr
      clear hc hdr
      cases hbl : blank c
      · have C : Hid (∀ w', w' = w → Calls Tryd.prog 80 #[.pointer (some ⟨b, 0, none⟩), .int .u8 (c : Int)] w' fun e w'' => e = .returned (.bool false) ∧ w' = w'') := fun w' h => by rw [h]; exact aset_any w b c hc2 false (by rw [HB.out c hc2, hbl])
        have BL := Lib.hid hbl
        clear hbl
        go_wp2_with (go_at_call 80; refine (C.out _ rfl).mono ?_; rintro e w' ⟨rfl, rfl⟩)
        go_ret
        exact ⟨t, rfl, by rw [bs_length]; exact hts, hal.out, .inr (by rw [DR.out, List.all_cons, BL.out]; rfl), rfl⟩
      · have C : Hid (∀ w', w' = w → Calls Tryd.prog 80 #[.pointer (some ⟨b, 0, none⟩), .int .u8 (c : Int)] w' fun e w'' => e = .returned (.bool true) ∧ w' = w'') := fun w' h => by rw [h]; exact aset_any w b c hc2 true (by rw [HB.out c hc2, hbl])
        have BL := Lib.hid hbl
        clear hbl
        go_wp2_with (go_at_call 80; refine (C.out _ rfl).mono ?_; rintro e w' ⟨rfl, rfl⟩)
        go_roundg ((t.extract 1 t.size).size)
        case measure => rw [ByteArray.size_extract]; omega
        case rel => exact ⟨t.extract 1 t.size, rfl, by rw [ByteArray.size_extract]; omega, rfl, Lib.hid (by rw [← hal.out, bs_from]; conv => rhs; rw [DR.out]; rw [List.all_cons, BL.out, Bool.true_and]), rfl⟩
    · go_wp2_with fail
      go_ret
      exact ⟨t, rfl, by rw [bs_length]; exact hts, hal.out, .inl (by omega), rfl⟩

theorem take_last {l : List Nat} (h : 0 < l.length) : l = l.take (l.length - 1) ++ [l.getD (l.length - 1) 0] := by
  have e : l.take (l.length - 1 + 1) = l := by rw [List.take_of_length_le (by omega)]
  conv => lhs; rw [← e]
  rw [List.take_succ_eq_append_getElem (by omega), List.getD_eq_getElem?_getD, List.getElem?_eq_getElem (by omega), Option.getD_some]

set_option maxHeartbeats 1000000 in
theorem trimR_any (s : ByteArray) (w : World) (b : Nat) (hs : s.size ≤ 1000000) (hb : BlankSet w b) :
    Calls Tryd.prog 57 #[.string s, .pointer (some ⟨b, 0, none⟩)] w (TrPost (bs s) w) := by
  have HB := Lib.hid hb
  clear hb
  go_enter Tryd.func57, Tryd.ntmps57
  go_wp2_with fail
  go_loopg [0] s.size (fun k v wr => ∃ t : ByteArray, k = t.size ∧ t.size ≤ s.size ∧ v = .string t ∧ Hid ((bs t).all blank = (bs s).all blank) ∧ w = wr)
  case atStart => exact ⟨s, rfl, by omega, rfl, rfl, rfl⟩
  case round =>
    obtain ⟨t, rfl, hts, rfl, hal, rfl⟩ := hrel
    by_cases h0 : 0 < t.size
    · obtain ⟨c, hc⟩ : ∃ c, c = (bs t).getD (t.size - 1) 0 := ⟨_, rfl⟩
      have hc2 : c < 256 := by rw [hc]; exact bs_lt' t _
      have x0 := fun w => idx_q t w ((t.size : Int) - 1) (t.size - 1) (by omega) (by omega) c hc
      have hdr := take_last (l := bs t) (by rw [bs_length]; exact h0)
      rw [bs_length, ← hc] at hdr
      have DR := Lib.hid hdr
      clear hc hdr
      cases hbl : blank c
      · have C : Hid (∀ w', w' = w → Calls Tryd.prog 80 #[.pointer (some ⟨b, 0, none⟩), .int .u8 (c : Int)] w' fun e w'' => e = .returned (.bool false) ∧ w' = w'') := fun w' h => by rw [h]; exact aset_any w b c hc2 false (by rw [HB.out c hc2, hbl])
        have BL := Lib.hid hbl
        clear hbl
        go_wp2_with (go_at_call 80; refine (C.out _ rfl).mono ?_; rintro e w' ⟨rfl, rfl⟩)
        go_ret
        exact ⟨t, rfl, by rw [bs_length]; exact hts, hal.out, .inr (by rw [DR.out, List.all_append]; simp [BL.out]), rfl⟩
      · have C : Hid (∀ w', w' = w → Calls Tryd.prog 80 #[.pointer (some ⟨b, 0, none⟩), .int .u8 (c : Int)] w' fun e w'' => e = .returned (.bool true) ∧ w' = w'') := fun w' h => by rw [h]; exact aset_any w b c hc2 true (by rw [HB.out c hc2, hbl])
        have BL := Lib.hid hbl
        clear hbl
        go_wp2_with (go_at_call 80; refine (C.out _ rfl).mono ?_; rintro e w' ⟨rfl, rfl⟩)
        go_roundg ((t.extract 0 (t.size - 1)).size)
        case measure => rw [ByteArray.size_extract]; omega
        case rel => exact ⟨t.extract 0 (t.size - 1), rfl, by rw [ByteArray.size_extract]; omega, rfl, Lib.hid (by rw [← hal.out, bs_to]; conv => rhs; rw [DR.out]; rw [List.all_append]; simp [BL.out]), rfl⟩
    · go_wp2_with fail
      go_ret
      exact ⟨t, rfl, by rw [bs_length]; exact hts, hal.out, .inl (by omega), rfl⟩

theorem zero75 (w : World) : (zeroValue 75).run Tryd.prog w = .ok (.agg (Array.replicate 256 (.bool false))) w := by kernel_rfl
theorem size75 : (Tryd.prog.info? 75).map (·.size) = some (Lib.setCells [32, 9]).size := by rw [Lib.setCells_size]; kernel_rfl
/-- What Trim returns, as far as it matters. -/
def TmPost (l : List Nat) (w : World) (e : Ending) (w' : World) : Prop :=
  ∃ t : ByteArray, e = .returned (.string t) ∧ (l.all blank = true → t.size = 0) ∧ (l.all blank = false → t.size ≠ 0) ∧ Below w.heap.size w w'

set_option maxHeartbeats 1000000 in
theorem trim_any (s : ByteArray) (w : World) (hs : s.size ≤ 1000000) :
    Calls Tryd.prog 32 #[.string s, .string ⟨#[32, 9]⟩] w (TmPost (bs s) w) := by
  by_cases h0 : s.size = 0
  · obtain rfl := str_emp h0
    go_enter Tryd.func32, Tryd.ntmps32
    go_wp2_with fail
    go_ret
    exact ⟨_, rfl, (fun _ => rfl), (fun h => by cases h), Below.refl _ _⟩
  · have n0 := str_ne h0
    have MS := Lib.hid (lb_strings_makeASCIISet zero75 ⟨#[32, 9]⟩ w (by decide) (by
      intro j b hb
      match j, hb with
      | 0, hb => cases hb; decide
      | 1, hb => cases hb; decide
      | j + 2, hb => simp at hb))
    obtain ⟨cs, hcs⟩ : ∃ cs, cs = Lib.setCells [32, 9] := ⟨_, rfl⟩
    have e0 : Lib.setCells (ByteArray.mk #[32, 9]).data.toList = cs := hcs.symm
    rw [e0] at MS
    have ST := Lib.hid (fun (w1 : World) (N : Nat) (hN : w1.heap.size = N) => store_at (P := Tryd.prog) w1 N hN 75 (Array.replicate 256 (.bool false)) cs (by rw [hcs]; exact size75) (by rw [hcs, Lib.setCells_size]; rfl) (by rw [hcs]; exact Lib.setCells_one _))
    have HC := Lib.hid hcs
    clear hcs e0
    go_enter Tryd.func32, Tryd.ntmps32
    go_wp2_with (first | (go_at_call 55; refine MS.out.mono ?_; rintro e w' ⟨rfl, rfl⟩) | ((with_reducible refine wpList_alloc 75 rfl rfl ?_); refine ⟨_, zero75 _, ?_⟩) | ((with_reducible refine wpList_store 75 rfl _ _ rfl ?_); refine ⟨_, _, _, rfl, rfl, ST.out _ _ (by simp), ?_⟩))
    have BS : Hid (BlankSet ((w.alloc (.cells cs 75)).alloc (.cells cs 75)) (w.heap.size + 1)) := Lib.hid (fun c hc => by
      rw [cell_of_row _ (w.heap.size + 1) c cs 75 (0, 0) (two_block w _ _), HC.out]
      exact setCells_blank c hc)
    have B2 : Hid (Below w.heap.size w ((w.alloc (.cells cs 75)).alloc (.cells cs 75))) := Lib.hid (below_two _ _)
    generalize ((w.alloc (.cells cs 75)).alloc (.cells cs 75)) = W2 at *
    refine (trimR_any s W2 _ hs BS.out).mono ?_
    rintro e w1 ⟨t, rfl, ht1, ht2, ht3, rfl⟩
    rw [bs_length] at ht1
    have T2 := Lib.hid ht2; have T3 := Lib.hid ht3
    clear ht2 ht3 MS ST
    have L := Lib.hid (trimL_any t W2 _ (by omega) BS.out)
    go_wp2_with fail
    refine L.out.mono ?_
    rintro e w1 ⟨u, rfl, hu1, hu2, hu3, rfl⟩
    have U2 := Lib.hid hu2; have U3 := Lib.hid hu3
    clear hu1 hu2 hu3 L
    go_wp2_with fail
    go_ret
    refine ⟨u, rfl, fun h => ?_, fun h => ?_, B2.out⟩
    · rcases U3.out with h' | h'
      · exact h'
      · rw [U2.out, T2.out, h] at h'; cases h'
    · intro e
      rw [← T2.out, ← U2.out, bs_emp e] at h
      cases h
end Go.Proofs.YtbgggeobpiaamaaDoor
