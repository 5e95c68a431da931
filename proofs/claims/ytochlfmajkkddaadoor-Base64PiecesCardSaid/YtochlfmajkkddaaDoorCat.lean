/- slices.Grow at nil, slices.Concat of two slices of bytes. -/
import Derived.Test.YtochlfmajkkddaaDoorLawCat
namespace Go.Proofs.YtochlfmajkkddaaDoor
open Go.RowKit Go.Maps
set_option linter.unusedVariables false

theorem run_append_zeros {P : Program} (w : World) (t u ty e : TypeId) (i : TypeInfo) (ht : P.underlying t = some (.slice e)) (hu : P.underlying u = some (.int .i64)) (hi : P.info? e = some i) (hz : i.zero = some (.int .u8 0)) (hs : i.size = 1) (hb : i.bytes = 1)
    (n : Nat) (h0 : 0 < n) (hn : n ≤ 1000000) :
    (Builtin.append_ #[t, u] ty #[.slice none 0 0, .int .i64 (n : Int)]).run P w =
      .ok (.slice (some ⟨w.heap.size, 0, none⟩) n (grownCap w n 0 e)) (w.drew.alloc (.cells (Builtin.zeroCells #[.int .u8 0] n ++ Builtin.zeroCells #[.int .u8 0] (grownCap w n 0 e - n)) e)) := by
  have w1 : IntKind.i64.wrap (n : Int) = (n : Int) := by rw [IntKind.wrap_i64]; omega
  have h1 : ¬ ((n : Int) < 0) := by omega
  have h2 : ¬ (281474976710656 < (n : Int)) := by omega
  have h3 : n ≠ 0 := by omega
  have h4 : ¬ (281474976710656 < Builtin.nextslicecap n 0) := by rw [nextslicecap_zero h0]; omega
  have h5 : ¬ (9223372036854775807 < (n : Int)) := by omega
  simp [Builtin.append_, run_underlying ht, run_underlying hu, sizeOf, typeInfo, hi, hs, hb, hz, asInt, asIntOf, w1, h1, h2, h3, h4, h5, zeroValue, Question.forced, newRow, grownCap, Builtin.firstCells, Value.cells]

theorem wpList_append_run {P : Program} {w : World} {ops : Array Oper} {rest : List Oper} {o : Oper} {a : Act} {Q : Exit → Act → World → Prop} (hgd : o.guard = none) (sl x : Operand) (t u : TypeId)
    (ho : o.op = .call { callee := .builtin .append, args := #[sl, x], argTypes := #[t, u] }) (v y : Value) (hs : a.eval sl = v) (hx : a.eval x = y) (v' : Value) (w' : World)
    (hr : (Builtin.append_ #[t, u] o.type #[v, y]).run P w = .ok v' w') (h : wpList P ops Q rest (a.put o.dst v') w') : wpList P ops Q (o :: rest) a w := by
  refine wpList_plain hgd fun K hK => ?_
  unfold Oper.wp execOp
  simp only [ho, resolve, invoke, builtin, Sem.run_bind, Sem.run_pure, Result.andThen_ok, List.map_toArray, List.map_cons, List.map_nil, hs, hx, hr]
  exact hK _ _ h

theorem grow_nil (w : World) (n : Nat) (hn : n ≤ 1000000) :
    Calls Tryd.prog 47 #[.slice none 0 0, .int .i64 (n : Int)] w fun e w' => ∃ v, e = .returned v ∧ w'.ownsRow w.heap.size 5 1 v 0 [] ∧ Below w.heap.size w w' := by
  by_cases h0 : n = 0
  · subst h0
    go_enter Tryd.func47, Tryd.ntmps47
    go_wp2_with fail
    go_ret
    exact ⟨_, rfl, World.ownsRow_nil _ _ _ _, Below.refl _ _⟩
  · obtain ⟨i0, hi0, hz0, hz1, hz2⟩ := info_parts info5
    have hr := run_append_zeros (P := Tryd.prog) w 22 3 22 5 i0 Tryd.underlying22 Tryd.underlying3 hi0 hz0 hz1 hz2 n (by omega) hn
    have hge := grownCap_ge w n 0 5
    have hle := grownCap_le_maxLen w n 0 5 (by unfold maxLen; omega)
    generalize hcap : grownCap w n 0 5 = cap at *
    generalize hcs : (Builtin.zeroCells #[Value.int .u8 0] n ++ Builtin.zeroCells #[Value.int .u8 0] (cap - n)) = cs at *
    have hsz : cs.size = cap * 1 := by
      rw [← hcs, Array.size_append, size_zeroCells, size_zeroCells]
      simp
      omega
    have OW : Hid ((w.drew.alloc (.cells cs 5)).ownsRow w.heap.size 5 1 (.slice (some ⟨w.heap.size, 0, none⟩) 0 cap) 0 []) := World.ownsRow_made w.drew cs cap (Nat.le_refl _) hle hsz
    have BL : Hid (Below w.heap.size w (w.drew.alloc (.cells cs 5))) := (Below.refl _ _).drew.alloc (Nat.le_refl _) _
    unfold maxLen at hle
    clear hcap hcs hsz hi0 hz0 hz1 hz2
    go_enter Tryd.func47, Tryd.ntmps47
    have HR := Lib.hid hr
    clear hr
    go_wp2_with (at_builtin; refine wpList_append_run rfl _ _ _ _ rfl _ _ rfl rfl _ _ HR.out ?_)
    go_ret
    exact ⟨_, rfl, OW.out, BL.out⟩

set_option maxHeartbeats 1000000 in
theorem concat2 (w : World) (B0 : Nat) (a1 a2 : Option Addr) (n1 n2 c1 c2 : Nat) (l1 l2 : List Nat) (hv1 : w.cell? ⟨B0, 0, none⟩ = some (.slice a1 n1 c1)) (hv2 : w.cell? ⟨B0, 1, none⟩ = some (.slice a2 n2 c2)) (hB0 : B0 < w.heap.size)
    (h1 : l1.length = n1) (h2 : l2.length = n2) (r1 : Rd w a1 l1) (r2 : Rd w a2 l2) (z1 : a1 = none → c1 = 0) (z2 : a2 = none → c2 = 0) (hn1 : n1 ≤ 200000) (hn2 : n2 ≤ 200000) :
    Calls Tryd.prog 39 #[.slice (some ⟨B0, 0, none⟩) 2 2] w fun e w' => ∃ v, e = .returned v ∧ w'.ownsRow w.heap.size 5 1 v (n1 + n2) ((l1 ++ l2).map U) ∧ Below w.heap.size w w' := by
  obtain ⟨i0, hi0, hz0, hz1, hz2⟩ := info_parts info5
  have G1 := Lib.hid (grow_nil w (n1 + n2) (by omega))
  have R1 := Lib.hid r1; have R2 := Lib.hid r2; have H1 := Lib.hid h1; have H2 := Lib.hid h2; have Z1 := Lib.hid z1; have Z2 := Lib.hid z2
  clear r1 r2 h1 h2 z1 z2
  go_enter Tryd.func39, Tryd.ntmps39
  go_wp2_with fail
  go_loopg [3, 11] 2 (fun k s i wr => ∃ (j : Nat), w = wr ∧ j ≤ 2 ∧ k = 2 - j ∧ i = .int .i64 (j : Int) ∧ s = .int .i64 (((if j = 0 then 0 else if j = 1 then n1 else n1 + n2) : Nat) : Int))
  case atStart => exact ⟨0, rfl, by omega, rfl, rfl, rfl⟩
  case round =>
    obtain ⟨j, rfl, hj, rfl, rfl, rfl⟩ := hrel
    rcases (by omega : j = 0 ∨ j = 1 ∨ j = 2) with rfl | rfl | rfl
    · simp only [if_true]
      go_wp2_with fail
      go_roundg 1
      case measure => omega
      case rel => exact ⟨1, rfl, by omega, rfl, rfl, by simp⟩
    · simp only [if_true, Nat.one_ne_zero, if_false]
      go_wp2_with fail
      go_roundg 0
      case measure => omega
      case rel => exact ⟨2, rfl, by omega, rfl, rfl, by simp⟩
    · simp only [(by decide : ¬ (2 : Nat) = 0), (by decide : ¬ (2 : Nat) = 1), if_false]
      go_wp2_with (go_at_call 47; refine G1.out.mono ?_; rintro e w1 ⟨v, rfl, hown, hbl⟩; obtain ⟨ag, cg, rfl⟩ := own_shape hown; have OW := Lib.hid hown; have BL := Lib.hid hbl; clear hown hbl)
      go_loopg [6, 27] 2 (fun k o i wr => ∃ (j : Nat) (xs : List Nat), j ≤ 2 ∧ k = 2 - j ∧ i = .int .i64 (j : Int) ∧ xs = (if j = 0 then [] else if j = 1 then l1 else l1 ++ l2) ∧ wr.ownsRow w.heap.size 5 1 o xs.length (xs.map U) ∧ Below w.heap.size w wr)
      case atStart => exact ⟨0, [], by omega, rfl, rfl, rfl, OW.out, BL.out⟩
      case round =>
        obtain ⟨j, xs, hj, rfl, rfl, hxs, hown, hbl⟩ := hrel
        have OW2 := Lib.hid hown; have BL2 := Lib.hid hbl
        obtain ⟨ao, co, rfl⟩ := own_shape hown
        have k1 : wr.cell? ⟨B0, 0, none⟩ = some (.slice a1 n1 c1) := (hbl.cell (by exact hB0)).trans hv1
        have k2 : wr.cell? ⟨B0, 1, none⟩ = some (.slice a2 n2 c2) := (hbl.cell (by exact hB0)).trans hv2
        have hbs := hbl.size
        clear hown hbl
        rcases (by omega : j = 0 ∨ j = 1 ∨ j = 2) with rfl | rfl | rfl
        · simp only [if_true] at hxs
          subst hxs
          go_wp2_with (at_builtin; refine wpList_append_rd _ rfl _ _ _ rfl w.heap.size 5 i0 _ 1 Tryd.underlying22 hi0 hz0 hz1 hz2 rfl _ 0 [] rfl OW2.out a1 n1 c1 l1 H1.out rfl (R1.out.below BL2.out) Z1.out (by unfold maxLen; omega) (by omega) hbs ?_; intro v1 w4 hown1 hgrow1; have OW3 := Lib.hid hown1; have BL3 : Hid (Below w.heap.size w w4) := BL2.out.grown hgrow1 hbs (fun j hj => (OW2.out.lt j hj).1); clear hown1 hgrow1)
          go_roundg 1
          case measure => omega
          case rel => exact ⟨1, l1, by omega, rfl, rfl, by simp, by have := OW3.out; rw [Nat.zero_add, List.nil_append] at this; rw [H1.out]; exact this, BL3.out⟩
        · simp only [if_true, Nat.one_ne_zero, if_false] at hxs
          subst hxs
          have h1l := H1.out
          go_wp2_with (at_builtin; refine wpList_append_rd _ rfl _ _ _ rfl w.heap.size 5 i0 _ 1 Tryd.underlying22 hi0 hz0 hz1 hz2 rfl _ xs.length xs rfl OW2.out a2 n2 c2 l2 H2.out rfl (R2.out.below BL2.out) Z2.out (by unfold maxLen; omega) (by omega) hbs ?_; intro v1 w4 hown1 hgrow1; have OW3 := Lib.hid hown1; have BL3 : Hid (Below w.heap.size w w4) := BL2.out.grown hgrow1 hbs (fun j hj => (OW2.out.lt j hj).1); clear hown1 hgrow1)
          go_roundg 0
          case measure => omega
          case rel => exact ⟨2, xs ++ l2, by omega, rfl, rfl, by simp, by rw [List.length_append, H2.out]; exact OW3.out, BL3.out⟩
        · simp only [(by decide : ¬ (2 : Nat) = 0), (by decide : ¬ (2 : Nat) = 1), if_false] at hxs
          have HXS := Lib.hid hxs
          clear hxs
          go_wp2_with fail
          go_ret
          refine ⟨_, rfl, ?_, BL2.out⟩
          have := OW2.out
          rw [HXS.out, List.length_append, H1.out, H2.out] at this
          rw [HXS.out, List.length_append, H1.out, H2.out]
          exact this

end Go.Proofs.YtochlfmajkkddaaDoor
