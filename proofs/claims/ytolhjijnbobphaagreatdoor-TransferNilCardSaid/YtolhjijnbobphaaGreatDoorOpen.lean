/- What a statement's proof asks of its arguments: identities, commands, slices of commands. -/
import Derived.Test.YtolhjijnbobphaaGreatDoorRows
import Derived.Test.YtolhjijnbobphaaGreatDoorCmds
import Derived.ProofKit
import Derived.OpenShut
import Derived.ShutString
import Derived.ChangeOld
import Derived.Below
import Derived.SizedLaws
import Derived.Deep.DeepHandedRow
import Derived.Deep.Slices
namespace Go.Proofs.YtolhjijnbobphaaGreatDoor
open Go.ChangeShapes Go.WideShapes Go.ChangeAt Go.RowKit
open Go.ChangeMaps (open_string shut_string)
set_option linter.unusedVariables false
set_option maxRecDepth 100000

theorem own : ownKnob Tryz.prog.godebug = none := by kernel_rfl
theorem laidOut : laidOutB Tryz.prog = true := by kernel_rfl
theorem cells31 : Tryz.prog.cellsOf 25 = 35 := by kernel_rfl
instance : Inhabited Cm := ⟨⟨0, 0, [], ⟨#[]⟩⟩⟩
theorem okWide_id {w : World} {r : Reach} {base : Nat} {v : Value} (h : Value.okWide Tryz.prog w r base 23 v) : ∃ cs, v = .agg cs := by
  simp only [Value.okWide, Tryz.underlying23] at h
  obtain ⟨cs, h1, _⟩ := h
  exact ⟨cs, h1⟩

section
variable {H : Type} {enc : TypeId × Value → H} {w : World} {base : Nat} {spare : Nat → Bool} {held : Bool} {fuel : Nat} {cs : List Value} {x : DataW H × List MemPlace}
theorem trod_id (h : DataW.trod enc Tryz.prog w base spare held fuel 23 cs = some x) : ∃ l, IdOk l ∧ cs = l.map U := by
  obtain ⟨xs, m, _, _, hlen, hxl, hi⟩ := DataW.trod_array Tryz.underlying23 h
  rw [cells23] at hlen
  have each : ∀ i (hi' : i < cs.length), ∃ n : Nat, n < 256 ∧ cs[i] = U n := by
    intro i hi'
    have h1 := hi i (by omega)
    rw [cells5, Nat.mul_one, List.drop_eq_getElem_cons hi', List.getElem?_eq_getElem (by omega)] at h1
    obtain ⟨n, hn, _, hw⟩ := DataW.trod_int Tryz.underlying5 h1
    simp only [List.take_succ_cons, List.take_zero, List.cons.injEq, and_true] at hn
    have hb : 0 ≤ n ∧ n ≤ 255 := by
      simp [Lit.wf, IntKind.min, IntKind.max, IntKind.signed, IntKind.bits] at hw
      omega
    exact ⟨n.toNat, by omega, by rw [hn, U]; congr 1; omega⟩
  have key : ∀ cs : List Value, (∀ i (hi' : i < cs.length), ∃ n : Nat, n < 256 ∧ cs[i] = U n) → ∃ l : List Nat, (∀ x ∈ l, x < 256) ∧ cs = l.map U := by
    intro cs
    induction cs with
    | nil => exact fun _ => ⟨[], by simp, rfl⟩
    | cons c cs ih =>
      intro h
      obtain ⟨l, hl, e⟩ := ih (fun i hi' => by have := h (i + 1) (by simpa using hi'); rw [List.getElem_cons_succ] at this; exact this)
      obtain ⟨n, hn, e'⟩ := h 0 (by simp)
      simp only [List.getElem_cons_zero] at e'
      exact ⟨n :: l, by simpa using ⟨hn, hl⟩, by rw [e', e]; rfl⟩
  obtain ⟨l, hl, e⟩ := key cs each
  exact ⟨l, ⟨by rw [e, List.length_map] at hlen; exact hlen, hl⟩, e⟩

theorem trod_rcm (h : DataW.trod enc Tryz.prog w base spare held fuel 25 cs = some x) :
    ∃ c : Cm, cs = c.cells.toList ∧ IdOk c.m ∧ (Lit.int .i64 c.vb).wf = true ∧ (Lit.int .i64 c.f).wf = true ∧ c.t.size ∈ x.1.weights Tryz.prog 25 := by
  obtain ⟨xs, m, _, hx, hlen, hxl, hf⟩ := DataW.trod_struct Tryz.underlying25 h
  rw [cells31] at hlen
  have h0 : DataW.trod enc Tryz.prog w base spare held m 3 ((cs.drop 0).take (Tryz.prog.cellsOf 3)) = xs[0]? := hf 0 _ rfl
  have h1 : DataW.trod enc Tryz.prog w base spare held m 23 ((cs.drop 1).take (Tryz.prog.cellsOf 23)) = xs[1]? := hf 1 _ rfl
  have h2 : DataW.trod enc Tryz.prog w base spare held m 3 ((cs.drop 33).take (Tryz.prog.cellsOf 3)) = xs[2]? := hf 2 _ rfl
  have h3 : DataW.trod enc Tryz.prog w base spare held m 9 ((cs.drop 34).take (Tryz.prog.cellsOf 9)) = xs[3]? := hf 3 _ rfl
  have hxl4 : xs.length = 4 := hxl
  rw [List.getElem?_eq_getElem (by omega)] at h0 h1 h2 h3
  rw [cells3] at h0 h2
  rw [cells23] at h1
  rw [cells9] at h3
  obtain ⟨vb, e0, _, w0⟩ := DataW.trod_int Tryz.underlying3 h0
  obtain ⟨l, hl, e1⟩ := trod_id h1
  obtain ⟨f, e2, _, w2⟩ := DataW.trod_int Tryz.underlying3 h2
  obtain ⟨t, e3, ex3, _⟩ := DataW.trod_string Tryz.underlying9 h3
  refine ⟨⟨vb, f, l, t⟩, ?_, hl, w0, w2, ?_⟩
  · have s0 : cs = cs.take 1 ++ ((cs.drop 1).take 32 ++ ((cs.drop 33).take 1 ++ (cs.drop 34).take 1)) := by
      have a3 : (cs.drop 34).take 1 = cs.drop 34 := List.take_of_length_le (by simp; omega)
      have a2 : (cs.drop 33).take 1 ++ cs.drop 34 = cs.drop 33 := by
        have := List.take_append_drop 1 (cs.drop 33)
        rwa [List.drop_drop] at this
      have a1 : (cs.drop 1).take 32 ++ cs.drop 33 = cs.drop 1 := by
        have := List.take_append_drop 32 (cs.drop 1)
        rwa [List.drop_drop] at this
      rw [a3, a2, a1, List.take_append_drop]
    rw [show cs.take 1 = [.int .i64 vb] from e0, e1, e2, e3] at s0
    rw [s0]
    simp [Cm.cells, rcmC]
  · subst hx
    simp only [DataW.weights, Tryz.underlying25]
    refine DataW.weights_mem_each (j := 3) (t := 9) (d := .lit (.string t.data.toList)) rfl ?_ _ ?_
    · rw [List.getElem?_map, List.getElem?_eq_getElem (by omega), ex3]
      rfl
    · simp [DataW.weights]
end

end Go.Proofs.YtolhjijnbobphaaGreatDoor
