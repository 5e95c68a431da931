/- What a statement's proof asks of its arguments: identities, commands, slices of commands. -/
import Derived.Test.YtndjcaljkpkgfaaRows
import Derived.Test.YtndjcaljkpkgfaaCmds
import Derived.ProofKit
import Derived.OpenShut
import Derived.ShutString
import Derived.ChangeOld
import Derived.Below
import Derived.SizedLaws
import Derived.Deep.DeepHandedRow
import Derived.Deep.Slices
namespace Go.Proofs.Ytndjcaljkpkgfaa
open Go.ChangeShapes Go.WideShapes Go.ChangeAt Go.RowKit
open Go.ChangeMaps (open_string shut_string)
set_option linter.unusedVariables false

theorem own : ownKnob Try.prog.godebug = none := by kernel_rfl
theorem laidOut : laidOutB Try.prog = true := by kernel_rfl
theorem cells31 : Try.prog.cellsOf 31 = 35 := by kernel_rfl
instance : Inhabited Cm := ⟨⟨0, 0, [], ⟨#[]⟩⟩⟩
theorem okWide_id {w : World} {r : Reach} {base : Nat} {v : Value} (h : Value.okWide Try.prog w r base 23 v) : ∃ cs, v = .agg cs := by
  simp only [Value.okWide, Try.underlying23] at h
  obtain ⟨cs, h1, _⟩ := h
  exact ⟨cs, h1⟩

section
variable {H : Type} {enc : TypeId × Value → H} {w : World} {base : Nat} {spare : Nat → Bool} {held : Bool} {fuel : Nat} {cs : List Value} {x : DataW H × List MemPlace}
theorem trod_id (h : DataW.trod enc Try.prog w base spare held fuel 23 cs = some x) : ∃ l, IdOk l ∧ cs = l.map U := by
  obtain ⟨xs, m, _, _, hlen, hxl, hi⟩ := DataW.trod_array Try.underlying23 h
  rw [cells23] at hlen
  have each : ∀ i (hi' : i < cs.length), ∃ n : Nat, n < 256 ∧ cs[i] = U n := by
    intro i hi'
    have h1 := hi i (by omega)
    rw [cells5, Nat.mul_one, List.drop_eq_getElem_cons hi', List.getElem?_eq_getElem (by omega)] at h1
    obtain ⟨n, hn, _, hw⟩ := DataW.trod_int Try.underlying5 h1
    simp only [List.take_succ_cons, List.take_zero, List.cons.injEq, and_true] at hn
    have hb : 0 ≤ n ∧ n ≤ 255 := by
      simp [Lit.wf, IntKind.min, IntKind.max, IntKind.signed, IntKind.bits] at hw
      omega
    exact ⟨n.toNat, by omega, by rw [hn, U]; congr 1; omega⟩
  have key : ∀ cs : List Value, (∀ i (hi' : i < cs.length), ∃ n : Nat, n < 256 ∧ cs[i] = U n) → ∃ l : List Nat, (∀ x ∈ l, x < 256) ∧ cs = l.map U := by
    intro cs
    induction cs with
    | nil => exact fun _ => ⟨[], by simp, rfl⟩
    | cons c cs ih =>
      intro h
      obtain ⟨l, hl, e⟩ := ih (fun i hi' => by have := h (i + 1) (by simpa using hi'); rw [List.getElem_cons_succ] at this; exact this)
      obtain ⟨n, hn, e'⟩ := h 0 (by simp)
      simp only [List.getElem_cons_zero] at e'
      exact ⟨n :: l, by simpa using ⟨hn, hl⟩, by rw [e', e]; rfl⟩
  obtain ⟨l, hl, e⟩ := key cs each
  exact ⟨l, ⟨by rw [e, List.length_map] at hlen; exact hlen, hl⟩, e⟩

theorem trod_rcm (h : DataW.trod enc Try.prog w base spare held fuel 31 cs = some x) :
    ∃ c : Cm, cs = c.cells.toList ∧ IdOk c.m ∧ (Lit.int .i64 c.vb).wf = true ∧ (Lit.int .i64 c.f).wf = true ∧ c.t.size ∈ x.1.weights Try.prog 31 := by
  obtain ⟨xs, m, _, hx, hlen, hxl, hf⟩ := DataW.trod_struct Try.underlying31 h
  rw [cells31] at hlen
  have h0 : DataW.trod enc Try.prog w base spare held m 3 ((cs.drop 0).take (Try.prog.cellsOf 3)) = xs[0]? := hf 0 _ rfl
  have h1 : DataW.trod enc Try.prog w base spare held m 23 ((cs.drop 1).take (Try.prog.cellsOf 23)) = xs[1]? := hf 1 _ rfl
  have h2 : DataW.trod enc Try.prog w base spare held m 3 ((cs.drop 33).take (Try.prog.cellsOf 3)) = xs[2]? := hf 2 _ rfl
  have h3 : DataW.trod enc Try.prog w base spare held m 9 ((cs.drop 34).take (Try.prog.cellsOf 9)) = xs[3]? := hf 3 _ rfl
  have hxl4 : xs.length = 4 := hxl
  rw [List.getElem?_eq_getElem (by omega)] at h0 h1 h2 h3
  rw [cells3] at h0 h2
  rw [cells23] at h1
  rw [cells9] at h3
  obtain ⟨vb, e0, _, w0⟩ := DataW.trod_int Try.underlying3 h0
  obtain ⟨l, hl, e1⟩ := trod_id h1
  obtain ⟨f, e2, _, w2⟩ := DataW.trod_int Try.underlying3 h2
  obtain ⟨t, e3, ex3, _⟩ := DataW.trod_string Try.underlying9 h3
  refine ⟨⟨vb, f, l, t⟩, ?_, hl, w0, w2, ?_⟩
  · have s0 : cs = cs.take 1 ++ ((cs.drop 1).take 32 ++ ((cs.drop 33).take 1 ++ (cs.drop 34).take 1)) := by
      have a3 : (cs.drop 34).take 1 = cs.drop 34 := List.take_of_length_le (by simp; omega)
      have a2 : (cs.drop 33).take 1 ++ cs.drop 34 = cs.drop 33 := by
        have := List.take_append_drop 1 (cs.drop 33)
        rwa [List.drop_drop] at this
      have a1 : (cs.drop 1).take 32 ++ cs.drop 33 = cs.drop 1 := by
        have := List.take_append_drop 32 (cs.drop 1)
        rwa [List.drop_drop] at this
      rw [a3, a2, a1, List.take_append_drop]
    rw [show cs.take 1 = [.int .i64 vb] from e0, e1, e2, e3] at s0
    rw [s0]
    simp [Cm.cells, rcmC]
  · subst hx
    simp only [DataW.weights, Try.underlying31]
    refine DataW.weights_mem_each (j := 3) (t := 9) (d := .lit (.string t.data.toList)) rfl ?_ _ ?_
    · rw [List.getElem?_map, List.getElem?_eq_getElem (by omega), ex3]
      rfl
    · simp [DataW.weights]
end

theorem weights_all {H : Type} {P : Program} {e : TypeId} : ∀ {ds : List (DataW H)} {d : DataW H}, d ∈ ds → ∀ n ∈ d.weights P e, n ∈ DataW.weightsAll P e ds
  | d0 :: ds, d, hd, n, hn => by
    simp only [DataW.weightsAll, List.mem_append]
    rcases List.mem_cons.1 hd with rfl | hd
    · exact .inl hn
    · exact .inr (weights_all hd n hn)
theorem weights_elems {H : Type} {P : Program} {t e : TypeId} (hu : P.underlying t = some (.slice e)) {el sp : List (DataW H)} {d : DataW H} (hd : d ∈ el) : ∀ n ∈ d.weights P e, n ∈ (DataW.slice el sp).weights P t := by
  intro n hn
  simp only [DataW.weights, hu, List.mem_cons, List.mem_append]
  exact .inr (.inl (weights_all hd n hn))

/-- A slice of commands that came in. -/
theorem cmds_open {W : World} {a : Option Addr} {len cap : Nat} {H : Type} {enc : TypeId × Value → H} {d : DataW H} {p : List MemPlace} (h : DataW.Trod enc Try.prog W 0 (fun _ => true) true 24 (.slice a len cap) d p)
    (hw : ∀ n ∈ d.weights Try.prog 24, n ≤ reachBytes) : ∃ L : List Cm, L.length = len ∧ len ≤ maxLen ∧ RdC W a L := by
  obtain ⟨fuel, hf⟩ := h
  rcases Go.Deep.open_slice Try.underlying24 hf with ⟨hcs, _⟩ | ⟨x, l, c, m, n, D, Pl, hcs, _, hl, hm, hmm, hx, hi⟩
  · simp [Value.cells] at hcs
    obtain ⟨rfl, rfl, rfl⟩ := hcs
    exact ⟨[], rfl, Nat.zero_le _, ⟨fun h => by simp at h, fun _ h => by cases h⟩⟩
  · simp [Value.cells] at hcs
    obtain ⟨rfl, rfl, rfl⟩ := hcs
    simp only [if_true] at hmm
    subst hmm
    simp only [Prod.mk.injEq] at hx
    obtain ⟨hd, _⟩ := hx
    have each : ∀ i, i < len → ∃ c : Cm, CmOk c ∧ ∀ j u, c.cells[j]? = some u → W.cell? (x.add (i * 35 + j)) = some u := by
      intro i hil
      obtain ⟨cs', h1, h2⟩ := hi i (by omega)
      rw [cells31] at h1
      obtain ⟨c, hc, hid, hv, hfw, hwt⟩ := trod_rcm h2
      obtain ⟨_, hcl, hat⟩ := World.cells?_some h1
      refine ⟨c, ⟨hid, hv, hfw, ?_⟩, fun j u hu => ?_⟩
      · have := hw _ (by rw [hd]; exact weights_elems Try.underlying24 (List.mem_map.2 ⟨i, List.mem_range.2 hil, rfl⟩) _ hwt)
        unfold reachBytes at this
        omega
      · have hj : j < 35 := by
          rw [← hcl, hc]
          simpa using (Array.getElem?_eq_some_iff.1 hu).1
        have := hat j hj
        rw [hc] at this
        have hadd : (x.add (i * 35)).add j = x.add (i * 35 + j) := by
          unfold Addr.add
          split <;> split <;> simp_all <;> omega
        rw [hadd] at this
        rw [this]
        simpa using hu
    obtain ⟨y, hy⟩ := Go.Deep.choose_lt each
    refine ⟨(List.range len).map y, by simp, Nat.le_trans hl hm, ⟨fun h0 => ?_, fun c hc => ?_⟩⟩
    · simp at h0
      obtain ⟨b, off, spot⟩ := x
      have hc0 := (hy 0 (by omega)).2 0 (.int .i64 (y 0).vb) (by unfold Cm.cells; exact (rcm_at (hy 0 (by omega)).1.id.len _ _ _).1)
      have hspot : spot = none := by simpa [Addr.add] using World.cell?_spot hc0
      subst hspot
      refine ⟨b, off, rfl, by simpa [Addr.add] using World.block_lt_of_cell? W _ hc0, fun i hi' j u hu => ?_⟩
      simp at hi' hu
      have := (hy i hi').2 j u hu
      have hadd : (⟨b, off, none⟩ : Addr).add (i * 35 + j) = ⟨b, off + i * 35 + j, none⟩ := by unfold Addr.add; split <;> simp_all <;> omega
      rw [hadd] at this
      exact this
    · obtain ⟨i, hi', rfl⟩ := List.mem_map.1 hc
      exact (hy i (List.mem_range.1 hi')).1

end Go.Proofs.Ytndjcaljkpkgfaa
