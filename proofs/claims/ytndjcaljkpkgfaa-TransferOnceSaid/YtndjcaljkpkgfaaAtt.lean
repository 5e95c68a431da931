/- Slices of attempts that came in. -/
import Derived.Test.YtndjcaljkpkgfaaOpen
namespace Go.Proofs.Ytndjcaljkpkgfaa
open Go.ChangeShapes Go.WideShapes Go.ChangeAt Go.RowKit Go.Maps
set_option linter.unusedVariables false

/-- A connection: chunk size, how many arrive, what else arrives. -/
structure At where
  ch : Int
  ar : Int
  x : Cm
def At.cells (a : At) : Array Value := (([.int .u16 a.ch, .int .u8 a.ar] : List Value) ++ a.x.cells.toList).toArray
structure AtOk (a : At) : Prop where
  x : CmOk a.x
  c0 : 0 ≤ a.ch
  c1 : a.ch ≤ 65535
  a0 : 0 ≤ a.ar
  a1 : a.ar ≤ 255
instance : Inhabited At := ⟨⟨0, 0, default⟩⟩
theorem At.at0 (a : At) : a.cells[0]? = some (.int .u16 a.ch) := by simp [At.cells]
theorem At.at1 (a : At) : a.cells[1]? = some (.int .u8 a.ar) := by simp [At.cells]
theorem At.at2 (a : At) (j : Nat) (u : Value) (h : a.x.cells[j]? = some u) : a.cells[2 + j]? = some u := by
  unfold At.cells
  rw [List.getElem?_toArray, List.getElem?_append_right (by simp)]
  simpa using h
/-- A slice of attempts. -/
structure RdA (w : World) (a : Option Addr) (L : List At) : Prop where
  at_ : 0 < L.length → ∃ b off, a = some ⟨b, off, none⟩ ∧ b < w.heap.size ∧ ∀ i (h : i < L.length) j u, L[i].cells[j]? = some u → w.cell? ⟨b, off + i * 37 + j, none⟩ = some u
  each : ∀ c ∈ L, AtOk c

section
variable {H : Type} {enc : TypeId × Value → H} {w : World} {base : Nat} {spare : Nat → Bool} {held : Bool} {fuel : Nat} {cs : List Value} {x : DataW H × List MemPlace}
theorem cells60 : Try.prog.cellsOf 60 = 37 := by kernel_rfl
theorem cells49 : Try.prog.cellsOf 49 = 1 := by kernel_rfl
theorem cells5u : Try.prog.cellsOf 5 = 1 := by kernel_rfl
theorem trod_att (h : DataW.trod enc Try.prog w base spare held fuel 60 cs = some x) :
    ∃ c : At, cs = c.cells.toList ∧ IdOk c.x.m ∧ (Lit.int .i64 c.x.vb).wf = true ∧ (Lit.int .i64 c.x.f).wf = true ∧ (Lit.int .u16 c.ch).wf = true ∧ (Lit.int .u8 c.ar).wf = true ∧ c.x.t.size ∈ x.1.weights Try.prog 60 := by
  obtain ⟨xs, m, _, hx, hlen, hxl, hf⟩ := DataW.trod_struct Try.underlying60 h
  rw [cells60] at hlen
  have h0 : DataW.trod enc Try.prog w base spare held m 49 ((cs.drop 0).take (Try.prog.cellsOf 49)) = xs[0]? := hf 0 _ rfl
  have h1 : DataW.trod enc Try.prog w base spare held m 5 ((cs.drop 1).take (Try.prog.cellsOf 5)) = xs[1]? := hf 1 _ rfl
  have h2 : DataW.trod enc Try.prog w base spare held m 31 ((cs.drop 2).take (Try.prog.cellsOf 31)) = xs[2]? := hf 2 _ rfl
  have hxl3 : xs.length = 3 := hxl
  rw [List.getElem?_eq_getElem (by omega)] at h0 h1 h2
  rw [cells49] at h0
  rw [cells5u] at h1
  rw [cells31] at h2
  obtain ⟨ch, e0, _, w0⟩ := DataW.trod_int Try.underlying49 h0
  obtain ⟨ar, e1, _, w1⟩ := DataW.trod_int Try.underlying5 h1
  obtain ⟨c, e2, hid, hv, hfw, hwt⟩ := trod_rcm h2
  refine ⟨⟨ch, ar, c⟩, ?_, hid, hv, hfw, w0, w1, ?_⟩
  · have s0 : cs = cs.take 1 ++ ((cs.drop 1).take 1 ++ (cs.drop 2).take 35) := by
      have a2 : (cs.drop 2).take 35 = cs.drop 2 := List.take_of_length_le (by simp; omega)
      have a1 : (cs.drop 1).take 1 ++ cs.drop 2 = cs.drop 1 := by
        have := List.take_append_drop 1 (cs.drop 1)
        rwa [List.drop_drop] at this
      rw [a2, a1, List.take_append_drop]
    rw [show cs.take 1 = [.int .u16 ch] from e0, e1, e2] at s0
    rw [s0]
    simp [At.cells]
  · subst hx
    simp only [DataW.weights, Try.underlying60]
    refine DataW.weights_mem_each (j := 2) (t := 31) (d := xs[2].1) rfl ?_ _ hwt
    rw [List.getElem?_map, List.getElem?_eq_getElem (by omega)]
    rfl
end

/-- A slice of attempts that came in. -/
theorem atts_open {W : World} {a : Option Addr} {len cap : Nat} {H : Type} {enc : TypeId × Value → H} {d : DataW H} {p : List MemPlace} (h : DataW.Trod enc Try.prog W 0 (fun _ => true) true 58 (.slice a len cap) d p)
    (hw : ∀ n ∈ d.weights Try.prog 58, n ≤ reachBytes) : ∃ L : List At, L.length = len ∧ len ≤ maxLen ∧ RdA W a L := by
  obtain ⟨fuel, hf⟩ := h
  rcases Go.Deep.open_slice Try.underlying58 hf with ⟨hcs, _⟩ | ⟨x, l, c, m, n, D, Pl, hcs, _, hl, hm, hmm, hx, hi⟩
  · simp [Value.cells] at hcs
    obtain ⟨rfl, rfl, rfl⟩ := hcs
    exact ⟨[], rfl, Nat.zero_le _, ⟨fun h => by simp at h, fun _ h => by cases h⟩⟩
  · simp [Value.cells] at hcs
    obtain ⟨rfl, rfl, rfl⟩ := hcs
    simp only [if_true] at hmm
    subst hmm
    simp only [Prod.mk.injEq] at hx
    obtain ⟨hd, _⟩ := hx
    have each : ∀ i, i < len → ∃ c : At, AtOk c ∧ ∀ j u, c.cells[j]? = some u → W.cell? (x.add (i * 37 + j)) = some u := by
      intro i hil
      obtain ⟨cs', h1, h2⟩ := hi i (by omega)
      rw [cells60] at h1
      obtain ⟨c, hc, hid, hv, hfw, hch, har, hwt⟩ := trod_att h2
      have hch' : 0 ≤ c.ch ∧ c.ch ≤ 65535 := by simpa [Lit.wf, IntKind.min, IntKind.max, IntKind.signed, IntKind.bits] using hch
      have har' : 0 ≤ c.ar ∧ c.ar ≤ 255 := by simpa [Lit.wf, IntKind.min, IntKind.max, IntKind.signed, IntKind.bits] using har
      obtain ⟨_, hcl, hat⟩ := World.cells?_some h1
      refine ⟨c, ⟨⟨hid, hv, hfw, ?_⟩, hch'.1, hch'.2, har'.1, har'.2⟩, fun j u hu => ?_⟩
      · have := hw _ (by rw [hd]; exact weights_elems Try.underlying58 (List.mem_map.2 ⟨i, List.mem_range.2 hil, rfl⟩) _ hwt)
        unfold reachBytes at this
        omega
      · have hj : j < 37 := by
          rw [← hcl, hc]
          simpa using (Array.getElem?_eq_some_iff.1 hu).1
        have := hat j hj
        rw [hc] at this
        have hadd : (x.add (i * 37)).add j = x.add (i * 37 + j) := by
          unfold Addr.add
          split <;> split <;> simp_all <;> omega
        rw [hadd] at this
        rw [this]
        simpa using hu
    obtain ⟨y, hy⟩ := Go.Deep.choose_lt each
    refine ⟨(List.range len).map y, by simp, Nat.le_trans hl hm, ⟨fun h0 => ?_, fun c hc => ?_⟩⟩
    · simp at h0
      obtain ⟨b, off, spot⟩ := x
      have hc0 := (hy 0 (by omega)).2 0 (.int .u16 (y 0).ch) (At.at0 _)
      have hspot : spot = none := by simpa [Addr.add] using World.cell?_spot hc0
      subst hspot
      refine ⟨b, off, rfl, by simpa [Addr.add] using World.block_lt_of_cell? W _ hc0, fun i hi' j u hu => ?_⟩
      simp at hi' hu
      have := (hy i hi').2 j u hu
      have hadd : (⟨b, off, none⟩ : Addr).add (i * 37 + j) = ⟨b, off + i * 37 + j, none⟩ := by unfold Addr.add; split <;> simp_all <;> omega
      rw [hadd] at this
      exact this
    · obtain ⟨i, hi', rfl⟩ := List.mem_map.1 hc
      exact (hy i (List.mem_range.1 hi')).1

end Go.Proofs.Ytndjcaljkpkgfaa
