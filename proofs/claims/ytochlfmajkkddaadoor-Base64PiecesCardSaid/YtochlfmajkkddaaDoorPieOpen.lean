/- What the card of Base64Pieces asks of a slice of slices of bytes that came in. -/
import Derived.Test.YtochlfmajkkddaaDoorCardKit
import Derived.Test.YtochlfmajkkddaaDoorLawPie
namespace Go.Proofs.YtochlfmajkkddaaDoor
open Go.ChangeShapes Go.WideShapes Go.ChangeAt Go.RowKit
open Go.ChangeMaps (open_string shut_string)
set_option linter.unusedVariables false

/-- A slice of slices of bytes that came in. -/
theorem rds_open {W : World} {a : Option Addr} {len cap : Nat} {H : Type} {enc : TypeId × Value → H} {d : DataW H} {p : List MemPlace} (h : DataW.Trod enc Tryd.prog W 0 (fun _ => true) true 48 (.slice a len cap) d p) :
    ∃ l : List (Option Addr × Nat × List Nat), l.length = len ∧ len ≤ maxLen ∧ Rds W a l := by
  obtain ⟨fuel, hf⟩ := h
  rcases Go.Deep.open_int_rows Tryd.underlying48 Tryd.underlying22 Tryd.underlying5 (by kernel_rfl) (by kernel_rfl) hf with ⟨hcs, _⟩ | ⟨x, l, c, A, L, C, Z, hcs, _, hl, hm, _, hrow⟩
  · simp [Value.cells] at hcs
    obtain ⟨rfl, rfl, rfl⟩ := hcs
    exact ⟨[], rfl, Nat.zero_le _, ⟨fun h => by simp at h, fun _ h => by cases h⟩⟩
  · simp [Value.cells] at hcs
    obtain ⟨rfl, rfl, rfl⟩ := hcs
    have hbz : ∀ r, r < cap → ∀ n ∈ Z r, 0 ≤ n ∧ n ≤ 255 := fun r hr n hn => by
      have := (hrow r hr).2.2.2.2.1 n hn
      simp [Lit.wf, IntKind.min, IntKind.max, IntKind.signed, IntKind.bits] at this
      omega
    refine ⟨(List.range len).map fun r => (A r, C r, ((Z r).take (L r)).map Int.toNat), by simp, Nat.le_trans hl hm, ⟨fun h0 => ?_, fun y hy => ?_⟩⟩
    · simp at h0
      obtain ⟨b, off, spot⟩ := x
      have hc0 := (hrow 0 (by omega)).1
      have hspot : spot = none := by simpa [Addr.add] using World.cell?_spot hc0
      subst hspot
      refine ⟨b, off, rfl, by simpa [Addr.add] using World.block_lt_of_cell? W _ hc0, fun i hi => ?_⟩
      simp at hi
      obtain ⟨hci, hLC, _, hZ, _⟩ := hrow i (by omega)
      have hadd : (⟨b, off, none⟩ : Addr).add i = ⟨b, off + i, none⟩ := by unfold Addr.add; split <;> simp_all
      rw [hadd] at hci
      rw [hci]
      simp
      omega
    · obtain ⟨r, hr, rfl⟩ := List.mem_map.1 hy
      have hr' : r < cap := by have := List.mem_range.1 hr; omega
      obtain ⟨_, hLC, hCm, hZ, _, hnil, hcell⟩ := hrow r hr'
      refine ⟨⟨fun y hy => ?_, fun h0 => ?_⟩, hnil, ?_⟩
      · obtain ⟨n, hn, rfl⟩ := List.mem_map.1 hy
        have := hbz r hr' n (List.mem_of_mem_take hn)
        omega
      · simp at h0
        cases hA : A r with
        | none => have := hnil hA; omega
        | some x' =>
          have hcell' := (hcell x' hA).2
          obtain ⟨b, off, spot⟩ := x'
          have hc0 := hcell' 0 (by omega)
          have hspot : spot = none := by simpa [Addr.add] using World.cell?_spot hc0
          subst hspot
          refine ⟨b, off, rfl, by simpa [Addr.add] using World.block_lt_of_cell? W _ hc0, fun i hi => ?_⟩
          simp at hi
          have hci := hcell' i (by omega)
          have hadd : (⟨b, off, none⟩ : Addr).add i = ⟨b, off + i, none⟩ := by unfold Addr.add; split <;> simp_all
          rw [hadd] at hci
          rw [hci]
          have hil : i < (Z r).length := by omega
          have := hbz r hr' (Z r)[i] (List.getElem_mem hil)
          simp [U, List.getD, List.getElem?_eq_getElem hil]
          omega
      · simp
        omega

end Go.Proofs.YtochlfmajkkddaaDoor
