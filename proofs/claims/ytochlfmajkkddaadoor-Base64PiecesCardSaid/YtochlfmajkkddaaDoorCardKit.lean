/- What a card's proof asks of a slice of bytes that came in. -/
import Derived.Test.YtochlfmajkkddaaDoorCards
import Derived.Test.YtochlfmajkkddaaDoorTie
import Derived.Test.YtochlfmajkkddaaDoorLawEnc
import Derived.ProofKit
import Derived.OpenShut
import Derived.ShutString
import Derived.ChangeOld
import Derived.Below
import Derived.Deep.DeepHandedRow
import Derived.Lib.LaidTab
namespace Go.Proofs.YtochlfmajkkddaaDoor
open Go.ChangeShapes Go.WideShapes Go.ChangeAt Go.RowKit
open Go.ChangeMaps (open_string shut_string)
set_option linter.unusedVariables false

theorem own : ownKnob Tryd.prog.godebug = none := by kernel_rfl
theorem laidOut : laidOutB Tryd.prog = true := by kernel_rfl
theorem gTab : Tryd.prog.globalNamed "bulletin/base64.alphabet" = some 0 := by kernel_rfl
theorem gTabType : (Tryd.prog.globals[0]?).map (·.type) = some 77 := by kernel_rfl
theorem cellsTab : Tryd.prog.cellsOf 77 = 64 := by kernel_rfl
theorem cells5 : Tryd.prog.cellsOf 5 = 1 := by kernel_rfl

/-- What the row's list gives: the table's cells hold the letters. -/
theorem table {W : World} (h : laidMetH Tryd.prog [("bulletin/base64.alphabet", Rows.laid_bulletin_base64_alphabet)] W) : Lib.TabIs Tryd.prog W "bulletin/base64.alphabet" .u8 (alph.map fun n : Nat => (n : Int)) :=
  Lib.tabIs_of_head (rest := []) gTab gTabType Tryd.underlying77 Tryd.underlying5 cells5 cellsTab h
theorem tab_of {W : World} (h : laidMetH Tryd.prog [("bulletin/base64.alphabet", Rows.laid_bulletin_base64_alphabet)] W) : Tab W := by
  have hc : ∀ g, g < 64 → W.cell? ⟨0, g, none⟩ = some (U (al g)) := fun g hg => by
    have := (table h).cell gTab g (by simp [alph]; omega)
    rw [this]
    have hl : g < alph.length := by simp [alph]; omega
    simp [U, al, List.getD, List.getElem?_eq_getElem hl]
  exact ⟨World.block_lt_of_cell? W _ (hc 0 (by omega)), hc⟩

/-- A slice of bytes that came in. -/
theorem rd_open {W : World} {a : Option Addr} {len cap : Nat} {H : Type} {enc : TypeId × Value → H} {d : DataW H} {p : List MemPlace} (h : DataW.Trod enc Tryd.prog W 0 (fun _ => true) true 22 (.slice a len cap) d p) :
    ∃ l : List Nat, l.length = len ∧ len ≤ maxLen ∧ Rd W a l := by
  obtain ⟨fuel, hf⟩ := h
  rcases open_ints Tryd.underlying22 Tryd.underlying5 (by kernel_rfl) hf with ⟨hcs, _⟩ | ⟨x, l, c, zs, hcs, _, hl, hm, hz, _, hcell, hwz⟩
  · simp [Value.cells] at hcs
    obtain ⟨rfl, rfl, rfl⟩ := hcs
    exact ⟨[], rfl, Nat.zero_le _, by simp, fun h => by simp at h⟩
  · simp [Value.cells] at hcs
    obtain ⟨rfl, rfl, rfl⟩ := hcs
    simp only [if_true] at hz
    have hb : ∀ n ∈ zs, 0 ≤ n ∧ n ≤ 255 := fun n hn => by
      have := hwz n hn
      simp [Lit.wf, IntKind.min, IntKind.max, IntKind.signed, IntKind.bits] at this
      omega
    refine ⟨(zs.take len).map Int.toNat, by simp; omega, Nat.le_trans hl hm, ?_, ?_⟩
    · intro y hy
      obtain ⟨n, hn, rfl⟩ := List.mem_map.1 hy
      have := hb n (List.mem_of_mem_take hn)
      omega
    · intro h0
      simp at h0
      obtain ⟨b, off, spot⟩ := x
      have hc0 := hcell 0 (by omega)
      have hspot : spot = none := by simpa [Addr.add] using World.cell?_spot hc0
      subst hspot
      refine ⟨b, off, rfl, by simpa [Addr.add] using World.block_lt_of_cell? W _ hc0, fun i hi => ?_⟩
      simp at hi
      have hci := hcell i (by omega)
      have hadd : (⟨b, off, none⟩ : Addr).add i = ⟨b, off + i, none⟩ := by unfold Addr.add; split <;> simp_all
      rw [hadd] at hci
      rw [hci]
      have hil : i < zs.length := by omega
      have := hb zs[i] (List.getElem_mem hil)
      simp [U, List.getD, List.getElem?_eq_getElem hil]
      omega

/-- The same, with what is known of the capacity. -/
theorem rd_open0 {W : World} {a : Option Addr} {len cap : Nat} {H : Type} {enc : TypeId × Value → H} {d : DataW H} {p : List MemPlace} (h : DataW.Trod enc Tryd.prog W 0 (fun _ => true) true 22 (.slice a len cap) d p) :
    (a = none → cap = 0) ∧ len ≤ cap ∧ cap ≤ maxLen := by
  obtain ⟨fuel, hf⟩ := h
  rcases open_ints Tryd.underlying22 Tryd.underlying5 (by kernel_rfl) hf with ⟨hcs, _⟩ | ⟨x, l, c, zs, hcs, _, hl, hm, hz, _, hcell, hwz⟩
  · simp [Value.cells] at hcs
    obtain ⟨rfl, rfl, rfl⟩ := hcs
    exact ⟨fun _ => rfl, Nat.le_refl _, Nat.zero_le _⟩
  · simp [Value.cells] at hcs
    obtain ⟨rfl, rfl, rfl⟩ := hcs
    exact ⟨(fun h => by cases h), hl, hm⟩

/-- A world for the witness: the settled one, the table holding what its initialiser lays. -/
noncomputable def laidWorld (os : Os) : World :=
  { World.holding Tryd.prog os ⟨#[], #[], []⟩ with heap := (World.holding Tryd.prog os ⟨#[], #[], []⟩).heap.modify 0 fun
      | .cells _ t frozen => .cells (alph.map U).toArray t frozen
      | o => o }

end Go.Proofs.YtochlfmajkkddaaDoor
