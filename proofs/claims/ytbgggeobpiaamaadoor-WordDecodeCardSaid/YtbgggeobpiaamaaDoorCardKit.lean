/- What a card's proof asks: the listed variables give what the walks read of them; a witness. -/
import Derived.Test.YtbgggeobpiaamaaDoorCards
import Derived.Test.YtbgggeobpiaamaaDoorTie
import Derived.Test.YtbgggeobpiaamaaDoorFold
import Derived.ProofKit
import Derived.OpenShut
import Derived.ShutString
import Derived.ChangeOld
import Derived.Below
import Derived.Deep.DeepHandedRow
import Derived.Lib.LaidTab
import Derived.LaidSub
import Derived.Lay
import Derived.LaidMore
import Derived.Shelf.LaysM
namespace Go.Proofs.YtbgggeobpiaamaaDoor
open Go.ChangeShapes Go.WideShapes Go.ChangeAt Go.RowKit
open Go.ChangeMaps (open_string shut_string)
set_option linter.unusedVariables false
set_option maxRecDepth 100000

theorem own : ownKnob Tryd.prog.godebug = none := by kernel_rfl
theorem laidOut : laidOutB Tryd.prog = true := by kernel_rfl
/-- The list of every row of this seat. -/
def laidL : List (String × DataW Unit) := [("unicode/utf8.acceptRanges", Rows.laid_unicode_utf8_acceptRanges), ("unicode.asciiFold", Rows.laid_unicode_asciiFold), ("unicode.caseOrbit", Rows.laid_unicode_caseOrbit), ("bulletin/base64.alphabet", Rows.laid_bulletin_base64_alphabet), ("unicode.CaseRanges", Rows.laid_unicode_CaseRanges), ("unicode/utf8.first", Rows.laid_unicode_utf8_first)]
theorem plainL : (laidL.all fun x => x.2.handleName?.isNone) = true := by kernel_rfl
theorem laid_plain {W : World} (h : laidMetH Tryd.prog laidL W) : laidMet Tryd.prog laidL W := by rwa [MakeChecks.laidMetH_plain _ _ _ plainL] at h
theorem filtA : (laidL.filter fun x => x.1 == "bulletin/base64.alphabet") = [("bulletin/base64.alphabet", Lib.tabData .u8 (alph.map fun n : Nat => (n : Int)))] := by kernel_rfl
theorem filtF : (laidL.filter fun x => x.1 == "unicode.asciiFold") = [("unicode.asciiFold", Lib.tabData .u16 ((List.range 128).map fun c => (afF c : Int)))] := by kernel_rfl
theorem gTab : Tryd.prog.globalNamed "bulletin/base64.alphabet" = some 3 := by kernel_rfl
theorem gFold : Tryd.prog.globalNamed "unicode.asciiFold" = some 0 := by kernel_rfl
theorem tab_of {W : World} (h : laidMet Tryd.prog laidL W) : Tab W := by
  have h1 := h.filter (fun x => x.1 == "bulletin/base64.alphabet")
  rw [filtA] at h1
  have ht : Lib.TabIs Tryd.prog W "bulletin/base64.alphabet" .u8 (alph.map fun n : Nat => (n : Int)) := Lib.tabIs_of_head (rest := []) gTab (show (Tryd.prog.globals[3]?).map (·.type) = some 122 by kernel_rfl) Tryd.underlying122 Tryd.underlying5 (by kernel_rfl) (by kernel_rfl) h1
  have hc : ∀ g, g < 64 → W.cell? ⟨3, g, none⟩ = some (U (al g)) := fun g hg => by
    have := ht.cell gTab g (by simp [alph]; omega)
    rw [this]
    have hl : g < alph.length := by simp [alph]; omega
    simp [U, al, List.getD, List.getElem?_eq_getElem hl]
  exact ⟨World.block_lt_of_cell? W _ (hc 0 (by omega)), hc⟩
theorem fold_of {W : World} (h : laidMet Tryd.prog laidL W) : ∀ c, c < 128 → W.cell? ⟨0, c, none⟩ = some (.int .u16 (afF c : Int)) := by
  have h1 := h.filter (fun x => x.1 == "unicode.asciiFold")
  rw [filtF] at h1
  have ht : Lib.TabIs Tryd.prog W "unicode.asciiFold" .u16 ((List.range 128).map fun c => (afF c : Int)) := Lib.tabIs_of_head (rest := []) gFold (show (Tryd.prog.globals[0]?).map (·.type) = some 114 by kernel_rfl) Tryd.underlying114 Tryd.underlying113 (by kernel_rfl) (by kernel_rfl) h1
  intro c hc
  have := ht.cell gFold c (by simp; omega)
  rw [this]
  simp [List.getD, hc]
theorem mx_of {W : World} (h : W.ShapedOpen Tryd.prog) : ∃ m, W.cell? ⟨4, 0, none⟩ = some (.int .i64 m) :=
  Go.Proofs.cell_of_shapedOpen_int (zero := #[.int .i64 0]) (t := 3) h (of_decide_eq_true (by kernel_rfl)) (by kernel_rfl) rfl (by kernel_rfl) (by kernel_rfl) Tryd.underlying3
theorem last_row : (((begin Tryd.prog (fun _ _ => 0) default).world.heap[6]?).bind Obj.row?).isSome = true := by kernel_rfl
theorem size_of {W : World} (h : W.ShapedOpen Tryd.prog) : 7 ≤ W.heap.size := by
  obtain ⟨⟨zero, t⟩, hz⟩ := Option.isSome_iff_exists.1 last_row
  obtain ⟨cs, hh, _, _⟩ := h.1 6 zero t (of_decide_eq_true (by kernel_rfl)) hz
  exact lt_of_block hh
theorem env_of {W : World} (h : laidMetH Tryd.prog laidL W) (hs : W.ShapedOpen Tryd.prog) : Env W :=
  ⟨tab_of (laid_plain h), fold_of (laid_plain h), mx_of hs, size_of hs⟩

/-- The witness: every listed variable laid by the kit's function. -/
theorem witness {H : Type} {enc : TypeId × Value → H} {os : Os} {f : FuncId} {fn : Func} {s : OpenSpec} {conds : List PathCond} {apart : Bool} (args : Array Value)
    (hsh : ((World.laidAll Tryd.prog os laidL).forCall (fun _ _ => 0) ⟨#[], args, []⟩).Shaped Tryd.prog)
    (hok : Input.okWideB Tryd.prog ((World.laidAll Tryd.prog os laidL).forCall (fun _ _ => 0) ⟨#[], args, []⟩) f ⟨#[], args, []⟩ = true)
    (hrow : s.preRow enc Tryd.prog fn conds apart laidL ((World.laidAll Tryd.prog os laidL).forCall (fun _ _ => 0) ⟨#[], args, []⟩).memory args) :
    ∃ (w : World) (tape : Tape) (i : Input), w.os = os ∧ (w.forCall tape i).Shaped Tryd.prog ∧ i.vars = [] ∧ Input.okWide Tryd.prog (w.forCall tape i) .any w.heap.size f i ∧
      s.preRow enc Tryd.prog fn conds apart laidL (w.forCall tape i).memory i.args ∧ ({} : Assume).holds Tryd.prog (lone (Frame.enter Tryd.prog f i.args .normal) [] (w.forCall tape i)) :=
  ⟨World.laidAll Tryd.prog os laidL, fun _ _ => 0, ⟨#[], args, []⟩, World.laidAll_os _ _ _, hsh, (Input.okWide_of_okWideB (base := 0) hok).1, (Input.okWide_of_okWideB hok).2, hrow, by
    simp only [Assume.holds]
    exact ⟨by simp, by simp, by simp, by simp, by simp⟩⟩
theorem fits (os : Os) : (World.holding Tryd.prog os ⟨#[], #[], []⟩).layFits Tryd.prog laidL [] = true := by kernel_rfl
theorem ifaces (os : Os) : (World.holding Tryd.prog os ⟨#[], #[], []⟩).layIfaces Tryd.prog laidL (World.laidAll Tryd.prog os laidL) = true := by kernel_rfl
end Go.Proofs.YtbgggeobpiaamaaDoor
