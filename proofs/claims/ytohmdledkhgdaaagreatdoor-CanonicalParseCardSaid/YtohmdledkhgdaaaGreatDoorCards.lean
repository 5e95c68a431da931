/-
  DERIVED. GIVEN WITH THE SEED: THE CARDS: each row of YtohmdledkhgdaaaGreatDoorRows.lean that lists a variable, with what it lists TIED to the program's text (the seventh form; the later family's looks); each row that meets fmt, with fmt's text TOLD by the authors' own Lean function (tested against real Go, not proved from fmt's source: count such statements apart). THE CARD IS WHAT COUNTS. Prove the row's statement (the work); the ties are given (YtohmdledkhgdaaaGreatDoorTie.lean); close each card by the builder's one call (the guide's Derived/Test/ToyasCard.lean, 'card_holds'). Laid BY PROGRAM, IN A SANDBOX (cutbox-door.mjs). By AI agents, Wed Nov 11 2026. No macro, syntax, notation, axiom, sorry.
-/
import Derived.Test.YtohmdledkhgdaaaGreatDoorRows
import GoSem.ClaimSeven
namespace Go.Proofs.YtohmdledkhgdaaaGreatDoor
namespace Rows

/-- THE TIED CARD OF 'bulletinlaw18.CanonicalIdentity'. -/
def canonicalIdentityCard : Claim7 := { stood := { row := canonicalIdentityRow, standIns := [], harness := (true, "6feafc94a5e361fe2daa9761e0c945d463129e708885a9c7dd5cc83a98829c10"), looks := false }, kinds := [], alts := [], laidByText := true, laidKinds := [.data, .data, .data, .data, .data, .data, .data, .pinned], laidTests := true, laidLooks := .later }
def CanonicalIdentityCardSaid : Prop := Claim7.holds Tryz.pinned (.plain (OpenSpec.ofChange canonicalIdentitySpec)) canonicalIdentityCard

/-- THE TIED CARD OF 'bulletinlaw18.CanonicalLong'. -/
def canonicalLongCard : Claim7 := { stood := { row := canonicalLongRow, standIns := [], harness := (true, "6feafc94a5e361fe2daa9761e0c945d463129e708885a9c7dd5cc83a98829c10"), looks := false }, kinds := [], alts := [], laidByText := true, laidKinds := [.data, .data, .data, .data, .data, .data, .data, .pinned], laidTests := true, laidLooks := .later }
def CanonicalLongCardSaid : Prop := Claim7.holds Tryz.pinned (.plain (OpenSpec.ofChange canonicalLongSpec)) canonicalLongCard

/-- THE TIED CARD OF 'bulletinlaw18.CanonicalParse'. -/
def canonicalParseCard : Claim7 := { stood := { row := canonicalParseRow, standIns := [], harness := (true, "6feafc94a5e361fe2daa9761e0c945d463129e708885a9c7dd5cc83a98829c10"), looks := false }, kinds := [], alts := [], laidByText := true, laidKinds := [.data, .data, .data, .data, .data, .data, .data, .pinned], laidTests := true, laidLooks := .later }
def CanonicalParseCardSaid : Prop := Claim7.holds Tryz.pinned (.plain (OpenSpec.ofChange canonicalParseSpec)) canonicalParseCard

/-- THE TIED CARD OF 'bulletinlaw18.CanonicalForm'. -/
def canonicalFormCard : Claim7 := { stood := { row := canonicalFormRow, standIns := [], harness := (true, "6feafc94a5e361fe2daa9761e0c945d463129e708885a9c7dd5cc83a98829c10"), looks := false }, kinds := [], alts := [], laidByText := true, laidKinds := [.data, .data, .data, .data, .data, .data, .data, .pinned], laidTests := true, laidLooks := .later }
def CanonicalFormCardSaid : Prop := Claim7.holds Tryz.pinned (.plain (OpenSpec.ofChange canonicalFormSpec)) canonicalFormCard

/-- THE SECOND FORM's CARD OF 'bulletinlaw18.CanonicalIdentity'. -/
def canonicalIdentityUptoCard : Claim7 := { stood := { row := canonicalIdentityUptoRow, standIns := [], harness := (true, "6feafc94a5e361fe2daa9761e0c945d463129e708885a9c7dd5cc83a98829c10"), looks := false }, kinds := [], alts := [], laidByText := true, laidKinds := [.data, .data, .data, .data, .data, .data, .data, .pinned], laidTests := true, laidLooks := .later }
def CanonicalIdentityUptoCardSaid : Prop := Claim7.holds Tryz.pinned (.plain (OpenSpec.upto canonicalIdentitySpec)) canonicalIdentityUptoCard

/-- THE SECOND FORM's CARD OF 'bulletinlaw18.CanonicalLong'. -/
def canonicalLongUptoCard : Claim7 := { stood := { row := canonicalLongUptoRow, standIns := [], harness := (true, "6feafc94a5e361fe2daa9761e0c945d463129e708885a9c7dd5cc83a98829c10"), looks := false }, kinds := [], alts := [], laidByText := true, laidKinds := [.data, .data, .data, .data, .data, .data, .data, .pinned], laidTests := true, laidLooks := .later }
def CanonicalLongUptoCardSaid : Prop := Claim7.holds Tryz.pinned (.plain (OpenSpec.upto canonicalLongSpec)) canonicalLongUptoCard

/-- THE SECOND FORM's CARD OF 'bulletinlaw18.CanonicalParse'. -/
def canonicalParseUptoCard : Claim7 := { stood := { row := canonicalParseUptoRow, standIns := [], harness := (true, "6feafc94a5e361fe2daa9761e0c945d463129e708885a9c7dd5cc83a98829c10"), looks := false }, kinds := [], alts := [], laidByText := true, laidKinds := [.data, .data, .data, .data, .data, .data, .data, .pinned], laidTests := true, laidLooks := .later }
def CanonicalParseUptoCardSaid : Prop := Claim7.holds Tryz.pinned (.plain (OpenSpec.upto canonicalParseSpec)) canonicalParseUptoCard

/-- THE SECOND FORM's CARD OF 'bulletinlaw18.CanonicalForm'. -/
def canonicalFormUptoCard : Claim7 := { stood := { row := canonicalFormUptoRow, standIns := [], harness := (true, "6feafc94a5e361fe2daa9761e0c945d463129e708885a9c7dd5cc83a98829c10"), looks := false }, kinds := [], alts := [], laidByText := true, laidKinds := [.data, .data, .data, .data, .data, .data, .data, .pinned], laidTests := true, laidLooks := .later }
def CanonicalFormUptoCardSaid : Prop := Claim7.holds Tryz.pinned (.plain (OpenSpec.upto canonicalFormSpec)) canonicalFormUptoCard
end Rows
end Go.Proofs.YtohmdledkhgdaaaGreatDoor
