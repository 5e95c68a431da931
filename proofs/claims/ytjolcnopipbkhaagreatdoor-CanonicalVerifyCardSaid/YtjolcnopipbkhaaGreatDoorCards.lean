/-
  DERIVED. GIVEN WITH THE SEED: THE CARDS: each row of YtjolcnopipbkhaaGreatDoorRows.lean that lists a variable, with what it lists TIED to the program's text (the seventh form; the later family's looks); each row that meets fmt, with fmt's text TOLD by the authors' own Lean function (tested against real Go, not proved from fmt's source: count such statements apart). THE CARD IS WHAT COUNTS. Prove the row's statement (the work); the ties are given (YtjolcnopipbkhaaGreatDoorTie.lean); close each card by the builder's one call (the guide's Derived/Test/ToyasCard.lean, 'card_holds'). Laid BY PROGRAM, IN A SANDBOX (cutbox-door.mjs). By AI agents, Wed Nov 11 2026. No macro, syntax, notation, axiom, sorry.
-/
import Derived.Test.YtjolcnopipbkhaaGreatDoorRows
import GoSem.ClaimSeven
namespace Go.Proofs.YtjolcnopipbkhaaGreatDoor
namespace Rows

/-- THE TIED CARD OF 'bulletinlaw18.CanonicalForm'. -/
def canonicalFormCard : Claim7 := { stood := { row := canonicalFormRow, standIns := [], harness := (true, "cef433a205f908cab09d7a4901289901f891057f2b03e019f4ee23afcefe2990"), looks := false }, kinds := [], alts := [], laidByText := true, laidKinds := [.data, .data, .data, .data, .data, .data, .data, .pinned], laidTests := true, laidLooks := .later }
def CanonicalFormCardSaid : Prop := Claim7.holds Tryz.pinned (.plain (OpenSpec.ofChange canonicalFormSpec)) canonicalFormCard

/-- THE TIED CARD OF 'bulletinlaw18.CanonicalVerify'. -/
def canonicalVerifyCard : Claim7 := { stood := { row := canonicalVerifyRow, standIns := [], harness := (true, "cef433a205f908cab09d7a4901289901f891057f2b03e019f4ee23afcefe2990"), looks := false }, kinds := [], alts := [], laidByText := true, laidKinds := [.data, .data, .data, .data, .data, .data, .data, .pinned], laidTests := true, laidLooks := .later }
def CanonicalVerifyCardSaid : Prop := Claim7.holds Tryz.pinned (.plain (OpenSpec.ofChange canonicalVerifySpec)) canonicalVerifyCard

/-- THE SECOND FORM's CARD OF 'bulletinlaw18.CanonicalForm'. -/
def canonicalFormUptoCard : Claim7 := { stood := { row := canonicalFormUptoRow, standIns := [], harness := (true, "cef433a205f908cab09d7a4901289901f891057f2b03e019f4ee23afcefe2990"), looks := false }, kinds := [], alts := [], laidByText := true, laidKinds := [.data, .data, .data, .data, .data, .data, .data, .pinned], laidTests := true, laidLooks := .later }
def CanonicalFormUptoCardSaid : Prop := Claim7.holds Tryz.pinned (.plain (OpenSpec.upto canonicalFormSpec)) canonicalFormUptoCard

/-- THE SECOND FORM's CARD OF 'bulletinlaw18.CanonicalVerify'. -/
def canonicalVerifyUptoCard : Claim7 := { stood := { row := canonicalVerifyUptoRow, standIns := [], harness := (true, "cef433a205f908cab09d7a4901289901f891057f2b03e019f4ee23afcefe2990"), looks := false }, kinds := [], alts := [], laidByText := true, laidKinds := [.data, .data, .data, .data, .data, .data, .data, .pinned], laidTests := true, laidLooks := .later }
def CanonicalVerifyUptoCardSaid : Prop := Claim7.holds Tryz.pinned (.plain (OpenSpec.upto canonicalVerifySpec)) canonicalVerifyUptoCard
end Rows
end Go.Proofs.YtjolcnopipbkhaaGreatDoor
