/-
  DERIVED. GIVEN WITH THE SEED: THE CARDS: each row of YtolhjijnbobphaaGreatDoorRows.lean that lists a variable, with what it lists TIED to the program's text (the seventh form; the later family's looks); each row that meets fmt, with fmt's text TOLD by the authors' own Lean function (tested against real Go, not proved from fmt's source: count such statements apart). THE CARD IS WHAT COUNTS. Prove the row's statement (the work); the ties are given (YtolhjijnbobphaaGreatDoorTie.lean); close each card by the builder's one call (the guide's Derived/Test/ToyasCard.lean, 'card_holds'). Laid BY PROGRAM, IN A SANDBOX (cutbox-door.mjs). By AI agents, Wed Nov 11 2026. No macro, syntax, notation, axiom, sorry.
-/
import Derived.Test.YtolhjijnbobphaaGreatDoorRows
import GoSem.ClaimSeven
namespace Go.Proofs.YtolhjijnbobphaaGreatDoor
namespace Rows

/-- THE TIED CARD OF 'bulletinlaw32.TransferNil'. -/
def transferNilCard : Claim7 := { stood := { row := transferNilRow, standIns := [], harness := (true, "4f917627af35485f9f63a70ec2a17b5769fdf2a34fe88cb855acfc55680186fc"), looks := false }, kinds := [], alts := [], laidByText := true, laidKinds := [.data, .data], laidTests := true, laidLooks := .later }
def TransferNilCardSaid : Prop := Claim7.holds Tryz.pinned (.plain (OpenSpec.ofChange transferNilSpec)) transferNilCard

/-- THE SECOND FORM's CARD OF 'bulletinlaw32.TransferNil'. -/
def transferNilUptoCard : Claim7 := { stood := { row := transferNilUptoRow, standIns := [], harness := (true, "4f917627af35485f9f63a70ec2a17b5769fdf2a34fe88cb855acfc55680186fc"), looks := false }, kinds := [], alts := [], laidByText := true, laidKinds := [.data, .data], laidTests := true, laidLooks := .later }
def TransferNilUptoCardSaid : Prop := Claim7.holds Tryz.pinned (.plain (OpenSpec.upto transferNilSpec)) transferNilUptoCard
end Rows
end Go.Proofs.YtolhjijnbobphaaGreatDoor
