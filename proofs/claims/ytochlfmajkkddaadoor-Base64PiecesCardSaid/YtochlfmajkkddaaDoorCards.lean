/-
  DERIVED. GIVEN WITH THE SEED: THE CARDS: each row of YtochlfmajkkddaaDoorRows.lean that lists a variable, with what it lists TIED to the program's text (the seventh form; the later family's looks); each row that meets fmt, with fmt's text TOLD by the authors' own Lean function (tested against real Go, not proved from fmt's source: count such statements apart). THE CARD IS WHAT COUNTS. Prove the row's statement (the work); the ties are given (YtochlfmajkkddaaDoorTie.lean); close each card by the builder's one call (the guide's Derived/Test/ToyasCard.lean, 'card_holds'). Laid BY PROGRAM, IN A SANDBOX (cutbox-door.mjs). By AI agents, Wed Nov 11 2026. No macro, syntax, notation, axiom, sorry.
-/
import Derived.Test.YtochlfmajkkddaaDoorRows
import GoSem.ClaimSeven
namespace Go.Proofs.YtochlfmajkkddaaDoor
namespace Rows

/-- THE TIED CARD OF 'bulletinlaw02.Base64Encode'. -/
def base64EncodeCard : Claim7 := { stood := { row := base64EncodeRow, standIns := [], harness := (true, "8ac1616d5484955d7b7504c43b209f105569e098a842b03a0bb23ed717f47fc4"), looks := false }, kinds := [], alts := [], laidByText := true, laidKinds := [.data], laidTests := true, laidLooks := .later }
def Base64EncodeCardSaid : Prop := Claim7.holds Tryd.pinned (.plain (OpenSpec.ofChange base64EncodeSpec)) base64EncodeCard

/-- THE TIED CARD OF 'bulletinlaw02.Base64Canonical'. -/
def base64CanonicalCard : Claim7 := { stood := { row := base64CanonicalRow, standIns := [], harness := (true, "8ac1616d5484955d7b7504c43b209f105569e098a842b03a0bb23ed717f47fc4"), looks := false }, kinds := [], alts := [], laidByText := true, laidKinds := [.data], laidTests := true, laidLooks := .later }
def Base64CanonicalCardSaid : Prop := Claim7.holds Tryd.pinned (.plain (OpenSpec.ofChange base64CanonicalSpec)) base64CanonicalCard

/-- THE TIED CARD OF 'bulletinlaw02.Base64Concatenation'. -/
def base64ConcatenationCard : Claim7 := { stood := { row := base64ConcatenationRow, standIns := [], harness := (true, "8ac1616d5484955d7b7504c43b209f105569e098a842b03a0bb23ed717f47fc4"), looks := false }, kinds := [], alts := [], laidByText := true, laidKinds := [.data], laidTests := true, laidLooks := .later }
def Base64ConcatenationCardSaid : Prop := Claim7.holds Tryd.pinned (.plain (OpenSpec.ofChange base64ConcatenationSpec)) base64ConcatenationCard

/-- THE TIED CARD OF 'bulletinlaw02.Base64Decode'. -/
def base64DecodeCard : Claim7 := { stood := { row := base64DecodeRow, standIns := [], harness := (true, "8ac1616d5484955d7b7504c43b209f105569e098a842b03a0bb23ed717f47fc4"), looks := false }, kinds := [], alts := [], laidByText := true, laidKinds := [.data], laidTests := true, laidLooks := .later }
def Base64DecodeCardSaid : Prop := Claim7.holds Tryd.pinned (.plain (OpenSpec.ofChange base64DecodeSpec)) base64DecodeCard

/-- THE TIED CARD OF 'bulletinlaw02.Base64RoundTrip'. -/
def base64RoundTripCard : Claim7 := { stood := { row := base64RoundTripRow, standIns := [], harness := (true, "8ac1616d5484955d7b7504c43b209f105569e098a842b03a0bb23ed717f47fc4"), looks := false }, kinds := [], alts := [], laidByText := true, laidKinds := [.data], laidTests := true, laidLooks := .later }
def Base64RoundTripCardSaid : Prop := Claim7.holds Tryd.pinned (.plain (OpenSpec.ofChange base64RoundTripSpec)) base64RoundTripCard

/-- THE TIED CARD OF 'bulletinlaw02.Base64Unwrap'. -/
def base64UnwrapCard : Claim7 := { stood := { row := base64UnwrapRow, standIns := [], harness := (true, "8ac1616d5484955d7b7504c43b209f105569e098a842b03a0bb23ed717f47fc4"), looks := false }, kinds := [], alts := [], laidByText := true, laidKinds := [.data], laidTests := true, laidLooks := .later }
def Base64UnwrapCardSaid : Prop := Claim7.holds Tryd.pinned (.plain (OpenSpec.ofChange base64UnwrapSpec)) base64UnwrapCard

/-- THE TIED CARD OF 'bulletinlaw02.Base64Limits'. -/
def base64LimitsCard : Claim7 := { stood := { row := base64LimitsRow, standIns := [], harness := (true, "8ac1616d5484955d7b7504c43b209f105569e098a842b03a0bb23ed717f47fc4"), looks := false }, kinds := [], alts := [], laidByText := true, laidKinds := [.data], laidTests := true, laidLooks := .later }
def Base64LimitsCardSaid : Prop := Claim7.holds Tryd.pinned (.plain (OpenSpec.ofChange base64LimitsSpec)) base64LimitsCard

/-- THE TIED CARD OF 'bulletinlaw02.Base64Pieces'. -/
def base64PiecesCard : Claim7 := { stood := { row := base64PiecesRow, standIns := [], harness := (true, "8ac1616d5484955d7b7504c43b209f105569e098a842b03a0bb23ed717f47fc4"), looks := false }, kinds := [], alts := [], laidByText := true, laidKinds := [.data], laidTests := true, laidLooks := .later }
def Base64PiecesCardSaid : Prop := Claim7.holds Tryd.pinned (.plain (OpenSpec.ofChange base64PiecesSpec)) base64PiecesCard

/-- THE TIED CARD OF 'bulletinlaw02.Base64Wrap'. -/
def base64WrapCard : Claim7 := { stood := { row := base64WrapRow, standIns := [], harness := (true, "8ac1616d5484955d7b7504c43b209f105569e098a842b03a0bb23ed717f47fc4"), looks := false }, kinds := [], alts := [], laidByText := true, laidKinds := [.data], laidTests := true, laidLooks := .later }
def Base64WrapCardSaid : Prop := Claim7.holds Tryd.pinned (.plain (OpenSpec.ofChange base64WrapSpec)) base64WrapCard

/-- THE SECOND FORM's CARD OF 'bulletinlaw02.Base64Encode'. -/
def base64EncodeUptoCard : Claim7 := { stood := { row := base64EncodeUptoRow, standIns := [], harness := (true, "8ac1616d5484955d7b7504c43b209f105569e098a842b03a0bb23ed717f47fc4"), looks := false }, kinds := [], alts := [], laidByText := true, laidKinds := [.data], laidTests := true, laidLooks := .later }
def Base64EncodeUptoCardSaid : Prop := Claim7.holds Tryd.pinned (.plain (OpenSpec.upto base64EncodeSpec)) base64EncodeUptoCard

/-- THE SECOND FORM's CARD OF 'bulletinlaw02.Base64Canonical'. -/
def base64CanonicalUptoCard : Claim7 := { stood := { row := base64CanonicalUptoRow, standIns := [], harness := (true, "8ac1616d5484955d7b7504c43b209f105569e098a842b03a0bb23ed717f47fc4"), looks := false }, kinds := [], alts := [], laidByText := true, laidKinds := [.data], laidTests := true, laidLooks := .later }
def Base64CanonicalUptoCardSaid : Prop := Claim7.holds Tryd.pinned (.plain (OpenSpec.upto base64CanonicalSpec)) base64CanonicalUptoCard

/-- THE SECOND FORM's CARD OF 'bulletinlaw02.Base64Concatenation'. -/
def base64ConcatenationUptoCard : Claim7 := { stood := { row := base64ConcatenationUptoRow, standIns := [], harness := (true, "8ac1616d5484955d7b7504c43b209f105569e098a842b03a0bb23ed717f47fc4"), looks := false }, kinds := [], alts := [], laidByText := true, laidKinds := [.data], laidTests := true, laidLooks := .later }
def Base64ConcatenationUptoCardSaid : Prop := Claim7.holds Tryd.pinned (.plain (OpenSpec.upto base64ConcatenationSpec)) base64ConcatenationUptoCard

/-- THE SECOND FORM's CARD OF 'bulletinlaw02.Base64Decode'. -/
def base64DecodeUptoCard : Claim7 := { stood := { row := base64DecodeUptoRow, standIns := [], harness := (true, "8ac1616d5484955d7b7504c43b209f105569e098a842b03a0bb23ed717f47fc4"), looks := false }, kinds := [], alts := [], laidByText := true, laidKinds := [.data], laidTests := true, laidLooks := .later }
def Base64DecodeUptoCardSaid : Prop := Claim7.holds Tryd.pinned (.plain (OpenSpec.upto base64DecodeSpec)) base64DecodeUptoCard

/-- THE SECOND FORM's CARD OF 'bulletinlaw02.Base64RoundTrip'. -/
def base64RoundTripUptoCard : Claim7 := { stood := { row := base64RoundTripUptoRow, standIns := [], harness := (true, "8ac1616d5484955d7b7504c43b209f105569e098a842b03a0bb23ed717f47fc4"), looks := false }, kinds := [], alts := [], laidByText := true, laidKinds := [.data], laidTests := true, laidLooks := .later }
def Base64RoundTripUptoCardSaid : Prop := Claim7.holds Tryd.pinned (.plain (OpenSpec.upto base64RoundTripSpec)) base64RoundTripUptoCard

/-- THE SECOND FORM's CARD OF 'bulletinlaw02.Base64Unwrap'. -/
def base64UnwrapUptoCard : Claim7 := { stood := { row := base64UnwrapUptoRow, standIns := [], harness := (true, "8ac1616d5484955d7b7504c43b209f105569e098a842b03a0bb23ed717f47fc4"), looks := false }, kinds := [], alts := [], laidByText := true, laidKinds := [.data], laidTests := true, laidLooks := .later }
def Base64UnwrapUptoCardSaid : Prop := Claim7.holds Tryd.pinned (.plain (OpenSpec.upto base64UnwrapSpec)) base64UnwrapUptoCard

/-- THE SECOND FORM's CARD OF 'bulletinlaw02.Base64Limits'. -/
def base64LimitsUptoCard : Claim7 := { stood := { row := base64LimitsUptoRow, standIns := [], harness := (true, "8ac1616d5484955d7b7504c43b209f105569e098a842b03a0bb23ed717f47fc4"), looks := false }, kinds := [], alts := [], laidByText := true, laidKinds := [.data], laidTests := true, laidLooks := .later }
def Base64LimitsUptoCardSaid : Prop := Claim7.holds Tryd.pinned (.plain (OpenSpec.upto base64LimitsSpec)) base64LimitsUptoCard

/-- THE SECOND FORM's CARD OF 'bulletinlaw02.Base64Pieces'. -/
def base64PiecesUptoCard : Claim7 := { stood := { row := base64PiecesUptoRow, standIns := [], harness := (true, "8ac1616d5484955d7b7504c43b209f105569e098a842b03a0bb23ed717f47fc4"), looks := false }, kinds := [], alts := [], laidByText := true, laidKinds := [.data], laidTests := true, laidLooks := .later }
def Base64PiecesUptoCardSaid : Prop := Claim7.holds Tryd.pinned (.plain (OpenSpec.upto base64PiecesSpec)) base64PiecesUptoCard

/-- THE SECOND FORM's CARD OF 'bulletinlaw02.Base64Wrap'. -/
def base64WrapUptoCard : Claim7 := { stood := { row := base64WrapUptoRow, standIns := [], harness := (true, "8ac1616d5484955d7b7504c43b209f105569e098a842b03a0bb23ed717f47fc4"), looks := false }, kinds := [], alts := [], laidByText := true, laidKinds := [.data], laidTests := true, laidLooks := .later }
def Base64WrapUptoCardSaid : Prop := Claim7.holds Tryd.pinned (.plain (OpenSpec.upto base64WrapSpec)) base64WrapUptoCard
end Rows
end Go.Proofs.YtochlfmajkkddaaDoor
